/- nor: the reference's Read. No condition. -/
import Derived.Test.YtjlcgffcfhfffaaNorFn6
namespace Go.Proofs.Ytjlcgffcfhfffaa
open Go.ChangeShapes Go.WideShapes Go.ChangeAt Go.RowKit
set_option maxRecDepth 100000 in
set_option maxHeartbeats 4000000 in
theorem refRead_any (w : World) (g gb gc cb cc : Nat) (f : Fl) (hf : FlB w g gb gc cb cc f) (p n : Int) (hp : IntR p) (hn : IntR n) :
    Calls Try.prog 30 #[.pointer (some ⟨g, 0, none⟩), .int .i64 p, .int .i64 n] w (ReadRet f p n w) := by
  have hl := hf.len
  obtain ⟨q1, q2, q3⟩ := hf.caps
  obtain ⟨c0, c1, c2, c3, c4, c5, c6, c7, c8⟩ := hf.cells
  have hT := refThere_any w g gb gc cb cc f hf p n hp hn
  cases hd : f.down with
  | true =>
    rw [hd] at c5
    have e1 : f.readE p n = 5 := by unfold Fl.readE; rw [hd]; rfl
    have e2 : f.readB p n = [] := by unfold Fl.readB; rw [e1]; rfl
    unfold ReadRet
    rw [e1, e2]
    clear hT hf
    go_enter Try.func30, Try.ntmps30
    go_wp2_with fail
    go_ret2
    exact ⟨none, 0, 0, rfl, World.ownsRow_nil _ _ _ _, Below.refl _ _⟩
  | false =>
    rw [hd] at c5
    by_cases h : f.readE p n = 0
    · obtain ⟨_, ht⟩ := readE_yes h
      unfold Fl.there at ht
      rw [show decide (0 ≤ p ∧ 0 ≤ n ∧ p ≤ ((f.S * f.Z : Nat) : Int) ∧ n ≤ ((f.S * f.Z : Nat) : Int) - p) = true from decide_eq_true (by omega)] at hT
      have HT := Lib.hid hT
      obtain ⟨p, rfl⟩ : ∃ k : Nat, p = k := ⟨p.toNat, by omega⟩
      obtain ⟨n, rfl⟩ : ∃ k : Nat, n = k := ⟨n.toNat, by omega⟩
      have hpl : p + n ≤ f.S * f.Z := by omega
      have hlt := hf.lt.1
      have hS : ∀ o, (0 < n → o = p) → Sl encB w (some ⟨gb, o, none⟩) n ((f.bs.drop p).take n) := by
        intro o ho
        refine ⟨by simp; omega, fun h0 => ⟨gb, o, rfl, hf.rb.lt, fun i hi => ?_⟩⟩
        obtain rfl := ho h0
        have hi' : i < n := by simp at hi; omega
        rw [(hf.rb.cell (o + i) (by omega)).1]
        simp [List.getD, List.getElem?_eq_getElem (show o + i < f.bs.length by omega)]
      have HS := Lib.hid hS
      have hrb : f.readB p n = (f.bs.drop p).take n := by unfold Fl.readB; rw [if_pos h]; rfl
      have HRB := Lib.hid hrb
      have HO0 := Lib.hid (own_empty w w.heap.size 5 (Nat.le_refl _))
      have HB0 := Lib.hid ((Below.refl w.heap.size w).alloc (Nat.le_refl _) (.cells #[] 5))
      have d3 := (HB0.out.cell hlt).trans c3
      unfold ReadRet
      rw [show f.readE (p : Int) (n : Int) = 0 from h]
      clear hT hf hS hrb ht h
      generalize f.S * f.Z = N at c3 d3 hpl q1 q3
      by_cases hcp : cb = p
      · have hn0 : n = 0 := by omega
        subst hn0
        rw [show ((0 : Nat) : Int) = 0 from rfl] at HT HRB ⊢
        have g1 : (0 : Int) ≤ p := by omega
        have g3 : (p : Int) ≤ cb := by omega
        go_enter Try.func30, Try.ntmps30
        go_wp2_with fail
        with_reducible refine HT.out.mono ?_
        rintro e w1 ⟨rfl, rfl⟩
        go_wp2_with (at_builtin; first
          | (refine wpList_app1 oneB rfl _ _ _ rfl w.heap.size _ _ _ rfl HO0.out _ _ _ rfl (((HS.out 0 (by omega)).below HB0.out).src encB_cell Try.underlying22 _) (by omega) (by unfold maxLen; omega) HB0.out.size ?_; intro v2 w2 hown2 hg2 hb2; have HO2 := Lib.hid hown2; have HB2 := Lib.hid (HB0.out.trans hb2); clear hown2 hg2 hb2))
        have HO3 := HO2.out
        simp only [Nat.zero_add, List.nil_append, Nat.add_sub_cancel_left] at HO3
        obtain ⟨a2, c2, rfl, _, _⟩ := Sl.ofOwn HO3
        go_ret2
        refine ⟨_, _, _, rfl, ?_, HB2.out⟩
        rw [HRB.out]
        exact HO3
      · have HS2 := Lib.hid (show Sl encB w (some ⟨gb, p, none⟩) (p + n - p) ((f.bs.drop p).take n) by rw [Nat.add_sub_cancel_left]; exact HS.out p (fun _ => rfl))
        have g1 : (0 : Int) ≤ p := by omega
        have g2 : (p : Int) ≤ p + n := by omega
        have g3 : (p : Int) + n ≤ cb := by omega
        go_enter Try.func30, Try.ntmps30
        go_wp2_with fail
        with_reducible refine HT.out.mono ?_
        rintro e w1 ⟨rfl, rfl⟩
        go_wp2_with (at_builtin; first
          | (refine wpList_app1 oneB rfl _ _ _ rfl w.heap.size _ _ _ rfl HO0.out _ _ _ rfl ((HS2.out.below HB0.out).src encB_cell Try.underlying22 _) (by omega) (by unfold maxLen; omega) HB0.out.size ?_; intro v2 w2 hown2 hg2 hb2; have HO2 := Lib.hid hown2; have HB2 := Lib.hid (HB0.out.trans hb2); clear hown2 hg2 hb2))
        have HO3 := HO2.out
        simp only [Nat.zero_add, List.nil_append, Nat.add_sub_cancel_left] at HO3
        obtain ⟨a2, c2, rfl, _, _⟩ := Sl.ofOwn HO3
        go_ret2
        refine ⟨_, _, _, rfl, ?_, HB2.out⟩
        rw [HRB.out]
        exact HO3
    · have ht : ¬ f.there p n := by
        intro a; apply h; unfold Fl.readE; rw [hd]; simp [a]
      have e1 : f.readE p n = 2 := by unfold Fl.readE; rw [hd]; simp [ht]
      have e2 : f.readB p n = [] := by unfold Fl.readB; rw [e1]; rfl
      unfold Fl.there at ht
      rw [hl] at ht
      rw [show decide (0 ≤ p ∧ 0 ≤ n ∧ p ≤ ((f.S * f.Z : Nat) : Int) ∧ n ≤ ((f.S * f.Z : Nat) : Int) - p) = false from decide_eq_false ht] at hT
      have HT := Lib.hid hT
      unfold ReadRet
      rw [e1, e2]
      clear hT hf ht
      go_enter Try.func30, Try.ntmps30
      go_wp2_with fail
      with_reducible refine HT.out.mono ?_
      rintro e w1 ⟨rfl, rfl⟩
      go_wp2_with fail
      go_ret2
      exact ⟨none, 0, 0, rfl, World.ownsRow_nil _ _ _ _, Below.refl _ _⟩
end Go.Proofs.Ytjlcgffcfhfffaa
