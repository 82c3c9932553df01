/- nor: reading. No condition. -/
import Derived.Test.YtdnnodpchjnleaaNorFn
import Derived.Test.YtdnnodpchjnleaaClone
namespace Go.Proofs.Ytdnnodpchjnleaa
open Go.ChangeShapes Go.WideShapes Go.ChangeAt Go.RowKit
theorem IsFl.len {tF eb ec : TypeId} {w : World} {g gb gc cb cc : Nat} {f : Fl} (h : IsFl tF eb ec w g gb gc cb cc f) : f.bs.length = f.S * f.Z := h.ok.hb
theorem IsFl.caps {tF eb ec : TypeId} {w : World} {g gb gc cb cc : Nat} {f : Fl} (h : IsFl tF eb ec w g gb gc cb cc f) : f.S * f.Z ≤ cb ∧ cb ≤ maxLen ∧ f.S * f.Z ≤ 4194304 := by
  obtain ⟨cur, _, h1, h2, _⟩ := h.rb
  refine ⟨h1, h2, ?_⟩
  have := Nat.mul_le_mul h.ok.s2 h.ok.z2
  omega
set_option maxRecDepth 100000 in
set_option maxHeartbeats 4000000 in
theorem span_no (w : World) (g gb gc cb cc : Nat) (f : Fl) (hf : FlA w g gb gc cb cc f) (p n : Int) (hp : IntR p) (hn : IntR n) (h : f.readE p n ≠ 0) :
    Calls Try.prog 33 #[.pointer (some ⟨g, 0, none⟩), .int .i64 p, .int .i64 n] w fun e w' => e = .returned (.tuple #[.slice none 0 0, .int .i64 (f.readE p n)]) ∧ w = w' := by
  obtain ⟨p1, p2⟩ := hp
  obtain ⟨n1, n2⟩ := hn
  obtain ⟨c0, c1, c2, c3, c4, c5, c6, c7, c8⟩ := hf.cells
  have hlen := hf.len
  obtain ⟨q1, q2, q3⟩ := hf.caps
  unfold Fl.readE at h ⊢
  cases hd : f.down with
  | true =>
    rw [hd] at c5
    simp only [if_true]
    clear h hf
    go_enter Try.func33, Try.ntmps33
    go_wp2_with fail
    go_ret2
    exact ⟨rfl, rfl⟩
  | false =>
    rw [hd] at c5 h
    simp only [Bool.false_eq_true, if_false] at h ⊢
    have ht : ¬ f.there p n := fun a => h (if_pos a)
    rw [if_neg ht]
    unfold Fl.there at ht
    rw [hlen] at ht
    generalize f.S * f.Z = N at c3 ht q1 q3
    clear h hf hd hlen
    by_cases k1 : p < 0
    · go_enter Try.func33, Try.ntmps33
      go_wp2_with fail
      go_ret2
      exact ⟨rfl, rfl⟩
    by_cases k2 : n < 0
    · go_enter Try.func33, Try.ntmps33
      go_wp2_with fail
      go_ret2
      exact ⟨rfl, rfl⟩
    by_cases k3 : (N : Int) < p
    · go_enter Try.func33, Try.ntmps33
      go_wp2_with fail
      go_ret2
      exact ⟨rfl, rfl⟩
    have k4 : (N : Int) - p < n := by omega
    go_enter Try.func33, Try.ntmps33
    go_wp2_with fail
    go_ret2
    exact ⟨rfl, rfl⟩
/-- A part of the bytes, in place. -/
def SpanRet (w : World) (gb p n : Nat) (e : Ending) (w' : World) : Prop := (∃ o, (0 < n → o = p) ∧ e = .returned (.tuple #[.slice (some ⟨gb, o, none⟩) n n, .int .i64 0])) ∧ w = w'
set_option maxRecDepth 100000 in
set_option maxHeartbeats 4000000 in
theorem span_yes (w : World) (g gb gc cb cc : Nat) (f : Fl) (hf : FlA w g gb gc cb cc f) (p n : Nat) (hd : f.down = false) (h : p + n ≤ f.S * f.Z) :
    Calls Try.prog 33 #[.pointer (some ⟨g, 0, none⟩), .int .i64 p, .int .i64 n] w (SpanRet w gb p n) := by
  obtain ⟨c0, c1, c2, c3, c4, c5, c6, c7, c8⟩ := hf.cells
  obtain ⟨q1, q2, q3⟩ := hf.caps
  rw [hd] at c5
  generalize f.S * f.Z = N at c3 h q1 q3
  clear hf hd
  have k1 : ¬ (p : Int) < 0 := by omega
  have k2 : ¬ (n : Int) < 0 := by omega
  have k3 : ¬ (N : Int) < p := by omega
  have k4 : ¬ (N : Int) - p < n := by omega
  have g1 : (0 : Int) ≤ p := by omega
  have g2 : (p : Int) ≤ p + n := by omega
  have g3 : (p : Int) + n ≤ cb := by omega
  go_enter Try.func33, Try.ntmps33
  go_wp2_with fail
  · go_ret2
    exact ⟨⟨0, fun h => absurd h (by omega), rfl⟩, rfl⟩
  · go_ret2
    refine ⟨⟨p, fun _ => rfl, ?_⟩, rfl⟩
    first | rfl | (simp only [Nat.add_sub_cancel_left]; rfl)
/-- What Read returns. -/
def ReadRet (f : Fl) (p n : Int) (w : World) (e : Ending) (w' : World) : Prop :=
  ∃ a m c, e = .returned (.tuple #[.slice a m c, .int .i64 (f.readE p n)]) ∧ w'.ownsRow w.heap.size 5 1 (.slice a m c) m ((f.readB p n).map encB) ∧ Below w.heap.size w w'
theorem readE_yes {f : Fl} {p n : Int} (h : f.readE p n = 0) : f.down = false ∧ f.there p n := by
  unfold Fl.readE at h
  split at h
  · cases h
  · split at h
    · exact ⟨by simpa using ‹¬ f.down = true›, ‹_›⟩
    · cases h
set_option maxRecDepth 100000 in
set_option maxHeartbeats 4000000 in
theorem Read_any (w : World) (g gb gc cb cc : Nat) (f : Fl) (hf : FlA w g gb gc cb cc f) (p n : Int) (hp : IntR p) (hn : IntR n) :
    Calls Try.prog 28 #[.pointer (some ⟨g, 0, none⟩), .int .i64 p, .int .i64 n] w (ReadRet f p n w) := by
  by_cases h : f.readE p n = 0
  · obtain ⟨hd, ht⟩ := readE_yes h
    unfold Fl.there at ht
    obtain ⟨p, rfl⟩ : ∃ k : Nat, p = k := ⟨p.toNat, by omega⟩
    obtain ⟨n, rfl⟩ : ∃ k : Nat, n = k := ⟨n.toNat, by omega⟩
    have hl := hf.len
    have hq := hf.caps.2.2
    have hS := Lib.hid (span_yes w g gb gc cb cc f hf p n hd (by omega))
    have hpl : ((f.bs.drop p).take n).length = n := by simp; omega
    have hrb : f.readB p n = (f.bs.drop p).take n := by unfold Fl.readB; rw [if_pos h]; rfl
    have hsl : ∀ o, (0 < n → o = p) → Sl encB w (some ⟨gb, o, none⟩) n ((f.bs.drop p).take n) := by
      intro o ho
      refine ⟨hpl, fun h0 => ⟨gb, o, rfl, hf.rb.lt, fun i hi => ?_⟩⟩
      obtain rfl := ho h0
      have hi' : i < n := by omega
      rw [(hf.rb.cell (o + i) (by omega)).1]
      simp [List.getD, List.getElem?_eq_getElem (show o + i < f.bs.length by omega)]
    have HSL := Lib.hid hsl
    have HRB := Lib.hid hrb
    unfold ReadRet
    rw [show f.readE (p : Int) (n : Int) = 0 from h]
    have hn4 : n ≤ 4194304 := by omega
    clear hsl hrb hpl ht h
    go_enter Try.func28, Try.ntmps28
    go_wp2_with fail
    with_reducible refine hS.out.mono ?_
    rintro e w1 ⟨⟨o, ho, rfl⟩, rfl⟩
    have S1 := Lib.hid (HSL.out o ho)
    go_wp2_with fail
    refine (Clone_any w (some ⟨gb, o, none⟩) n n _ S1.out (by omega)).mono ?_
    rintro e w2 ⟨v2, m2, rfl, hown, hb⟩
    obtain ⟨a2, c2, rfl, _, _⟩ := Sl.ofOwn hown
    go_wp2_with fail
    go_ret2
    refine ⟨a2, m2, c2, rfl, ?_, hb⟩
    rw [HRB.out]; exact hown
  · have hS := Lib.hid (span_no w g gb gc cb cc f hf p n hp hn h)
    have hrb : f.readB p n = [] := by unfold Fl.readB; rw [if_neg h]
    have HRB := Lib.hid hrb
    obtain ⟨er, her⟩ : ∃ er, f.readE p n = er := ⟨_, rfl⟩
    rw [her] at hS
    have HER := Lib.hid her
    clear h hrb her
    go_enter Try.func28, Try.ntmps28
    go_wp2_with fail
    with_reducible refine hS.out.mono ?_
    rintro e w1 ⟨rfl, rfl⟩
    go_wp2_with fail
    refine (Clone_any w none 0 0 [] (Sl.nil _ _) (by omega)).mono ?_
    rintro e w2 ⟨v2, m2, rfl, hown, hb⟩
    obtain ⟨a2, c2, rfl, _, _⟩ := Sl.ofOwn hown
    go_wp2_with fail
    go_ret2
    refine ⟨a2, m2, c2, by rw [HER.out]; rfl, ?_, hb⟩
    rw [HRB.out]; exact hown
end Go.Proofs.Ytdnnodpchjnleaa
