/- scan: Same of found records; Scan of whole records. No condition. -/
import Derived.Test.YtechkdnoekffmaaScanMem
namespace Go.Proofs.Ytechkdnoekffmaa
open Go.ChangeShapes Go.WideShapes Go.ChangeAt Go.RowKit
theorem Sl.ofOwnS {α : Type} {enc : α → Value} {w : World} {base : Nat} {e : TypeId} {a : Option Addr} {n c : Nat} {xs : List α} (h : w.ownsRow base e 1 (.slice a n c) n (xs.map enc)) : Sl enc w a n xs ∧ n ≤ c := by
  obtain ⟨a', c', he, hs, hc⟩ := Sl.ofOwn h
  cases he
  exact ⟨hs, hc⟩
theorem Sl.bytes_same {w : World} {f g : FV} (h : f.same g) (h1 : Sl encB w f.a f.n f.bb) (h2 : Sl encB w g.a g.n g.bb) : Sl encB w g.a g.n f.bb := by rw [h.2.2.2.2.2]; exact h2
theorem cell_below {w w' : World} (h : Below w.heap.size w w') {a : Addr} {v : Value} (hc : w.cell? a = some v) : w'.cell? a = some v := by
  have hlt : a.block < w.heap.size := by
    unfold World.cell? at hc
    cases hb : w.heap[a.block]? with
    | none => rw [hb] at hc; simp at hc
    | some o => exact (Array.getElem?_eq_some_iff.1 hb).1
  rw [h.cell hlt]
  exact hc
set_option maxRecDepth 100000 in
set_option maxHeartbeats 8000000 in
theorem Same6_yes (w : World) (B1 B2 : Nat) (v1 v2 : Value) (k : Nat) (F1 F2 : List FV) (h1 : Founds w B1 v1 k F1) (h2 : Founds w B2 v2 k F2) (hk : k ≤ 65536) (hs : ∀ (j : Nat) f g, F1[j]? = some f → F2[j]? = some g → f.same g) :
    Calls Try.prog 10 #[v1, v2] w fun e w' => e = .returned (.bool true) ∧ Below w.heap.size w w' := by
  have H1 := Lib.hid h1
  have H2 := Lib.hid h2
  have HS := Lib.hid hs
  obtain ⟨a1, c1, rfl⟩ : ∃ a c, v1 = .slice a k c := by
    rcases h1.own.2 with ⟨rfl, h0⟩ | ⟨g, cap, cur, rfl, _⟩
    · exact ⟨none, 0, by rw [h0]⟩
    · exact ⟨_, _, rfl⟩
  obtain ⟨a2, c2, rfl⟩ : ∃ a c, v2 = .slice a k c := by
    rcases h2.own.2 with ⟨rfl, h0⟩ | ⟨g, cap, cur, rfl, _⟩
    · exact ⟨none, 0, by rw [h0]⟩
    · exact ⟨_, _, rfl⟩
  clear h1 h2 hs
  go_enter Try.func10, Try.ntmps10
  go_wp2_with fail
  go_loopg [13] k (fun gn i wr => ∃ j : Nat, j ≤ k ∧ gn = k - j ∧ i = .int .i64 j ∧ Hid (Below w.heap.size w wr))
  case atStart => exact ⟨0, by omega, by omega, by go_num, Below.refl _ _⟩
  case round =>
    obtain ⟨j, hj, rfl, rfl, HB⟩ := hrel
    by_cases hlt : j < k
    · obtain ⟨g1, k1, e1, hg1, hc1, f, hf, hfj, p0, p1, p2, p3, p4, p5⟩ := (H1.out.below HB.out).at j hlt
      obtain ⟨g2, k2, e2, hg2, hc2, f', hf', hfj', q0, q1, q2, q3, q4, q5⟩ := (H2.out.below HB.out).at j hlt
      cases e1
      cases e2
      have hsm := HS.out j f f' hfj hfj'
      have S1 := ((H1.out.below HB.out).sl f hf)
      have S2 := Sl.bytes_same hsm S1 ((H2.out.below HB.out).sl f' hf')
      obtain ⟨m0, m1, m2, m3, m4, m5⟩ := hsm
      rw [← m0] at q0
      rw [← m1] at q1
      rw [← m2] at q2
      rw [← m3] at q3
      rw [← m4] at q5
      have HC := Lib.hid (show ∀ w', Below wr.heap.size wr w' → Calls Try.prog 17 #[recL f.kd f.tx f.kb f.a f.n f.cap f.ct, recL f.kd f.tx f.kb f'.a f'.n f'.cap f.ct] w' (fun e x => e = .returned (.bool true) ∧ Below wr.heap.size wr x) from fun w' hw =>
        (Same5_yes w' f.kd f.tx f.kb f.a f.n f.cap f.ct f.bb f'.a f'.n f'.cap (S1.below hw) (S2.below hw)).mono fun e x hx => ⟨hx.1, hw.trans (hx.2.mono hw.size)⟩)
      clear m0 m1 m2 m3 m4 m5 S1 S2 hf hf' hfj hfj'
      generalize f.pos = fp at *
      generalize f.kd = fk at *
      generalize f.tx = ft at *
      generalize f.kb = fb at *
      generalize f.ct = fc at *
      generalize f.a = fa at *
      generalize f.n = fn at *
      generalize f.cap = fcap at *
      generalize f'.a = ga at *
      generalize f'.n = gn at *
      generalize f'.cap = gcap at *
      unfold recL at HC
      have z1 : ((fp : Int) == (fp : Int)) = true := by simp
      have z2 : ((fp : Int) != (fp : Int)) = false := by simp
      have j0 : (0 : Int) ≤ j := by omega
      have j1 : (j : Int) < k := by omega
      obtain ⟨W, rfl⟩ : ∃ W, W = wr := ⟨_, rfl⟩
      go_upto_region 6 with fail
      have lp : ∀ p v, W.cell? p = some v → ∀ w', Below W.heap.size W w' → w'.cell? p = some v := fun p v h w' hb => cell_below hb h
      refine wp_region_lexS (Below W.heap.size W) (.stir [(0, true), (1, true), (2, true), (3, true), (4, true), (5, true), (6, true), (7, true), (8, true), (9, true), (10, true), (11, true), (12, true), (13, true), (14, true), (15, true), (16, true), (17, true), (18, true), (19, true), (20, true), (21, true), (22, false), (23, true), (24, true)]) (by kernel_rfl) (by kernel_rfl) (fun c a d v w h => by cases d <;> exact h) ?_
      have hSw : Below W.heap.size W W.drew := (Below.refl _ _).drew
      refine lexS_stir (Below W.heap.size W) (fun _ h => h) hSw ?_
      have p0' := lp _ _ p0
      have p1' := lp _ _ p1
      have p2' := lp _ _ p2
      have p3' := lp _ _ p3
      have p4' := lp _ _ p4
      have p5' := lp _ _ p5
      have q0' := lp _ _ q0
      have q1' := lp _ _ q1
      have q2' := lp _ _ q2
      have q3' := lp _ _ q3
      have q4' := lp _ _ q4
      have q5' := lp _ _ q5
      clear p0 p1 p2 p3 p4 p5 q0 q1 q2 q3 q4 q5 lp
      iterate 22
        refine stir_step (fun K hK => ?_)
        simp only [stirOp, List.getElem?_toArray, List.getElem?_cons_succ, List.getElem?_cons_zero]
        rw [if_pos (by rfl)]
        apply Exists.intro
        refine ⟨fun w' hS' => ?_, ?_⟩
        · first | (go_simp <;> with_reducible rfl) | (go_simp; go_bits; with_reducible rfl)
        go_simp
        try go_bits
        refine hK _ ?_
        clear hK K
      refine stir_step (fun K hK => ?_)
      simp only [stirOp, List.getElem?_toArray, List.getElem?_cons_succ, List.getElem?_cons_zero]
      rw [if_pos (by rfl)]
      apply Exists.intro
      refine ⟨fun w' hS' => ?_, ?_⟩
      · go_simp
        exact Stirs.call (Calls.mono (HC.out w' hS') fun e w'' h => ⟨h.1, (fun hb'' => hb'') h.2⟩)
      go_simp
      refine hK _ ?_
      clear hK K
      iterate 2
        refine stir_step (fun K hK => ?_)
        simp only [stirOp, List.getElem?_toArray, List.getElem?_cons_succ, List.getElem?_cons_zero]
        rw [if_pos (by rfl)]
        apply Exists.intro
        refine ⟨fun w' hS' => ?_, ?_⟩
        · first | (go_simp <;> with_reducible rfl) | (go_simp; go_bits; with_reducible rfl)
        go_simp
        try go_bits
        refine hK _ ?_
        clear hK K
      refine stir_nil (fun y hy => ?_)
      have HW := Lib.hid (HB.out.trans (hy.mono HB.out.size))
      clear hy p0' p1' p2' p3' p4' p5' q0' q1' q2' q3' q4' q5' HC
      go_wp2_with fail
      go_roundg (k - (j + 1))
      case measure => omega
      case rel => exact ⟨j + 1, by omega, rfl, by go_num, HW⟩
    · obtain rfl : j = k := by omega
      go_wp2_with fail
      go_ret
      exact ⟨rfl, HB.out⟩
end Go.Proofs.Ytechkdnoekffmaa
