/- page: Open and Void over a flash of two sectors. No condition. -/
import Derived.Test.YtdnnodpchjnleaaVoidFn
namespace Go.Proofs.Ytdnnodpchjnleaa
open Go.ChangeShapes Go.WideShapes Go.ChangeAt Go.RowKit
theorem own_notIn' {w : World} {B : Nat} {e : TypeId} {a : Option Addr} {n c g : Nat} {xs : List Value} (h : w.ownsRow B e 1 (.slice a n c) n xs) (hg : g < B) : NotIn a n g := by
  intro hn b off hx
  rcases h.2 with ⟨h2, _⟩ | ⟨g', cap', cur, hv, hb, _⟩
  · cases h2; cases hx
  · cases hv; cases hx; omega
theorem Geo_pf (w : World) (g gb gc cb cc : Nat) (xs : List UInt8) (c : List Nat) (keep : Int) (mask : UInt8) (hf : FlA w g gb gc cb cc (pf xs c keep mask)) :
    Calls Try.prog 27 #[.pointer (some ⟨g, 0, none⟩)] w fun e w' => e = .returned (.agg #[.int .i64 2, .int .i64 84, .int .i64 9]) ∧ Below w.heap.size w w' := Geometry_any w g gb gc cb cc _ hf
set_option maxRecDepth 100000 in
set_option maxHeartbeats 4000000 in
theorem Void_far (w : World) (g gb gc cb cc : Nat) (xs : List UInt8) (c : List Nat) (keep : Int) (mask : UInt8) (hf : FlA w g gb gc cb cc (pf xs c keep mask)) :
    Calls Try.prog 13 #[.pointer (some ⟨g, 0, none⟩), .int .i64 9] w fun e w' => e = .returned (.int .i64 2) ∧ Below w.heap.size w w' := by
  have HG := Lib.hid (Geo_pf w g gb gc cb cc xs c keep mask hf)
  clear hf
  go_enter Try.func13, Try.ntmps13
  go_wp2_with fail
  refine HG.out.mono ?_
  rintro e w1 ⟨rfl, hb⟩
  have H1 := Lib.hid (hb.alloc hb.size (.cells #[.int .i64 2, .int .i64 84, .int .i64 9] 43))
  clear hb
  go_wp2_with fail
  go_ret
  exact ⟨rfl, H1.out⟩
/-- What an act leaves. -/
def ActK (w : World) (g gb gc cb cc : Nat) (f : Fl) (r : Int) (e : Ending) (w' : World) : Prop := e = .returned (.int .i64 r) ∧ FlA w' g gb gc cb cc f ∧ Kept g gb gc w w'
theorem Prog_turn (w : World) (g gb gc cb cc : Nat) (f : Fl) (hf : FlA w g gb gc cb cc f) (p : Int) (hp : IntR p) (x : UInt8) (v : Int) (hv : v = (x.toNat : Int)) :
    Calls Try.prog 15 #[.pointer (some ⟨g, 0, none⟩), .int .i64 p, .slice (some ⟨w.heap.size, 0, none⟩) 1 1] (w.alloc (.cells #[.int .u8 v] 5)) (ActK w g gb gc cb cc (f.prog p [x]) (f.progE p [x])) := by
  subst hv
  have hb1 : Below w.heap.size w (w.alloc (.cells #[.int .u8 (x.toNat : Int)] 5)) := (Below.refl _ _).alloc (Nat.le_refl _) _
  have hl := hf.lt
  refine (Program_any _ g gb gc cb cc f (hf.below hb1) p _ 1 1 [x] (Sl.lit (heap_alloc_last w _) rfl rfl) (Nat.le_refl _) hp (by decide) (NotIn.new hl.1) (NotIn.new hl.2.1) (NotIn.new hl.2.2)).mono fun e w' h => ?_
  exact ⟨h.1, h.2.1, (Kept.ofBelow hb1).trans h.2.2⟩
set_option maxRecDepth 100000 in
set_option maxHeartbeats 4000000 in
theorem Void_pf (w : World) (g gb gc cb cc : Nat) (xs : List UInt8) (c : List Nat) (keep : Int) (mask : UInt8) (hf : FlA w g gb gc cb cc (pf xs c keep mask)) :
    Calls Try.prog 13 #[.pointer (some ⟨g, 0, none⟩), .int .i64 1] w (ActK w g gb gc cb cc ((pf xs c keep mask).prog 93 [0]) ((pf xs c keep mask).progE 93 [0])) := by
  have HG := Lib.hid (Geo_pf w g gb gc cb cc xs c keep mask hf)
  have HF := Lib.hid hf
  clear hf
  go_enter Try.func13, Try.ntmps13
  go_wp2_with fail
  refine HG.out.mono ?_
  rintro e w1 ⟨rfl, hb⟩
  go_upto_region 2 with fail
  have T1 := Lib.hid (show Tri (w1.alloc (.cells #[.int .i64 2, .int .i64 84, .int .i64 9] 43)) w1.heap.size _ _ _ _ from heap_alloc_last w1 _)
  have hb2 := hb.alloc hb.size (.cells #[.int .i64 2, .int .i64 84, .int .i64 9] 43)
  have HF2 := Lib.hid (HF.out.below hb2)
  have HK2 := Lib.hid (Kept.ofBelow (g := g) (gb := gb) (gc := gc) hb2)
  clear hb hb2 HF HG
  generalize w1.alloc (.cells #[.int .i64 2, .int .i64 84, .int .i64 9] 43) = W2 at *
  generalize w1.heap.size = g1 at *
  obtain ⟨⟨c0, c1, c2⟩, cf, clt⟩ := T1.out.cells
  clear cf
  have PL := Lib.hid (Prog_turn W2 g gb gc cb cc _ HF2.out 93 (by unfold IntR; omega) 0 0 rfl)
  go_wp2_with fail
  refine PL.out.mono ?_
  rintro e W3 ⟨rfl, hF, hk3⟩
  go_wp2_with fail
  go_ret
  exact ⟨rfl, hF, HK2.out.trans hk3⟩
/-- What Open leaves in a sector that isn't used. -/
def OpenedR (w : World) (g gb gc cb cc : Nat) (A : List UInt8) (q : Nat) (c : List Nat) (st : Int) (keep : Int) (mask : UInt8) (e : Ending) (w' : World) : Prop :=
  ∃ c', (st = 0 → c' = c) ∧ e = .returned (.int .i64 0) ∧ FlA w' g gb gc cb cc (pf (A ++ (headB q ++ ([0] ++ List.replicate 75 255))) c' keep mask) ∧ Kept g gb gc w w'
set_option maxRecDepth 100000 in
set_option maxHeartbeats 4000000 in
theorem Open_pf (w : World) (g gb gc cb cc : Nat) (A R : List UInt8) (c : List Nat) (keep : Int) (mask : UInt8) (hf : FlA w g gb gc cb cc (pf (A ++ R) c keep mask))
    (hA : A.length = 84) (hR : R.length = 84) (hc : c.getD 1 0 < 9) (hs : (stateR R).1 ≠ 2) (q : Nat) (hq : q < 4294967296) :
    Calls Try.prog 12 #[.pointer (some ⟨g, 0, none⟩), .int .i64 1, .int .u32 q] w (OpenedR w g gb gc cb cc A q c (stateR R).1 keep mask) := by
  have HL := Lib.hid (Look_pf w g gb gc cb cc A R c keep mask hf hA hR _ rfl)
  obtain ⟨f1, hf1⟩ : ∃ f1, f1 = if (stateR R).1 = 1 then (pf (A ++ R) c keep mask).erase 1 else pf (A ++ R) c keep mask := ⟨_, rfl⟩
  have HO := Lib.hid (pf_open A R c keep mask q hA hR hc hs f1 hf1)
  have HE := Lib.hid (fun (w' : World) (h1 : FlA w' g gb gc cb cc (pf (A ++ R) c keep mask)) => Erase_any w' g gb gc cb cc _ h1 1 (by unfold IntR; omega))
  have HG := Lib.hid (fun (w' : World) (h1 : FlA w' g gb gc cb cc f1) => (show Calls Try.prog 27 #[.pointer (some ⟨g, 0, none⟩)] w' (fun e w'' => e = .returned (.agg #[.int .i64 2, .int .i64 84, .int .i64 9]) ∧ Below w'.heap.size w' w'') from by
    have h2 := Geometry_any w' g gb gc cb cc f1 h1
    have e1 : f1.S = 2 ∧ f1.Z = 84 ∧ f1.L = 9 := by
      obtain ⟨_, e2⟩ := pf_erase A R c keep mask hA hR hc
      rw [hf1]
      split
      · rw [e2]; exact ⟨rfl, rfl, rfl⟩
      · exact ⟨rfl, rfl, rfl⟩
    rw [e1.1, e1.2.1, e1.2.2] at h2
    exact h2))
  have HF := Lib.hid hf
  have HF1 := Lib.hid hf1
  unfold OpenedR
  unfold LookR at HL
  unfold Turned at HE
  generalize c.getD 1 0 = er at HL
  rcases stateR_cases R hs with ⟨_, h0⟩ | h0
  case inl =>
    rw [h0] at HL HO HF1 ⊢
    simp only at HL HO HF1 ⊢
    clear hf hf1 hs hc h0
    have hfd : ∀ w : World, (Instr.field 43 (.agg #[.int .i64 2, .int .i64 84, .int .i64 9]) 1).run Try.prog w = .ok (.int .i64 84) w := fun _ => by kernel_rfl
    go_enter Try.func12, Try.ntmps12
    go_wp2_with fail
    refine HL.out.mono ?_
    rintro e w1 ⟨rfl, hb⟩
    go_upto_region 2 with fail
    have T2 := Lib.hid (show Tri (w1.alloc (.cells #[.int .i64 0, .int .u32 0, .int .i64 er] 33)) w1.heap.size _ _ _ _ from heap_alloc_last w1 _)
    have hb2 := hb.alloc hb.size (.cells #[.int .i64 0, .int .u32 0, .int .i64 er] 33)
    have HF2 := Lib.hid (HF.out.below hb2)
    have HK2 := Lib.hid (Kept.ofBelow (g := g) (gb := gb) (gc := gc) hb2)
    clear hb hb2 HF HL
    generalize w1.alloc (.cells #[.int .i64 0, .int .u32 0, .int .i64 er] 33) = W2 at *
    generalize w1.heap.size = g1 at *
    obtain ⟨⟨c0, c1, c2⟩, cf, clt⟩ := T2.out.cells
    clear cf
    obtain ⟨he1, ho1, ho2, c', hc', hend⟩ := HO.out
    have HEN := Lib.hid hend
    have HC' := Lib.hid hc'
    replace HF1 := Lib.hid (show f1 = pf (A ++ R) c keep mask from HF1.out.trans (by simp))
    rw [← HF1.out] at HF2
    clear he1 hend hc' HE
    have HO1 := Lib.hid ho1
    have HO2 := Lib.hid ho2
    clear ho1 ho2 HO HF1
    go_wp2_with fail
    refine (HG.out _ HF2.out).mono ?_
    rintro e W3 ⟨rfl, hb3⟩
    have HF3 := Lib.hid (HF2.out.below hb3)
    have HK3 := Lib.hid (HK2.out.trans (Kept.ofBelow hb3))
    clear hb3 HF2 HK2 HG
    go_wp2_with fail
    refine (Bytes_any W3 q hq).mono ?_
    rintro e W4 ⟨v, n, rfl, hown, hb4⟩
    obtain ⟨a, cp, rfl, hs4, hcp⟩ := Sl.ofOwn hown
    have hl4 := hs4.1
    rw [headB_length] at hl4
    have hlt := HF3.out.lt
    have HF4 := Lib.hid (HF3.out.below hb4)
    have HK4 := Lib.hid (HK3.out.trans (Kept.ofBelow hb4))
    have PP := Lib.hid (Program_any W4 g gb gc cb cc f1 HF4.out 84 a n cp (headB q) hs4 hcp (by unfold IntR; omega) (by unfold maxLen; omega) (own_notIn' hown hlt.1) (own_notIn' hown hlt.2.1) (own_notIn' hown hlt.2.2))
    unfold Turned at PP
    rw [HO1.out] at PP
    clear hown hs4 hb4 hlt HF3 HK3 hl4 HF4 HO1
    go_wp2_with fail
    refine PP.out.mono ?_
    rintro e W5 ⟨rfl, hF5, hk5⟩
    have PL := Lib.hid (Prog_turn W5 g gb gc cb cc _ hF5 92 (by unfold IntR; omega) 0 0 rfl)
    rw [HO2.out, HEN.out] at PL
    replace HK4 := Lib.hid (HK4.out.trans hk5)
    clear hF5 hk5 PP HO2 HEN
    go_wp2_with fail
    refine PL.out.mono ?_
    rintro e W6 ⟨rfl, hF6, hk6⟩
    go_wp2_with fail
    go_ret
    exact ⟨c', HC'.out, rfl, hF6, HK4.out.trans hk6⟩
  case inr =>
    rw [h0] at HL HO HF1 ⊢
    simp only at HL HO HF1 ⊢
    clear hf hf1 hs hc h0
    have hfd : ∀ w : World, (Instr.field 43 (.agg #[.int .i64 2, .int .i64 84, .int .i64 9]) 1).run Try.prog w = .ok (.int .i64 84) w := fun _ => by kernel_rfl
    go_enter Try.func12, Try.ntmps12
    go_wp2_with fail
    refine HL.out.mono ?_
    rintro e w1 ⟨rfl, hb⟩
    go_upto_region 2 with fail
    have T2 := Lib.hid (show Tri (w1.alloc (.cells #[.int .i64 1, .int .u32 0, .int .i64 er] 33)) w1.heap.size _ _ _ _ from heap_alloc_last w1 _)
    have hb2 := hb.alloc hb.size (.cells #[.int .i64 1, .int .u32 0, .int .i64 er] 33)
    have HF2 := Lib.hid (HF.out.below hb2)
    have HK2 := Lib.hid (Kept.ofBelow (g := g) (gb := gb) (gc := gc) hb2)
    clear hb hb2 HF HL
    generalize w1.alloc (.cells #[.int .i64 1, .int .u32 0, .int .i64 er] 33) = W2 at *
    generalize w1.heap.size = g1 at *
    obtain ⟨⟨c0, c1, c2⟩, cf, clt⟩ := T2.out.cells
    clear cf
    obtain ⟨he1, ho1, ho2, c', hc', hend⟩ := HO.out
    have HEN := Lib.hid hend
    have HC' := Lib.hid hc'
    replace HF1 := Lib.hid (show f1 = (pf (A ++ R) c keep mask).erase 1 from HF1.out.trans (by simp))
    have HEE := Lib.hid (HE.out W2 HF2.out)
    rw [he1 trivial, ← HF1.out] at HEE
    clear he1 hend hc' HE HF2
    go_wp2_with fail
    refine HEE.out.mono ?_
    rintro e W2a ⟨rfl, hF, hk⟩
    have HF2 := Lib.hid hF
    replace HK2 := Lib.hid (HK2.out.trans hk)
    clear hF hk c0 c1 c2 clt T2
    have HO1 := Lib.hid ho1
    have HO2 := Lib.hid ho2
    clear ho1 ho2 HO HF1
    go_wp2_with fail
    refine (HG.out _ HF2.out).mono ?_
    rintro e W3 ⟨rfl, hb3⟩
    have HF3 := Lib.hid (HF2.out.below hb3)
    have HK3 := Lib.hid (HK2.out.trans (Kept.ofBelow hb3))
    clear hb3 HF2 HK2 HG
    go_wp2_with fail
    refine (Bytes_any W3 q hq).mono ?_
    rintro e W4 ⟨v, n, rfl, hown, hb4⟩
    obtain ⟨a, cp, rfl, hs4, hcp⟩ := Sl.ofOwn hown
    have hl4 := hs4.1
    rw [headB_length] at hl4
    have hlt := HF3.out.lt
    have HF4 := Lib.hid (HF3.out.below hb4)
    have HK4 := Lib.hid (HK3.out.trans (Kept.ofBelow hb4))
    have PP := Lib.hid (Program_any W4 g gb gc cb cc f1 HF4.out 84 a n cp (headB q) hs4 hcp (by unfold IntR; omega) (by unfold maxLen; omega) (own_notIn' hown hlt.1) (own_notIn' hown hlt.2.1) (own_notIn' hown hlt.2.2))
    unfold Turned at PP
    rw [HO1.out] at PP
    clear hown hs4 hb4 hlt HF3 HK3 hl4 HF4 HO1
    go_wp2_with fail
    refine PP.out.mono ?_
    rintro e W5 ⟨rfl, hF5, hk5⟩
    have PL := Lib.hid (Prog_turn W5 g gb gc cb cc _ hF5 92 (by unfold IntR; omega) 0 0 rfl)
    rw [HO2.out, HEN.out] at PL
    replace HK4 := Lib.hid (HK4.out.trans hk5)
    clear hF5 hk5 PP HO2 HEN
    go_wp2_with fail
    refine PL.out.mono ?_
    rintro e W6 ⟨rfl, hF6, hk6⟩
    go_wp2_with fail
    go_ret
    exact ⟨c', HC'.out, rfl, hF6, HK4.out.trans hk6⟩
end Go.Proofs.Ytdnnodpchjnleaa
