/- jar: the walk of JarCuts. No condition. -/
import Derived.Test.YtaedohlfcbppaaaJarOpen
import Derived.Test.YtaedohlfcbppaaaJarLaw
namespace Go.Proofs.Ytaedohlfcbppaaa
open Go.ChangeShapes Go.WideShapes Go.ChangeAt Go.RowKit
theorem wf_nat {k : IntKind} {n m : Int} (h : (Lit.int k n).wf = true) (h0 : k.min = 0) (h1 : k.max = m) : ∃ x : Nat, n = x ∧ (x : Int) ≤ m := by
  unfold Lit.wf at h
  simp only [Bool.and_eq_true, decide_eq_true_eq] at h
  rw [h0, h1] at h
  exact ⟨n.toNat, by omega, by omega⟩
theorem refs_ok {w : World} {F : List IW} (h : ∀ f ∈ F, IWf w f) (hd : ∀ f ∈ F, f.dn ≤ 70000) : ItOk w F := fun f hf => by
  obtain ⟨h1, h2, h3, _⟩ := h f hf
  exact ⟨h1, h2, by have := hd f hf; omega, h3⟩
set_option maxRecDepth 100000 in
set_option maxHeartbeats 8000000 in
theorem walk_JarCuts (a : Option Addr) (n cap : Nat) (cut more : Int) (w : World) (h0 : IsItems w a n cap) (h1 : (Lit.int .u16 cut).wf = true) (h2 : (Lit.int .u8 more).wf = true) :
    Calls Try.prog 5 #[.slice a n cap, .int .u16 cut, .int .u8 more] w fun e w' => e = .returned (.bool true) ∧ Below w.heap.size w w' := by
  obtain ⟨hcap, hm, F, hs, hi⟩ := h0
  obtain ⟨ct, rfl, hct⟩ := wf_nat (m := 65535) h1 rfl rfl
  obtain ⟨mo, rfl, hmo⟩ := wf_nat (m := 255) h2 rfl rfl
  have HS := Lib.hid hs
  have HI := Lib.hid hi
  have HF := Lib.hid (fixed20 w)
  have HN := Lib.hid hs.1
  have HFW := Lib.hid (fun w1 (hb : Below w.heap.size w w1) => Few_any w1 a n cap F (hs.below hb) (fun f hf => ⟨(hi f hf).2.2.1, (hi f hf).2.2.2⟩))
  have HPK := Lib.hid (fun w1 (hb : Below w.heap.size w w1) (hd : ∀ f ∈ F, f.dn ≤ 70000) (hn : n ≤ 60) => refPack_any w1 a n cap F (hs.below hb) ((refs_ok hi hd).below hb) (fun f hf => by have := hd f hf; omega) (by omega) hcap)
  clear h1 h2 hs hi
  unfold maxLen at hm
  go_enter Try.func5, Try.ntmps5
  go_wp2_with fail
  refine HF.out.mono ?_
  rintro e w1 ⟨rfl, hb1⟩
  have HB1 := Lib.hid hb1
  clear hb1
  go_wp2_with fail
  refine (HFW.out _ HB1.out).mono ?_
  rintro e w2 ⟨⟨b, rfl, hb⟩, hb2⟩
  have HB2 := Lib.hid (HB1.out.trans (hb2.mono HB1.out.size))
  have HFB := Lib.hid hb
  clear hb hb2
  cases b
  · go_wp2_with fail
    go_ret
    exact ⟨rfl, HB2.out⟩
  obtain ⟨hn60, hdd⟩ := HFB.out rfl
  have HPB := Lib.hid (HPK.out _ HB2.out hdd hn60)
  clear HPK hdd HFB HFW HF HI
  go_wp2_with fail
  refine HPB.out.mono ?_
  rintro e w3 ⟨a3, m3, c3, rfl, hs3, hc3, hb3⟩
  have HB3 := Lib.hid (HB2.out.trans (hb3.mono HB2.out.size))
  have HS3 := Lib.hid hs3
  have HCT := Lib.hid (fun (h : (packR (F.map IW.iv)).1 = 0) c => unpack_cut (l := F.map IW.iv) (bs := (packR (F.map IW.iv)).2) (c := c) (by rw [← h]))
  have HMR := Lib.hid (fun (h : (packR (F.map IW.iv)).1 = 0) c => unpack_more (l := F.map IW.iv) (bs := (packR (F.map IW.iv)).2) (by rw [← h]) c)
  have HNZ := Lib.hid (fun (h : (packR (F.map IW.iv)).1 = 0) => (show 0 < (packR (F.map IW.iv)).2.length by
    have h1 := (pack_back (l := F.map IW.iv) (bs := (packR (F.map IW.iv)).2) (by rw [← h])).1
    rw [h1, jar_length]
    unfold jarN
    omega))
  clear HPB hs3 hb3
  generalize packR (F.map IW.iv) = R at *
  obtain ⟨er, bs⟩ := R
  simp only at HS3 HCT HMR HNZ ⊢
  by_cases her : er = 0
  case' neg =>
    have ee : (er != 0) = true := by simp [her]
    clear her
    go_wp2_with fail
    go_ret
    exact ⟨rfl, HB3.out⟩
  subst her
  have HCT2 := Lib.hid (HCT.out rfl)
  have HMR2 := Lib.hid (HMR.out rfl)
  have hbl := HS3.out.1
  have hm3 : 0 < m3 := by rw [← hbl]; exact HNZ.out rfl
  by_cases h5 : 5000 < m3
  · have e5 : decide ((5000 : Int) < m3) = true := by simp; omega
    clear h5
    go_wp2_with fail
    go_ret
    exact ⟨rfl, HB3.out⟩
  have e5 : decide ((5000 : Int) < m3) = false := by simp; omega
  have h5k : m3 ≤ 5000 := by omega
  obtain ⟨q, hq⟩ : ∃ q, q = ct % m3 := ⟨_, rfl⟩
  have hqm : q < m3 := by rw [hq]; exact Nat.mod_lt _ hm3
  have hqe : Int.tmod (ct : Int) (m3 : Int) = (q : Int) := by rw [hq]; rfl
  have HC6 := Lib.hid (HCT2.out q (by rw [hbl]; exact hqm))
  have HSQ := Lib.hid (HS3.out.take (j := q) (by omega))
  have HM8 := Lib.hid (HMR2.out (UInt8.ofNat mo) (by rw [hbl]; omega))
  have HME := Lib.hid (encB_natJ mo (by omega))
  clear h5 hq HCT HMR HNZ HCT2 HMR2
  have HU1 := Lib.hid (fun w' (hb : Below w3.heap.size w3 w') => Unpack_any w' a3 q c3 (bs.take q) (HSQ.out.below hb) (by omega) (by omega))
  go_wp2_with fail
  refine (HU1.out _ (Below.refl _ _)).mono ?_
  rintro e w4 ⟨v4, m4, F4, rfl, _, _, _, hb4⟩
  rw [HC6.out]
  have HB4 := Lib.hid (HB3.out.trans (hb4.mono HB3.out.size))
  have HS4 := Lib.hid (HS3.out.below hb4)
  have HE0 := Lib.hid (own_empty w4 w4.heap.size 5 (Nat.le_refl _))
  have HBE := Lib.hid ((Below.refl w4.heap.size w4).alloc (Nat.le_refl _) (.cells #[] 5))
  clear hb4 HU1 HSQ
  go_wp2_with (at_builtin; first
    | (refine wpList_app1 oneN rfl _ _ _ rfl w4.heap.size _ 0 _ rfl HE0.out _ m3 _ rfl ((HS4.out.below HBE.out).src encB_cell Try.underlying22 c3) (by omega) (by unfold maxLen; omega) HBE.out.size ?_; intro v5 w5 hown5 _ hb5; rw [List.map_nil, List.nil_append, Nat.zero_add] at hown5; obtain ⟨a5, c5, rfl, _, _⟩ := Sl.ofOwn hown5; have HO5 := Lib.hid hown5; have HB5 := Lib.hid (HB4.out.trans ((HBE.out.trans hb5).mono HB4.out.size)); have HB45 := Lib.hid (HBE.out.trans hb5); clear hown5 hb5)
    | (refine wpList_app_lit2 oneN rfl _ _ rfl w4.heap.size _ m3 _ rfl HO5.out _ 1 _ _ rfl (by simp) rfl rfl (by omega) (by unfold maxLen; omega) HB45.out.size ?_; intro v6 w6 hown6 _ hb6; obtain ⟨a6, c6, rfl, hs6, hc6⟩ := Sl.ofOwn (xs := bs ++ [UInt8.ofNat mo]) (by rw [List.map_append]; rw [HME.out] at hown6; exact hown6); have HS6 := Lib.hid hs6; have HB6 := Lib.hid (HB5.out.trans (hb6.mono HB4.out.size)); clear hown6 hb6 hs6))
  refine (Unpack_any _ a6 (m3 + 1) c6 (bs ++ [UInt8.ofNat mo]) HS6.out (by omega) hc6).mono ?_
  rintro e w7 ⟨v7, m7, F7, rfl, _, _, _, hb7⟩
  rw [HM8.out]
  have HB7 := Lib.hid (HB6.out.trans (hb7.mono HB6.out.size))
  clear hb7
  go_wp2_with fail
  go_ret
  exact ⟨rfl, HB7.out⟩
end Go.Proofs.Ytaedohlfcbppaaa
