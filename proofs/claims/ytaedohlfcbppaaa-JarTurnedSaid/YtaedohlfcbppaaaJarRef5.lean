/- jar: the reference's Pack, the walk. No condition. -/
import Derived.Test.YtaedohlfcbppaaaJarRef4
namespace Go.Proofs.Ytaedohlfcbppaaa
open Go.ChangeShapes Go.WideShapes Go.ChangeAt Go.RowKit
/-- What the reference's Pack answers: bytes of the call's own. -/
def PackOwn (R : Int × List UInt8) (w : World) (e : Ending) (w' : World) : Prop :=
  ∃ a m c, e = .returned (.tuple #[.slice a m c, .int .i64 R.1]) ∧ w'.ownsRow w.heap.size 5 1 (.slice a m c) m (R.2.map encB) ∧ Below w.heap.size w w'
theorem PackOwn.err {R : Int × List UInt8} {w w' : World} {e : Int} (h : R = (e, [])) (hb : Below w.heap.size w w') : PackOwn R w (.returned (.tuple #[.slice none 0 0, .int .i64 e])) w' := by
  subst h
  exact ⟨_, 0, 0, rfl, World.ownsRow_nil _ _ _ _, hb⟩
set_option maxRecDepth 100000 in
set_option maxHeartbeats 16000000 in
theorem refPack_own (w : World) (a : Option Addr) (n cap : Nat) (F : List IW) (hs : Im w a n F) (hi : ItOk w F) (hd : ∀ f ∈ F, f.dn ≤ 100000) (hn : n ≤ 65536) (hcap : n ≤ cap) : Calls Try.prog 13 #[.slice a n cap] w (PackOwn (packR (F.map IW.iv)) w) := by
  have HS := Lib.hid hs
  have HLn := Lib.hid hs.1
  have HI := Lib.hid hi
  have HD := Lib.hid hd
  obtain ⟨R, hR⟩ : ∃ R, R = packR (F.map IW.iv) := ⟨_, rfl⟩
  rw [← hR]
  have HR := Lib.hid hR
  clear hs hi hR hd
  go_enter Try.func13, Try.ntmps13
  go_wp2_with fail
  go_loopg [12] n (fun gn i wr => ∃ j : Nat, j ≤ n ∧ gn = n - j ∧ i = .int .i64 j ∧ Hid (∀ k f, k < j → F[k]? = some f → nameOk f.name = true) ∧ Hid (Below w.heap.size w wr))
  case atStart => exact ⟨0, by omega, by omega, by go_num, Lib.hid (fun k f h => by omega), Lib.hid (Below.refl _ _)⟩
  case round =>
    obtain ⟨j, hj, rfl, rfl, HG, HB⟩ := hrel
    by_cases hlt : j < n
    · obtain ⟨b, off, f, rfl, hbl, hf, c0, c1⟩ := (HS.out.below HB.out).at j hlt
      have hfl := (HI.out f (List.mem_of_getElem? hf)).2.2.2
      have HBD := Lib.hid (show nameOk f.name = false → R = (13, []) from fun h => by rw [HR.out]; exact pack_name (List.mem_map_of_mem (List.mem_of_getElem? hf)) h)
      have HNX := Lib.hid (show nameOk f.name = true → ∀ k f, k < j + 1 → F[k]? = some f → nameOk f.name = true from fun h k f' hk hf' => by
        rcases Nat.lt_or_ge k j with h1 | h1
        · exact HG.out k f' h1 hf'
        · obtain rfl : k = j := by omega
          rw [hf] at hf'
          cases hf'
          exact h)
      obtain ⟨nm, da, dn, dc, ds⟩ := f
      simp only at c0 c1 HBD HNX hfl
      have j1 : (j : Int) < n := by omega
      clear hf
      have HIN := Lib.hid (refIsName_big (wr.alloc (.cells #[.string ⟨nm.toArray⟩, .slice da dn dc] 36)) nm (by first | omega | (unfold maxLen at hfl; omega)))
      generalize nameOk nm = ok at *
      have HAL := Lib.hid (HB.out.alloc HB.out.size (.cells #[.string ⟨nm.toArray⟩, .slice da dn dc] 36))
      go_wp2_with fail
      refine HIN.out.mono ?_
      rintro en w2 ⟨rfl, rfl⟩
      cases ok
      · have HQ := Lib.hid (HBD.out rfl)
        go_wp2_with fail
        go_ret2
        exact PackOwn.err HQ.out HAL.out
      · have HG2 := Lib.hid (HNX.out rfl)
        go_wp2_with fail
        go_roundg (n - (j + 1))
        case measure => omega
        case rel => exact ⟨j + 1, by omega, rfl, by go_num, HG2, HAL⟩
    · obtain rfl : j = n := by omega
      have HAL := Lib.hid (show ∀ x ∈ F.map IW.iv, nameOk x.name = true from fun x hx => by
        obtain ⟨f, hf, rfl⟩ := List.mem_map.1 hx
        obtain ⟨k, hk, rfl⟩ := List.getElem_of_mem hf
        exact HG.out k _ (by rw [HLn.out] at hk; exact hk) (List.getElem?_eq_getElem hk))
      clear HG
      go_wp2_with fail
      have HB0 := Lib.hid HB.out
      clear HB
      go_loopg [23] j (fun gn i wr => ∃ k : Nat, k ≤ j ∧ gn = j - k ∧ i = .int .i64 k ∧ Hid (∀ i g, i < k → F[i]? = some g → againB F i g.name = false) ∧ Hid (Below w.heap.size w wr))
      case atStart => exact ⟨0, by omega, by omega, by go_num, Lib.hid (fun k f h => by omega), HB0⟩
      case round =>
        clear HB0
        obtain ⟨k, hk, rfl, rfl, HG, HB⟩ := hrel
        by_cases hlt : k < j
        · have hkl : k < F.length := by rw [HLn.out]; exact hlt
          have hg := List.getElem?_eq_getElem hkl
          have HAG := Lib.hid (again_any wr a j cap F k F[k] (HS.out.below HB.out) hn hcap hlt hg)
          have HBD := Lib.hid (show againB F k F[k].name = true → R = (12, []) from fun h => by rw [HR.out]; exact pack_apart HAL.out (apart_bad hg h))
          have HNX := Lib.hid (show againB F k F[k].name = false → ∀ i g, i < k + 1 → F[i]? = some g → againB F i g.name = false from fun h i g hi hg' => by
            rcases Nat.lt_or_ge i k with h1 | h1
            · exact HG.out i g h1 hg'
            · obtain rfl : i = k := by omega
              rw [hg] at hg'
              cases hg'
              exact h)
          generalize againB F k F[k].name = ag at *
          clear hg hkl
          have j1 : (k : Int) < j := by omega
          go_wp2_with fail
          refine HAG.out.mono ?_
          rintro en w2 ⟨rfl, hb2⟩
          have HB2 := Lib.hid (HB.out.trans (hb2.mono HB.out.size))
          clear hb2
          cases ag
          · have HG2 := Lib.hid (HNX.out rfl)
            go_wp2_with fail
            go_roundg (j - (k + 1))
            case measure => omega
            case rel => exact ⟨k + 1, by omega, rfl, by go_num, HG2, HB2⟩
          · have HQ := Lib.hid (HBD.out rfl)
            go_wp2_with fail
            go_ret2
            exact PackOwn.err HQ.out HB2.out
        · obtain rfl : k = j := by omega
          have HAP := Lib.hid (show apartB (F.map IW.iv) = true from apart_good (fun i g hg => HG.out i g (by rw [← HLn.out]; exact (List.getElem?_eq_some_iff.1 hg).1) hg))
          clear HG
          by_cases h40 : 40 < k
          · have HQ := Lib.hid (show R = (9, []) by rw [HR.out]; exact pack_long HAL.out HAP.out (.inl (by rw [List.length_map, HLn.out]; exact h40)))
            have e2 : decide ((40 : Int) < k) = true := by simp; omega
            clear h40
            go_wp2_with fail
            go_ret2
            exact PackOwn.err HQ.out HB.out
          have e2 : decide ((40 : Int) < k) = false := by simp; omega
          have hk40 : k ≤ 40 := by omega
          have HLG := Lib.hid (show 65536 < jarN (F.map IW.iv) → R = (9, []) from fun h => by rw [HR.out]; exact pack_long HAL.out HAP.out (.inr h))
          have HOK := Lib.hid (show jarN (F.map IW.iv) ≤ 65536 → R = (0, jarB (F.map IW.iv)) from fun h => by rw [HR.out]; exact pack_ok HAL.out HAP.out (by rw [List.length_map, HLn.out]; omega))
          have HN64 := Lib.hid (show ∀ f ∈ F, f.name.length ≤ 64 from fun f hf => by
            have h := HAL.out f.iv (List.mem_map_of_mem hf)
            unfold nameOk at h
            simp only [Bool.and_eq_true, decide_eq_true_eq] at h
            exact h.1.2)
          clear h40 HAP HAL HR
          have wj : IntKind.u8.wrap (k : Int) = (k : Int) := by rw [IntKind.wrap_u8]; omega
          have kc := fun (w : World) (C : Array Value) (n c : Nat) => Lib.run_convert_bytes_const (P := Try.prog) w 22 5 C n c Try.underlying22 Try.underlying5
          have HSL := Lib.hid (Sl.lit (enc := encB) (n := 4) (xs := magicB) (heap_alloc_last wr (Obj.cells #[.int .u8 67, .int .u8 74, .int .u8 48, .int .u8 49] 5 (4, 5))) rfl rfl)
          have HBL := Lib.hid (HB.out.alloc HB.out.size (Obj.cells #[.int .u8 67, .int .u8 74, .int .u8 48, .int .u8 49] 5 (4, 5)))
          have HJB := Lib.hid (encB_natJ k (by omega))
          go_wp2_with (at_builtin; first
            | (refine wpList_app_full2 rfl _ _ rfl w.heap.size _ 4 magicB rfl HSL.out _ 1 _ _ rfl (by simp) rfl rfl (by decide) (by decide) HBL.out.size ?_; intro v5 w5 hown5 hb5; have HO5 := Lib.hid (show w5.ownsRow w.heap.size 5 1 v5 (4 + 1) ((magicB ++ [UInt8.ofNat k]).map encB) by rw [HJB.out] at hown5; exact hown5); have HB5 := Lib.hid (HBL.out.trans hb5); clear hown5 hb5))
          clear HSL HBL kc HB
          go_loopg [42, 7] k (fun gn i v wr => ∃ p m : Nat, p ≤ k ∧ gn = k - p ∧ i = .int .i64 p ∧ m ≤ 65536 ∧ Hid (wr.ownsRow w.heap.size 5 1 v m ((magicB ++ [UInt8.ofNat k] ++ ((F.take p).map IW.iv).flatMap IV.bytes).map encB)) ∧ Hid (Below w.heap.size w wr))
          case atStart => exact ⟨0, 5, by omega, by omega, by go_num, by omega, Lib.hid (by have h := HO5.out; simpa using h), HB5⟩
          case round =>
            clear HO5 HB5
            obtain ⟨p, m, hp, rfl, rfl, hm, HO, HBk⟩ := hrel
            by_cases hlt2 : p < k
            · obtain ⟨b, off, f, rfl, hbl, hf, c0, c1⟩ := (HS.out.below HBk.out).at p hlt2
              have hfm := List.mem_of_getElem? hf
              have hfi := HI.out f hfm
              have hfd := HD.out f hfm
              have hfl := HN64.out f hfm
              have HTK := Lib.hid (take_snoc hf)
              have HF0 := Lib.hid hfi.1
              have HFS := Lib.hid (hfi.1.below HBk.out)
              have hfc := hfi.2.1
              have HJM := Lib.hid (jarN_pre HO.out)
              have HBG := Lib.hid (show 65536 < m + (9 + f.name.length + f.dn) → R = (9, []) from fun h => HLG.out (by
                have h3 := jarN_take (F.map IW.iv) (p + 1)
                rw [← List.map_take, HTK.out, List.map_append, show List.map IW.iv [f] = [f.iv] from rfl, jarN_snoc, show f.iv.name = f.name from rfl, show f.iv.data.length = f.dn from hfi.1.1, HJM.out] at h3
                omega))
              have HNB := Lib.hid (show magicB ++ [UInt8.ofNat k] ++ ((F.take (p + 1)).map IW.iv).flatMap IV.bytes = magicB ++ [UInt8.ofNat k] ++ ((F.take p).map IW.iv).flatMap IV.bytes ++ f.iv.bytes by
                rw [HTK.out, List.map_append, List.flatMap_append, show List.map IW.iv [f] = [f.iv] from rfl]
                simp)
              clear hfi HTK HJM hfm
              obtain ⟨pre, hpre⟩ : ∃ pre, pre = magicB ++ [UInt8.ofNat k] ++ ((F.take p).map IW.iv).flatMap IV.bytes := ⟨_, rfl⟩
              rw [← hpre] at HO HNB
              obtain ⟨nm, da, dn, dc, ds⟩ := f
              simp only at c0 c1 hfc hfd hfl HFS HF0 HBG
              have HIB : Hid ((⟨nm, da, dn, dc, ds⟩ : IW).iv.bytes = putB nm.length 1 ++ nm ++ putB ds.length 4 ++ ds ++ putB (sumN ds) 4) := Lib.hid rfl
              rw [HIB.out] at HNB
              have j1 : (p : Int) < k := by omega
              clear hf hpre HIB
              obtain ⟨va, vc, rfl, hsv, hcv⟩ := Sl.ofOwn HO.out
              clear hsv
              go_upto_region 19 with fail
              have hba : Below wr.heap.size wr (wr.alloc (.cells #[.string ⟨nm.toArray⟩, .slice da dn dc] 36)) := (Below.refl _ _).alloc (Nat.le_refl _) _
              have HBA := Lib.hid (HBk.out.trans (hba.mono HBk.out.size))
              have HOA := Lib.hid (own_below HO.out hba)
              have HXA := Lib.hid (show IBlk (wr.alloc (.cells #[.string ⟨nm.toArray⟩, .slice da dn dc] 36)) wr.heap.size nm da dn dc from heap_alloc_last wr _)
              clear hba c0 c1 HFS HBk HO
              generalize wr.alloc (.cells #[.string ⟨nm.toArray⟩, .slice da dn dc] 36) = W at *
              generalize wr.heap.size = bx at *
              have ld0 := fun w' (h : XS bx nm da dn dc w') => (show IBlk w' bx nm da dn dc from h).box.1.1
              have hSw : XS bx nm da dn dc W.drew := HXA.out.below (Below.refl _ _).drew
              have wn : IntKind.u8.wrap (nm.length : Int) = (nm.length : Int) := by rw [IntKind.wrap_u8]; omega
              refine wp_region_lexS (XS bx nm da dn dc) (.of [(0, true), (1, true), (2, true), (3, true), (4, true), (7, true), (8, true), (5, false), (6, false), (9, false)] (.stir [(10, true)])) (by kernel_rfl) (by kernel_rfl) (fun c a d v w h => by cases d <;> exact h) ?_
              iterate 7
                refine lexS_step (fun K hK => ?_)
                simp only [lexOp, List.getElem?_toArray, List.getElem?_cons_succ, List.getElem?_cons_zero]
                rw [if_pos (by rfl)]
                apply Exists.intro
                refine ⟨fun w' hS' => ?_, hSw, ?_⟩
                · first | (go_simp <;> with_reducible rfl) | (go_simp; go_bits; with_reducible rfl)
                go_simp
                try go_bits
                refine hK _ _ ?_
                clear hK K
              refine lexS_step (fun K hK => ?_)
              simp only [lexOp, List.getElem?_toArray, List.getElem?_cons_succ, List.getElem?_cons_zero]
              rw [if_pos (by rfl)]
              go_step
              have hal : Below W.heap.size W (W.drew.alloc (.cells #[.int .u8 (nm.length : Nat)] 5)) := (Below.refl _ _).drew.alloc (by simp) _
              replace hSw : XS bx nm da dn dc (W.drew.alloc (.cells #[.int .u8 (nm.length : Nat)] 5)) := HXA.out.below hal
              refine ⟨hSw, hK _ _ ?_⟩
              clear hK K
              refine lexS_step (fun K hK => ?_)
              simp only [lexOp, List.getElem?_toArray, List.getElem?_cons_succ, List.getElem?_cons_zero]
              rw [if_pos (by rfl)]
              change Oper.wp _ _ _ _ _ _
              refine wp_appK oneN (ops := #[]) rfl _ _ _ rfl w.heap.size _ m _ rfl (own_below HOA.out hal) (.slice (some ⟨W.heap.size, 0, none⟩) 1 1) 1 _ rfl (Src.litS (w := W.drew) (z := 1) (m := 1) (c := 1) (C := #[.int .u8 (nm.length : Nat)]) (e := 5) rfl rfl Try.underlying22) (by omega) (by unfold maxLen; omega) (Nat.le_trans HBA.out.size hal.size) ?_
              intro v7 w7 hown7 hg7 hb7
              rw [show (#[Value.int .u8 (nm.length : Nat)] : Array Value).toList = (putB nm.length 1).map encB by rw [putB_oneJ nm.length (by omega), encB_natJ nm.length (by omega)]; rfl, ← List.map_append] at hown7
              replace hSw : XS bx nm da dn dc w7 := IBlk.grownB hSw hg7 (own_ne_item (own_below HOA.out hal) hSw)
              have HB7 := Lib.hid ((HBA.out.trans (hal.mono HBA.out.size)).trans hb7)
              have HO7 := Lib.hid hown7
              refine ⟨hSw, hK _ _ ?_⟩
              clear hK K hown7 hg7 hb7 hal
              refine lexS_step (fun K hK => ?_)
              simp only [lexOp, List.getElem?_toArray, List.getElem?_cons_succ, List.getElem?_cons_zero]
              rw [if_pos (by rfl)]
              change Oper.wp _ _ _ _ _ _
              refine wp_appK oneN (ops := #[]) rfl _ _ _ rfl w.heap.size _ (m + 1) _ rfl HO7.out _ nm.length (nm.map encB) rfl (strSrcK _ nm) (by omega) (by unfold maxLen; omega) HB7.out.size ?_
              intro v8 w8 hown8 hg8 hb8
              rw [← List.map_append] at hown8
              replace hSw : XS bx nm da dn dc w8 := IBlk.grownB hSw hg8 (own_ne_item HO7.out hSw)
              have HB8 := Lib.hid (HB7.out.trans hb8)
              obtain ⟨a7, c7, rfl, hs7, hc7⟩ := Sl.ofOwn hown8
              have HS7 := Lib.hid hs7
              have HX7 := Lib.hid (show IBlk w8 bx nm da dn dc from hSw)
              have HF7 := Lib.hid (HF0.out.below HB8.out)
              refine ⟨hSw, hK _ _ ?_⟩
              clear hK K hown8 hg8 hb8 hs7
              refine lexS_stir (fun y => y = w8) (fun y hy => hy ▸ hSw) rfl ?_
              go_simp
              iterate 1
                refine stir_step (fun K hK => ?_)
                simp only [stirOp, List.getElem?_toArray, List.getElem?_cons_succ, List.getElem?_cons_zero]
                rw [if_pos (by rfl)]
                apply Exists.intro
                refine ⟨fun w' hS' => ?_, ?_⟩
                · first | (go_simp <;> with_reducible rfl) | (go_simp; go_bits; with_reducible rfl)
                go_simp
                try go_bits
                refine hK _ ?_
                clear hK K
              refine stir_nil (fun y hy => ?_)
              subst hy
              clear ld0 hSw HO7 HB7 HOA HXA HBA wn
              go_upto_region 20 with fail
              obtain ⟨⟨c0, c1⟩, _, hxl⟩ := HX7.out.box
              have ld1 := fun w' (h : Below y.heap.size y w') => cellS_below h c1
              have hSw : Below y.heap.size y y.drew := (Below.refl _ _).drew
              clear c0 c1 hxl
              refine wp_region_lex (Below y.heap.size y) [(0, true), (1, true), (2, true), (3, true), (4, true), (6, true), (7, true), (5, false), (8, false), (9, true)] (by kernel_rfl) (by kernel_rfl) (fun c a d v w h => by cases d <;> exact h) ?_
              iterate 7
                refine lex_step (fun K hK => ?_)
                simp only [lexOp, List.getElem?_toArray, List.getElem?_cons_succ, List.getElem?_cons_zero]
                rw [if_pos (by rfl)]
                apply Exists.intro
                refine ⟨fun w' hS' => ?_, hSw, ?_⟩
                · first | (go_simp <;> with_reducible rfl) | (go_simp; go_bits; with_reducible rfl)
                go_simp
                try go_bits
                refine hK _ _ ?_
                clear hK K
              refine lex_step (fun K hK => ?_)
              simp only [lexOp, List.getElem?_toArray, List.getElem?_cons_succ, List.getElem?_cons_zero]
              rw [if_pos (by rfl)]
              go_step
              refine (refPut_any _ a7 (m + 1 + nm.length) c7 (pre ++ putB nm.length 1 ++ nm) dn 4 (HS7.out.below hSw) (by omega) (by omega) (by decide) (by decide)).mono ?_
              rintro e w8 ⟨v8, m8, rfl, ho8, hb8⟩
              replace hSw : Below y.heap.size y w8 := hSw.trans (hb8.mono (by simp))
              have hm8 : m8 = m + 1 + nm.length + 4 := by have h1 := ho8.1; have h2 := HS7.out.1; rw [List.length_map, List.length_append, putB_length, h2] at h1; omega
              subst hm8
              have HO8 := Lib.hid ho8
              clear ho8 hb8
              go_simp
              refine hK _ _ ?_
              clear hK K
              refine lex_step (fun K hK => ?_)
              simp only [lexOp, List.getElem?_toArray, List.getElem?_cons_succ, List.getElem?_cons_zero]
              rw [if_pos (by rfl)]
              change Oper.wp _ _ _ _ _ _
              refine wp_appK oneN (ops := #[]) rfl _ _ _ rfl y.heap.size _ (m + 1 + nm.length + 4) _ rfl HO8.out _ dn (ds.map encB) rfl ((HF7.out.below hSw).src encB_cell Try.underlying22 dc) (by omega) (by unfold maxLen; omega) hSw.size ?_
              intro v9 w9 hown9 _ hb9
              rw [← List.map_append] at hown9
              replace hSw : Below y.heap.size y w9 := hSw.trans hb9
              obtain ⟨a9, c9, rfl, hs9, hc9⟩ := Sl.ofOwn hown9
              have HS9 := Lib.hid hs9
              have HB9 := Lib.hid (HB8.out.trans (hSw.mono HB8.out.size))
              have HX9 := Lib.hid (HX7.out.below hSw)
              have HF9 := Lib.hid (HF7.out.below hSw)
              clear hown9 hb9 hs9
              go_simp
              refine hK _ _ ?_
              clear hK K
              iterate 1
                refine lex_step (fun K hK => ?_)
                simp only [lexOp, List.getElem?_toArray, List.getElem?_cons_succ, List.getElem?_cons_zero]
                rw [if_pos (by rfl)]
                apply Exists.intro
                refine ⟨fun w' hS' => ?_, hSw, ?_⟩
                · first | (go_simp <;> with_reducible rfl) | (go_simp; go_bits; with_reducible rfl)
                go_simp
                try go_bits
                refine hK _ _ ?_
                clear hK K
              refine lex_nil ?_
              clear ld1 hSw HO8 HS7 HX7 HF7 HB8
              obtain ⟨⟨c0, c1⟩, _, hxl⟩ := HX9.out.box
              have HSU := Lib.hid (refSum32_nb w9 da dn dc ds HF9.out.bs (by omega))
              have hsl := sumN_lt ds
              have HDL : Hid (ds.length = dn) := Lib.hid HF9.out.1
              generalize hsm : sumN ds = sm at *
              have HSM := Lib.hid hsm
              clear hsm
              go_wp2_with fail
              refine HSU.out.mono ?_
              rintro e wa ⟨rfl, rfl⟩
              clear HSU
              go_wp2_with fail
              refine (refPut_any _ a9 (m + 1 + nm.length + 4 + dn) c9 (pre ++ putB nm.length 1 ++ nm ++ putB dn 4 ++ ds) sm 4 HS9.out (by omega) (by omega) (by decide) (by decide)).mono ?_
              rintro e wb ⟨vb, mb', rfl, hob, hbb⟩
              have hmb : mb' = m + 1 + nm.length + 4 + dn + 4 := by have h1 := hob.1; have h2 := HS9.out.1; rw [List.length_map, List.length_append, putB_length, h2] at h1; omega
              subst hmb
              have HOb := Lib.hid (own_mono hob HB9.out.size)
              have HBb := Lib.hid (HB9.out.trans (hbb.mono HB9.out.size))
              obtain ⟨ab, cb, rfl, _, _⟩ := Sl.ofOwn hob
              clear hob hbb c0 c1 hxl HS9 HX9 HF9 HB9
              obtain ⟨M, hM⟩ : ∃ M, M = m + 1 + nm.length + 4 + dn + 4 := ⟨_, rfl⟩
              rw [← hM] at HOb ⊢
              rw [show m + (9 + nm.length + dn) = M by omega] at HBG
              clear hM
              by_cases hbig : 65536 < M
              · have HQ := Lib.hid (HBG.out hbig)
                have e5 : decide ((65536 : Int) < M) = true := by simp; omega
                clear hbig
                go_wp2_with fail
                go_ret2
                exact PackOwn.err HQ.out HBb.out
              · have e5 : decide ((65536 : Int) < M) = false := by simp; omega
                have hM2 : M ≤ 65536 := by omega
                clear hbig
                go_wp2_with fail
                go_roundg (k - (p + 1))
                case measure => omega
                case rel => exact ⟨p + 1, M, by omega, rfl, by go_num, hM2, Lib.hid (by rw [HNB.out, HDL.out]; have h := HOb.out; simpa only [List.append_assoc] using h), HBb⟩
            · obtain rfl : p = k := by omega
              have HLE := Lib.hid (show F.take p = F by rw [List.take_of_length_le (by rw [HLn.out]; exact Nat.le_refl _)])
              rw [HLE.out] at HO
              have HJM := Lib.hid (jarN_pre HO.out)
              have HQ := Lib.hid (HOK.out (by rw [HJM.out]; exact hm))
              obtain ⟨va, vc, rfl, hsv, hcv⟩ := Sl.ofOwn HO.out
              have HSV := Lib.hid hsv
              have HJL := Lib.hid (show jarB (F.map IW.iv) = magicB ++ [UInt8.ofNat p] ++ (F.map IW.iv).flatMap IV.bytes by unfold jarB; rw [List.length_map, HLn.out])
              clear hsv
              go_wp2_with fail
              go_ret2
              exact ⟨va, m, vc, by rw [HQ.out]; rfl, by rw [HQ.out, HJL.out]; exact HO.out, HBk.out⟩
theorem refPack_any (w : World) (a : Option Addr) (n cap : Nat) (F : List IW) (hs : Im w a n F) (hi : ItOk w F) (hd : ∀ f ∈ F, f.dn ≤ 100000) (hn : n ≤ 65536) (hcap : n ≤ cap) : Calls Try.prog 13 #[.slice a n cap] w (PackRet (packR (F.map IW.iv)) w) :=
  (refPack_own w a n cap F hs hi hd hn hcap).mono fun e w' h => by
    obtain ⟨a', m, c, h1, h2, h3⟩ := h
    obtain ⟨a2, c2, he, h4, h5⟩ := Sl.ofOwn h2
    cases he
    exact ⟨a', m, c, h1, h4, h5, h3⟩
end Go.Proofs.Ytaedohlfcbppaaa
