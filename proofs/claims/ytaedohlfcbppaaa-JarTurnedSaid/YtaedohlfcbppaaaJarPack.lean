/- jar: Pack. No condition. -/
import Derived.Test.YtaedohlfcbppaaaJarPlain3
namespace Go.Proofs.Ytaedohlfcbppaaa
open Go.ChangeShapes Go.WideShapes Go.ChangeAt Go.RowKit
/-- What Pack answers. -/
def PackRet (R : Int × List UInt8) (w : World) (e : Ending) (w' : World) : Prop :=
  ∃ a m c, e = .returned (.tuple #[.slice a m c, .int .i64 R.1]) ∧ Sl encB w' a m R.2 ∧ m ≤ c ∧ Below w.heap.size w w'
theorem PackRet.err {R : Int × List UInt8} {w w' : World} {e : Int} (h : R = (e, [])) (hb : Below w.heap.size w w') : PackRet R w (.returned (.tuple #[.slice none 0 0, .int .i64 e])) w' := by
  subst h
  exact ⟨_, 0, 0, rfl, Sl.nil _ _, Nat.le_refl _, hb⟩
/-- Items whose bytes can be read. -/
def ItOk (w : World) (F : List IW) : Prop := ∀ f ∈ F, Sl encB w f.da f.dn f.data ∧ f.dn ≤ f.dc ∧ f.dn ≤ 1000000 ∧ f.name.length ≤ 9223372036854775807
theorem ItOk.below {w w' : World} {F : List IW} (h : ItOk w F) (hb : Below w.heap.size w w') : ItOk w' F := fun f hf => ⟨(h f hf).1.below hb, (h f hf).2⟩
theorem own_litJ (w : World) (base : Nat) (C : Array Value) (e : TypeId) (m z : Nat) (hb : base ≤ w.heap.size) (hC : C.size = m * z) (hm : m ≤ maxLen) : (w.alloc (.cells C e)).ownsRow base e z (.slice (some ⟨w.heap.size, 0, none⟩) m m) m C.toList :=
  ⟨by simpa using hC, .inr ⟨w.heap.size, m, C, rfl, hb, heap_alloc_last w _, Nat.le_refl _, hm, hC, by rw [List.take_of_length_le (by simpa using Nat.le_of_eq hC)]⟩⟩
/-- append onto a full slice that is not the call's own; the place of what is appended named. -/
theorem wpList_app_full2 {w : World} {ops : Array Oper} {rest : List Oper} {o : Oper} {a : Act} {Q : Exit → Act → World → Prop} (hgd : Region.wanted o (yielded ops a.tmps) = true) (s x : Operand)
    (ho : o.op = .call { callee := .builtin .append, args := #[s, x], argTypes := #[22, 22] })
    (B : Nat) (ad : Option Addr) (m : Nat) (bs : List UInt8) (hv : a.eval s = .slice ad m m) (hX : Sl encB w ad m bs)
    (C : Array Value) (k c sz : Nat) (hy : a.eval x = .slice (some ⟨sz, 0, none⟩) k c) (hsz : w.heap.size = sz) (hC : C.size = k) (hone : C.toList.all (·.oneCell') = true) (hk : 0 < k) (hlen : m + k ≤ 140737488355328) (hB : B ≤ w.heap.size)
    (h : ∀ v' w', w'.ownsRow B 5 1 v' (m + k) (bs.map encB ++ C.toList) → Below B w w' → wpList Try.prog ops Q rest (a.put o.dst v') w') : wpList Try.prog ops Q (o :: rest) a (w.alloc (.cells C 5)) := by
  subst hsz
  exact wpList_app_full_lit (enc := encB) oneN hgd s x ho w.heap.size ad m m bs hv hX C k c hy hC hone (by omega) (Nat.le_refl _) (by omega) (by unfold maxLen; omega) (Nat.le_refl _) (fun v' w' h1 h3 => h v' w' (own_mono h1 hB) (h3.mono hB))
theorem jarN_take (l : List IV) (k : Nat) : jarN (l.take k) ≤ jarN l := by
  unfold jarN
  rw [← List.take_append_drop k l, List.map_append, List.sum_append, List.take_append_drop]
  omega
theorem encB_natJ (o : Nat) (h : o < 256) : Value.int .u8 (o : Nat) = encB (UInt8.ofNat o) := by unfold encB; rw [UInt8.toNat_ofNat_of_lt' h]
theorem take_snoc {F : List IW} {j : Nat} {f : IW} (h : F[j]? = some f) : F.take (j + 1) = F.take j ++ [f] := by
  obtain ⟨hj, he⟩ := List.getElem?_eq_some_iff.1 h
  rw [List.take_succ_eq_append_getElem hj, he]
set_option maxRecDepth 100000 in
set_option maxHeartbeats 16000000 in
theorem Pack_any (w : World) (a : Option Addr) (n cap : Nat) (F : List IW) (hs : Im w a n F) (hi : ItOk w F) (hn : n ≤ 65536) : Calls Try.prog 11 #[.slice a n cap] w (PackRet (packR (F.map IW.iv)) w) := by
  have HS := Lib.hid hs
  have HLn := Lib.hid hs.1
  have HI := Lib.hid hi
  obtain ⟨R, hR⟩ : ∃ R, R = packR (F.map IW.iv) := ⟨_, rfl⟩
  rw [← hR]
  have HR := Lib.hid hR
  clear hs hi hR
  have hmm := @run_makeMap Try.prog
  go_enter Try.func11, Try.ntmps11
  go_wp2_with fail
  clear hmm
  have HM1 := Lib.hid (show NamesM (w.alloc (.map #[] 0)) w.heap.size 0 [] from World.ownsMap_made _ _ _ _)
  have HB1 := Lib.hid (show Below w.heap.size w (w.alloc (.map #[] 0)) from (Below.refl _ _).alloc (Nat.le_refl _) _)
  obtain ⟨mb, hmb⟩ : ∃ mb, mb = w.heap.size := ⟨_, rfl⟩
  rw [← hmb] at HM1 ⊢
  have HMB := Lib.hid (show w.heap.size ≤ mb by omega)
  clear hmb
  generalize w.alloc (.map #[] 0) = w1 at *
  go_loopg [14, 5] n (fun gn i v wr => ∃ j s : Nat, j ≤ n ∧ gn = n - j ∧ i = .int .i64 j ∧ v = .int .i64 s ∧ Hid (SizeOk s (jarN ((F.take j).map IW.iv))) ∧ s ≤ 131072 ∧ Hid (∀ k f, k < j → F[k]? = some f → nameOk f.name = true) ∧
    Hid (NamesM wr mb j ((F.take j).map IW.name)) ∧ Hid (Below w.heap.size w wr))
  case atStart => exact ⟨0, 5, by omega, by omega, by go_num, rfl, Lib.hid ⟨fun _ => rfl, fun h => by rw [show jarN ((F.take 0).map IW.iv) = 5 from rfl] at h; omega, by decide⟩, by omega, Lib.hid (fun k f h => by omega), HM1, HB1⟩
  case round =>
    obtain ⟨j, s, hj, rfl, rfl, rfl, HSZ, hs, HG, HM, HB⟩ := hrel
    by_cases hlt : j < n
    · obtain ⟨b, off, f, rfl, hbl, hf, c0, c1⟩ := (HS.out.below HB.out).at j hlt
      have hfi := HI.out f (List.mem_of_getElem? hf)
      have HBD := Lib.hid (show nameOk f.name = false → R = (13, []) from fun h => by rw [HR.out]; exact pack_name (List.mem_map_of_mem (List.mem_of_getElem? hf)) h)
      have HNX := Lib.hid (show nameOk f.name = true → ∀ k f, k < j + 1 → F[k]? = some f → nameOk f.name = true from fun h k f' hk hf' => by
        rcases Nat.lt_or_ge k j with h1 | h1
        · exact HG.out k f' h1 hf'
        · obtain rfl : k = j := by omega
          rw [hf] at hf'
          cases hf'
          exact h)
      have HTK := Lib.hid (take_snoc hf)
      have HST := Lib.hid (HSZ.out.step (a := f.name.length) (b := f.dn))
      have hdl := hfi.1.1
      have HJN := Lib.hid (show jarN ((F.take (j + 1)).map IW.iv) = jarN ((F.take j).map IW.iv) + (9 + f.name.length + f.dn) by
        rw [HTK.out, List.map_append]
        rw [show List.map IW.iv [f] = [f.iv] from rfl, jarN_snoc]
        rw [show f.iv.name = f.name from rfl, show f.iv.data.length = f.dn from hdl])
      obtain ⟨_, hfc, hfn, hfl⟩ := hfi
      have HNM := Lib.hid (show (F.take (j + 1)).map IW.name = (F.take j).map IW.name ++ [f.name] by rw [HTK.out, List.map_append]; rfl)
      have HNL := Lib.hid (show nameOk f.name = true → f.name.length ≤ 64 from fun h => by
        unfold nameOk at h
        simp only [Bool.and_eq_true, decide_eq_true_eq] at h
        exact h.1.2)
      obtain ⟨nm, da, dn, dc, ds⟩ := f
      simp only at c0 c1 HBD HNX HST HJN hfn hfl hfc HNM HNL
      have j1 : (j : Int) < n := by omega
      clear hf hdl HTK
      have HIN := Lib.hid (isName_any (wr.alloc (.cells #[.string ⟨nm.toArray⟩, .slice da dn dc] 36)) nm)
      generalize nameOk nm = ok at *
      go_upto_region 6 with fail
      have hba : Below wr.heap.size wr (wr.alloc (.cells #[.string ⟨nm.toArray⟩, .slice da dn dc] 36)) := (Below.refl _ _).alloc (Nat.le_refl _) _
      have HBA := Lib.hid (HB.out.trans (hba.mono HB.out.size))
      have HMA := Lib.hid (HM.out.below hba)
      have HXA := Lib.hid (show IBlk (wr.alloc (.cells #[.string ⟨nm.toArray⟩, .slice da dn dc] 36)) wr.heap.size nm da dn dc from heap_alloc_last wr _)
      have HBN := Lib.hid (show wr.heap.size ≠ mb from by have := HM.out.lt; omega)
      clear hba c0 c1
      generalize wr.alloc (.cells #[.string ⟨nm.toArray⟩, .slice da dn dc] 36) = W at *
      generalize wr.heap.size = bx at *
      obtain ⟨⟨c0, c1⟩, _, hxl⟩ := HXA.out.box
      go_wp2_with fail
      refine HIN.out.mono ?_
      rintro en w2 ⟨rfl, hb2⟩
      have HB2 := Lib.hid (HBA.out.trans (hb2.mono HBA.out.size))
      have HM2 := Lib.hid (HMA.out.below hb2)
      have HX2 := Lib.hid (HXA.out.below hb2)
      clear hb2 HIN HBA HMA HXA HB HM c0 c1 hxl
      obtain ⟨⟨c0, c1⟩, _, hxl⟩ := HX2.out.box
      cases ok
      · have HQ := Lib.hid (HBD.out rfl)
        go_wp2_with fail
        go_ret2
        exact PackRet.err HQ.out HB2.out
      · have HG2 := Lib.hid (HNX.out rfl)
        replace hfl := HNL.out rfl
        clear HNL
        obtain ⟨w3, hrun, hm3, hg3⟩ := put_name HM2.out nm (by unfold maxLen; omega) (by unfold maxLen; omega)
        have HX3 := Lib.hid (HX2.out.apart hg3 HBN.out)
        have HM3 := Lib.hid hm3
        have HB3 := Lib.hid (HB2.out.grown hg3 HB2.out.size (fun m hm => by cases hm; exact HMB.out))
        clear hm3 hg3 HX2 HM2 HB2 HBD HNX
        obtain ⟨⟨d0, d1⟩, _, hxl3⟩ := HX3.out.box
        obtain ⟨s', hs'⟩ : ∃ s', s' = min (s + 9 + nm.length + min dn 65536) 131072 := ⟨_, rfl⟩
        have HS' := Lib.hid hs'
        have hs2 : s' ≤ 131072 := by omega
        rw [← hs'] at HST
        have HSZ2 := Lib.hid (show SizeOk s' (jarN ((F.take (j + 1)).map IW.iv)) by rw [HJN.out]; exact HST.out)
        have HM4 := Lib.hid (show NamesM w3 mb (j + 1) ((F.take (j + 1)).map IW.name) by rw [HNM.out]; exact HM3.out)
        clear hs'
        go_wp2_with fail
        all_goals
          go_roundg (n - (j + 1))
          case measure => omega
          case rel => exact ⟨j + 1, s', by omega, rfl, by go_num, congrArg (Value.int .i64) (by have := HS'.out; omega), HSZ2, hs2, HG2, HM4, HB3⟩
    · obtain rfl : j = n := by omega
      have HLE := Lib.hid (show F.take j = F by rw [List.take_of_length_le (by rw [HLn.out]; exact Nat.le_refl _)])
      rw [HLE.out] at HSZ HM
      have HAL := Lib.hid (show ∀ x ∈ F.map IW.iv, nameOk x.name = true from fun x hx => by
        obtain ⟨f, hf, rfl⟩ := List.mem_map.1 hx
        obtain ⟨k, hk, rfl⟩ := List.getElem_of_mem hf
        exact HG.out k _ (by rw [HLn.out] at hk; exact hk) (List.getElem?_eq_getElem hk))
      have HAP := Lib.hid (apart_size (F.map IW.iv))
      rw [List.length_map, HLn.out, show (F.map IW.iv).map (·.name) = F.map IW.name from by rw [List.map_map]; rfl] at HAP
      have hle := HM.out.len Try.underlying50 3
      obtain ⟨z, hz⟩ : ∃ z, z = Maps.size (namesD (F.map IW.name)) := ⟨_, rfl⟩
      have hzn := (size_nodup j (F.map IW.name) (by rw [List.length_map]; exact HLn.out)).1
      rw [← hz] at hle HAP hzn
      clear hz HM HG HLE
      by_cases hzl : z < j
      · have HQ := Lib.hid (show R = (12, []) by rw [HR.out]; exact pack_apart HAL.out (by rw [HAP.out]; simp [hzl]))
        have e1 : decide (z < j) = true := by simp [hzl]
        clear hzl
        go_wp2_with fail
        go_ret2
        exact PackRet.err HQ.out HB.out
      have e1 : decide (z < j) = false := by simp; omega
      have HAP2 := Lib.hid (show apartB (F.map IW.iv) = true by rw [HAP.out]; simp [hzl])
      clear hzl hzn
      by_cases hlong : 40 < j ∨ 65536 < s
      · have HQ := Lib.hid (show R = (9, []) by
          rw [HR.out]
          refine pack_long HAL.out HAP2.out ?_
          rw [List.length_map, HLn.out]
          rcases hlong with h | h
          · exact .inl h
          · obtain ⟨k1, k2, k3⟩ := HSZ.out
            by_cases hT : 65536 < jarN (F.map IW.iv)
            · exact .inr hT
            · have := k1 (by omega); omega)
        by_cases h40 : 40 < j
        · have e2 : decide ((40 : Int) < j) = true := by simp; omega
          clear hlong h40
          go_wp2_with fail
          go_ret2
          exact PackRet.err HQ.out HB.out
        · have e2 : decide ((40 : Int) < j) = false := by simp; omega
          have e3 : decide ((65536 : Int) < s) = true := by simp; omega
          clear hlong h40
          go_wp2_with fail
          go_ret2
          exact PackRet.err HQ.out HB.out
      have e2 : decide ((40 : Int) < j) = false := by simp; omega
      have e3 : decide ((65536 : Int) < s) = false := by simp; omega
      have hj40 : j ≤ 40 := by omega
      have HT := Lib.hid (show jarN (F.map IW.iv) ≤ 65536 by
        obtain ⟨k1, k2, k3⟩ := HSZ.out
        by_cases hT : 65536 < jarN (F.map IW.iv)
        · have := k2 hT; omega
        · omega)
      have HQ := Lib.hid (show R = (0, jarB (F.map IW.iv)) by
        rw [HR.out]
        refine pack_ok HAL.out HAP2.out ?_
        rw [List.length_map, HLn.out]
        have := HT.out
        omega)
      clear hlong HSZ
      have wj : IntKind.u8.wrap (j : Int) = (j : Int) := by rw [IntKind.wrap_u8]; omega
      have kc := fun (w : World) (C : Array Value) (n c : Nat) => Lib.run_convert_bytes_const (P := Try.prog) w 22 5 C n c Try.underlying22 Try.underlying5
      have HSL := Lib.hid (Sl.lit (enc := encB) (n := 4) (xs := magicB) (heap_alloc_last wr (Obj.cells #[.int .u8 67, .int .u8 74, .int .u8 48, .int .u8 49] 5 (4, 5))) rfl rfl)
      have HBL := Lib.hid (HB.out.alloc HB.out.size (Obj.cells #[.int .u8 67, .int .u8 74, .int .u8 48, .int .u8 49] 5 (4, 5)))
      have HJB := Lib.hid (encB_natJ j (by omega))
      go_wp2_with (at_builtin; first
        | (refine wpList_app_full2 rfl _ _ rfl w.heap.size _ 4 magicB rfl HSL.out _ 1 _ _ rfl (by simp) rfl rfl (by decide) (by decide) HBL.out.size ?_; intro v5 w5 hown5 hb5; have HO5 := Lib.hid (show w5.ownsRow w.heap.size 5 1 v5 (4 + 1) ((magicB ++ [UInt8.ofNat j]).map encB) by rw [HJB.out] at hown5; exact hown5); have HB5 := Lib.hid (HBL.out.trans hb5); clear hown5 hb5))
      clear HSL HBL kc
      go_loopg [61, 8] j (fun gn i v wr => ∃ k m : Nat, k ≤ j ∧ gn = j - k ∧ i = .int .i64 k ∧ m ≤ 65536 ∧ Hid (wr.ownsRow w.heap.size 5 1 v m ((magicB ++ [UInt8.ofNat j] ++ ((F.take k).map IW.iv).flatMap IV.bytes).map encB)) ∧ Hid (Below w.heap.size w wr))
      case atStart => exact ⟨0, 5, by omega, by omega, by go_num, by omega, Lib.hid (by have h := HO5.out; simpa using h), HB5⟩
      case round =>
        clear HO5 HB5
        obtain ⟨k, m, hk, rfl, rfl, hm, HO, HBk⟩ := hrel
        by_cases hlt2 : k < j
        · obtain ⟨b, off, f, rfl, hbl, hf, c0, c1⟩ := (HS.out.below HBk.out).at k hlt2
          have hfi := HI.out f (List.mem_of_getElem? hf)
          have HTK := Lib.hid (take_snoc hf)
          have HFS := Lib.hid (hfi.1.below HBk.out)
          have hfc := hfi.2.1
          have hfn := hfi.2.2.1
          have hfl := hfi.2.2.2
          have htl : m + (9 + f.name.length + f.dn) ≤ 65536 := by
            have h1 := HO.out.1
            have h2 := HT.out
            have h3 := jarN_take (F.map IW.iv) (k + 1)
            rw [← List.map_take, HTK.out, List.map_append, show List.map IW.iv [f] = [f.iv] from rfl, jarN_snoc, show f.iv.name = f.name from rfl, show f.iv.data.length = f.dn from hfi.1.1] at h3
            have h4 := jar_length ((F.take k).map IW.iv)
            unfold jarB at h4
            simp only [List.length_append, List.length_map, List.length_cons, List.length_nil, Nat.mul_one] at h1 h4
            omega
          have HNB := Lib.hid (show magicB ++ [UInt8.ofNat j] ++ ((F.take (k + 1)).map IW.iv).flatMap IV.bytes = magicB ++ [UInt8.ofNat j] ++ ((F.take k).map IW.iv).flatMap IV.bytes ++ f.iv.bytes by
            rw [HTK.out, List.map_append, List.flatMap_append, show List.map IW.iv [f] = [f.iv] from rfl]
            simp)
          clear hfi HTK
          obtain ⟨pre, hpre⟩ : ∃ pre, pre = magicB ++ [UInt8.ofNat j] ++ ((F.take k).map IW.iv).flatMap IV.bytes := ⟨_, rfl⟩
          rw [← hpre] at HO HNB
          obtain ⟨nm, da, dn, dc, ds⟩ := f
          simp only at c0 c1 hfc hfn hfl HFS htl
          have HIB : Hid ((⟨nm, da, dn, dc, ds⟩ : IW).iv.bytes = putB nm.length 1 ++ nm ++ putB ds.length 4 ++ ds ++ putB (sumN ds) 4) := Lib.hid rfl
          rw [HIB.out] at HNB
          have j1 : (k : Int) < j := by omega
          clear hf hpre HIB
          obtain ⟨va, vc, rfl, hsv, hcv⟩ := Sl.ofOwn HO.out
          have HSV := Lib.hid hsv
          clear hsv
          go_upto_region 19 with fail
          have hba : Below wr.heap.size wr (wr.alloc (.cells #[.string ⟨nm.toArray⟩, .slice da dn dc] 36)) := (Below.refl _ _).alloc (Nat.le_refl _) _
          have HBA := Lib.hid (HBk.out.trans (hba.mono HBk.out.size))
          have HSA := Lib.hid (HSV.out.below hba)
          have HFA := Lib.hid (HFS.out.below hba)
          have HXA := Lib.hid (show IBlk (wr.alloc (.cells #[.string ⟨nm.toArray⟩, .slice da dn dc] 36)) wr.heap.size nm da dn dc from heap_alloc_last wr _)
          clear hba c0 c1 HSV HFS HBk HO
          generalize wr.alloc (.cells #[.string ⟨nm.toArray⟩, .slice da dn dc] 36) = W at *
          generalize wr.heap.size = bx at *
          obtain ⟨⟨c0, c1⟩, _, hxl⟩ := HXA.out.box
          have ld0 := fun w' (h : Below W.heap.size W w') => cellS_below h c0
          have hSw : Below W.heap.size W W.drew := (Below.refl _ _).drew
          clear c0 c1 hxl
          refine wp_region_lex (Below W.heap.size W) [(0, true), (1, true), (2, true), (3, true), (4, true), (6, true), (7, true), (5, false), (8, false), (9, true)] (by kernel_rfl) (by kernel_rfl) (fun c a d v w h => by cases d <;> exact h) ?_
          iterate 7
            refine lex_step (fun K hK => ?_)
            simp only [lexOp, List.getElem?_toArray, List.getElem?_cons_succ, List.getElem?_cons_zero]
            rw [if_pos (by rfl)]
            apply Exists.intro
            refine ⟨fun w' hS' => ?_, hSw, ?_⟩
            · first | (go_simp <;> with_reducible rfl) | (go_simp; go_bits; with_reducible rfl)
            go_simp
            try go_bits
            refine hK _ _ ?_
            clear hK K
          refine lex_step (fun K hK => ?_)
          simp only [lexOp, List.getElem?_toArray, List.getElem?_cons_succ, List.getElem?_cons_zero]
          rw [if_pos (by rfl)]
          go_step
          refine (Put_any _ va m vc pre nm.length 1 (HSA.out.below hSw) (by omega) hcv (by omega) (by decide) (by decide)).mono ?_
          rintro e w6 ⟨v6, m6, rfl, ho6, hb6⟩
          replace hSw : Below W.heap.size W w6 := hSw.trans (hb6.mono (by simp))
          have hm6 : m6 = m + 1 := by have h1 := ho6.1; have h2 := HSA.out.1; rw [List.length_map, List.length_append, putB_length, h2] at h1; omega
          subst hm6
          have HO6 := Lib.hid ho6
          clear ho6 hb6
          go_simp
          refine hK _ _ ?_
          clear hK K
          refine lex_step (fun K hK => ?_)
          simp only [lexOp, List.getElem?_toArray, List.getElem?_cons_succ, List.getElem?_cons_zero]
          rw [if_pos (by rfl)]
          change Oper.wp _ _ _ _ _ _
          refine wp_appK oneN (ops := #[]) rfl _ _ _ rfl W.heap.size _ (m + 1) _ rfl HO6.out _ nm.length (nm.map encB) rfl (strSrcK _ nm) (by omega) (by unfold maxLen; omega) hSw.size ?_
          intro v7 w7 hown7 _ hb7
          rw [← List.map_append] at hown7
          replace hSw : Below W.heap.size W w7 := hSw.trans hb7
          obtain ⟨a7, c7, rfl, hs7, hc7⟩ := Sl.ofOwn hown7
          have HS7 := Lib.hid hs7
          have HB7 := Lib.hid (HBA.out.trans (hSw.mono HBA.out.size))
          have HX7 := Lib.hid (HXA.out.below hSw)
          have HF7 := Lib.hid (HFA.out.below hSw)
          clear hown7 hb7 hs7
          go_simp
          refine hK _ _ ?_
          clear hK K
          iterate 1
            refine lex_step (fun K hK => ?_)
            simp only [lexOp, List.getElem?_toArray, List.getElem?_cons_succ, List.getElem?_cons_zero]
            rw [if_pos (by rfl)]
            apply Exists.intro
            refine ⟨fun w' hS' => ?_, hSw, ?_⟩
            · first | (go_simp <;> with_reducible rfl) | (go_simp; go_bits; with_reducible rfl)
            go_simp
            try go_bits
            refine hK _ _ ?_
            clear hK K
          refine lex_nil ?_
          clear ld0 hSw HO6 HSA HXA HFA HBA
          go_upto_region 20 with fail
          obtain ⟨⟨c0, c1⟩, _, hxl⟩ := HX7.out.box
          have ld1 := fun w' (h : Below w7.heap.size w7 w') => cellS_below h c1
          have hSw : Below w7.heap.size w7 w7.drew := (Below.refl _ _).drew
          clear c0 c1 hxl
          refine wp_region_lex (Below w7.heap.size w7) [(0, true), (1, true), (2, true), (3, true), (4, true), (6, true), (7, true), (5, false), (8, false), (9, true)] (by kernel_rfl) (by kernel_rfl) (fun c a d v w h => by cases d <;> exact h) ?_
          iterate 7
            refine lex_step (fun K hK => ?_)
            simp only [lexOp, List.getElem?_toArray, List.getElem?_cons_succ, List.getElem?_cons_zero]
            rw [if_pos (by rfl)]
            apply Exists.intro
            refine ⟨fun w' hS' => ?_, hSw, ?_⟩
            · first | (go_simp <;> with_reducible rfl) | (go_simp; go_bits; with_reducible rfl)
            go_simp
            try go_bits
            refine hK _ _ ?_
            clear hK K
          refine lex_step (fun K hK => ?_)
          simp only [lexOp, List.getElem?_toArray, List.getElem?_cons_succ, List.getElem?_cons_zero]
          rw [if_pos (by rfl)]
          go_step
          refine (Put_any _ a7 (m + 1 + nm.length) c7 (pre ++ putB nm.length 1 ++ nm) dn 4 (HS7.out.below hSw) (by omega) hc7 (by omega) (by decide) (by decide)).mono ?_
          rintro e w8 ⟨v8, m8, rfl, ho8, hb8⟩
          replace hSw : Below w7.heap.size w7 w8 := hSw.trans (hb8.mono (by simp))
          have hm8 : m8 = m + 1 + nm.length + 4 := by have h1 := ho8.1; have h2 := HS7.out.1; rw [List.length_map, List.length_append, putB_length, h2] at h1; omega
          subst hm8
          have HO8 := Lib.hid ho8
          clear ho8 hb8
          go_simp
          refine hK _ _ ?_
          clear hK K
          refine lex_step (fun K hK => ?_)
          simp only [lexOp, List.getElem?_toArray, List.getElem?_cons_succ, List.getElem?_cons_zero]
          rw [if_pos (by rfl)]
          change Oper.wp _ _ _ _ _ _
          refine wp_appK oneN (ops := #[]) rfl _ _ _ rfl w7.heap.size _ (m + 1 + nm.length + 4) _ rfl HO8.out _ dn (ds.map encB) rfl ((HF7.out.below hSw).src encB_cell Try.underlying22 dc) (by omega) (by unfold maxLen; omega) hSw.size ?_
          intro v9 w9 hown9 _ hb9
          rw [← List.map_append] at hown9
          replace hSw : Below w7.heap.size w7 w9 := hSw.trans hb9
          obtain ⟨a9, c9, rfl, hs9, hc9⟩ := Sl.ofOwn hown9
          have HS9 := Lib.hid hs9
          have HB9 := Lib.hid (HB7.out.trans (hSw.mono HB7.out.size))
          have HX9 := Lib.hid (HX7.out.below hSw)
          have HF9 := Lib.hid (HF7.out.below hSw)
          clear hown9 hb9 hs9
          go_simp
          refine hK _ _ ?_
          clear hK K
          iterate 1
            refine lex_step (fun K hK => ?_)
            simp only [lexOp, List.getElem?_toArray, List.getElem?_cons_succ, List.getElem?_cons_zero]
            rw [if_pos (by rfl)]
            apply Exists.intro
            refine ⟨fun w' hS' => ?_, hSw, ?_⟩
            · first | (go_simp <;> with_reducible rfl) | (go_simp; go_bits; with_reducible rfl)
            go_simp
            try go_bits
            refine hK _ _ ?_
            clear hK K
          refine lex_nil ?_
          clear ld1 hSw HO8 HS7 HX7 HF7 HB7
          obtain ⟨⟨c0, c1⟩, _, hxl⟩ := HX9.out.box
          have HSU := Lib.hid (Sum32_n w9 da dn dc ds HF9.out.bs (by omega))
          have hsl := sumN_lt ds
          have HDL : Hid (ds.length = dn) := Lib.hid HF9.out.1
          generalize hsm : sumN ds = sm at *
          have HSM := Lib.hid hsm
          clear hsm
          go_wp2_with fail
          refine HSU.out.mono ?_
          rintro e wa ⟨rfl, hba⟩
          have HSa := Lib.hid (HS9.out.below hba)
          have HBa := Lib.hid (HB9.out.trans (hba.mono HB9.out.size))
          clear hba HSU c0 c1 hxl HS9 HX9 HF9 HB9
          go_wp2_with fail
          refine (Put_any _ a9 (m + 1 + nm.length + 4 + dn) c9 (pre ++ putB nm.length 1 ++ nm ++ putB dn 4 ++ ds) sm 4 HSa.out (by omega) hc9 (by omega) (by decide) (by decide)).mono ?_
          rintro e wb ⟨vb, mb', rfl, hob, hbb⟩
          have hmb : mb' = m + 1 + nm.length + 4 + dn + 4 := by have h1 := hob.1; have h2 := HSa.out.1; rw [List.length_map, List.length_append, putB_length, h2] at h1; omega
          subst hmb
          have HOb := Lib.hid (own_mono hob HBa.out.size)
          have HBb := Lib.hid (HBa.out.trans (hbb.mono HBa.out.size))
          clear hob hbb
          go_wp2_with fail
          go_roundg (j - (k + 1))
          case measure => omega
          case rel => exact ⟨k + 1, m + 1 + nm.length + 4 + dn + 4, by omega, rfl, by go_num, by omega, Lib.hid (by rw [HNB.out, HDL.out]; have h := HOb.out; simpa only [List.append_assoc] using h), HBb⟩
        · obtain rfl : k = j := by omega
          have HLE := Lib.hid (show F.take k = F by rw [List.take_of_length_le (by rw [HLn.out]; exact Nat.le_refl _)])
          rw [HLE.out] at HO
          obtain ⟨va, vc, rfl, hsv, hcv⟩ := Sl.ofOwn HO.out
          have HSV := Lib.hid hsv
          have HJL := Lib.hid (show jarB (F.map IW.iv) = magicB ++ [UInt8.ofNat k] ++ (F.map IW.iv).flatMap IV.bytes by unfold jarB; rw [List.length_map, HLn.out])
          clear hsv
          go_wp2_with fail
          go_ret2
          exact ⟨va, m, vc, by rw [HQ.out]; rfl, by rw [HQ.out, HJL.out]; exact HSV.out, hcv, HBk.out⟩
end Go.Proofs.Ytaedohlfcbppaaa
