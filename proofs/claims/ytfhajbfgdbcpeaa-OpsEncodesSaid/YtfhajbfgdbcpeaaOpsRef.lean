/- ops: the reference's there, goes, Same and Decode (printed by gen/ops4.py). No condition. -/
import Derived.Test.YtfhajbfgdbcpeaaOpsFix
import Derived.Test.YtfhajbfgdbcpeaaOpsLaw
namespace Go.Proofs.Ytfhajbfgdbcpeaa
open Go.ChangeShapes Go.WideShapes Go.ChangeAt Go.RowKit
theorem there_yes {L : List RW} {r : RW} {p : Int} (hr : r ∈ L) (h : r.pos = p) : thereB L p = true := by
  unfold thereB
  rw [List.any_eq_true]
  exact ⟨r, hr, by simp [h]⟩
theorem there_no {L : List RW} {p : Int} (h : ∀ (k : Nat) r, L[k]? = some r → r.pos ≠ p) : thereB L p = false := by
  unfold thereB
  rw [List.any_eq_false]
  intro r hr
  obtain ⟨k, hk, rfl⟩ := List.getElem_of_mem hr
  simpa using h k _ (List.getElem?_eq_getElem hk)
set_option maxRecDepth 100000 in
set_option maxHeartbeats 4000000 in
theorem there_any (w : World) (a : Option Addr) (n cap : Nat) (L : List RW) (p : Int) (hs : Rs w a n L) (hn : n ≤ 65536) : Calls Try.prog 27 #[.slice a n cap, .int .i64 p] w (QuietRet (.bool (thereB L p)) w) := by
  have HS := Lib.hid hs
  have HLn := Lib.hid hs.1
  clear hs
  go_enter Try.func27, Try.ntmps27
  go_wp2_with fail
  go_loopg [9] n (fun gn i wr => ∃ j : Nat, j ≤ n ∧ gn = n - j ∧ i = .int .i64 j ∧ Hid (∀ (k : Nat) r, k < j → L[k]? = some r → r.pos ≠ p) ∧ Hid (Below w.heap.size w wr))
  case atStart => exact ⟨0, by omega, by omega, by go_num, Lib.hid (fun k r h => by omega), Lib.hid (Below.refl _ _)⟩
  case round =>
    obtain ⟨j, hj, rfl, rfl, HG, HB⟩ := hrel
    by_cases hlt : j < n
    · obtain ⟨b, off, r, rfl, _, hr, q⟩ := (HS.out.below HB.out).at j hlt
      obtain ⟨q0, q1, q2, q3⟩ := q
      have HYE := Lib.hid (fun h => there_yes (p := p) (List.mem_of_getElem? hr) h)
      have HNX := Lib.hid (show r.pos ≠ p → ∀ (k : Nat) r, k < j + 1 → L[k]? = some r → r.pos ≠ p from fun h k r' hk hr' => by
        rcases Nat.lt_or_ge k j with h1 | h1
        · exact HG.out k r' h1 hr'
        · obtain rfl : k = j := by omega
          rw [hr] at hr'
          cases hr'
          exact h)
      have j1 : (j : Int) < n := by omega
      obtain ⟨x, o, y, z⟩ := r
      simp only at q0 q1 q2 q3 HYE HNX
      clear hr
      by_cases hx : x = p
      · subst hx
        have HR := Lib.hid (HYE.out rfl)
        clear HYE HNX
        go_wp2_with fail
        go_ret
        exact ⟨by rw [HR.out]; rfl, HB.out.alloc HB.out.size _⟩
      · have ex : (x == p) = false := by simp [hx]
        have HQ := Lib.hid (HNX.out hx)
        clear hx HYE HNX
        go_wp2_with fail
        go_roundg (n - (j + 1))
        case measure => omega
        case rel => exact ⟨j + 1, by omega, rfl, by go_num, HQ, Lib.hid (HB.out.alloc HB.out.size _)⟩
    · obtain rfl : j = n := by omega
      have HR := Lib.hid (there_no (L := L) (p := p) (fun k r hk => HG.out k r (by have := (List.getElem?_eq_some_iff.1 hk).1; rw [HLn.out] at this; exact this) hk))
      go_wp2_with fail
      go_ret
      exact ⟨by rw [HR.out]; rfl, HB.out⟩
set_option maxRecDepth 100000 in
set_option maxHeartbeats 4000000 in
theorem refgoes_any (w : World) (a : Option Addr) (n cap : Nat) (L : List RW) (hs : Rs w a n L) (hn : n ≤ 65536) (hw : ∀ r ∈ L, r.op < 256) : Calls Try.prog 23 #[.slice a n cap] w (QuietRet (.bool (goesB L)) w) := by
  have HS := Lib.hid hs
  have HLn := Lib.hid hs.1
  have HW := Lib.hid hw
  clear hs hw
  go_enter Try.func23, Try.ntmps23
  go_wp2_with fail
  go_loopg [7] n (fun gn i wr => ∃ j : Nat, j ≤ n ∧ gn = n - j ∧ i = .int .i64 j ∧ Hid (∀ (k : Nat) r, k < j → L[k]? = some r → (!(formN r.op == 7) || thereB L r.a) = true) ∧ Hid (Below w.heap.size w wr))
  case atStart => exact ⟨0, by omega, by omega, by go_num, Lib.hid (fun k r h => by omega), Lib.hid (Below.refl _ _)⟩
  case round =>
    obtain ⟨j, hj, rfl, rfl, HG, HB⟩ := hrel
    by_cases hlt : j < n
    · obtain ⟨b, off, r, rfl, _, hr, q⟩ := (HS.out.below HB.out).at j hlt
      obtain ⟨q0, q1, q2, q3⟩ := q
      have hop := HW.out r (List.mem_of_getElem? hr)
      have HBad := Lib.hid (goes_bad (L := L) (List.mem_of_getElem? hr))
      have HNx := Lib.hid (show (!(formN r.op == 7) || thereB L r.a) = true → ∀ (k : Nat) r, k < j + 1 → L[k]? = some r → (!(formN r.op == 7) || thereB L r.a) = true from fun h k r' hk hr' => by
        rcases Nat.lt_or_ge k j with h1 | h1
        · exact HG.out k r' h1 hr'
        · obtain rfl : k = j := by omega
          rw [hr] at hr'
          cases hr'
          exact h)
      have j1 : (j : Int) < n := by omega
      have HTH := Lib.hid (fun w' (hb : Below w.heap.size w w') => there_any w' (some ⟨b, off, none⟩) n cap L r.a (HS.out.below hb) hn)
      have HFM := Lib.hid (fun w' => refForm_any w' r.op hop)
      obtain ⟨p, o, x, y⟩ := r
      simp only at q0 q1 q2 q3 hop HBad HNx HTH HFM
      have f9 := formN_le o
      generalize thereB L x = th at *
      generalize formN o = f at *
      clear hr
      have HA := Lib.hid (HB.out.alloc HB.out.size (.cells #[.int .i64 p, .int .u8 (o : Nat), .int .i64 x, .int .i64 y] 36))
      by_cases h7 : f = 7
      · subst h7
        go_wp2_with fail
        refine (HFM.out _).mono ?_
        rintro e w' ⟨rfl, rfl⟩
        go_wp2_with fail
        refine (HTH.out _ HA.out).mono ?_
        rintro e w3 ⟨rfl, hb3⟩
        have HB3 := Lib.hid (HA.out.trans (hb3.mono HA.out.size))
        clear hb3
        cases th
        · have HR := Lib.hid (HBad.out rfl)
          go_wp2_with fail
          go_ret
          exact ⟨by rw [HR.out]; rfl, HB3.out⟩
        · have HQ := Lib.hid (HNx.out rfl)
          go_wp2_with fail
          go_roundg (n - (j + 1))
          case measure => omega
          case rel => exact ⟨j + 1, by omega, rfl, by go_num, HQ, HB3⟩
      · have e7 : ((f : Int) == 7) = false := by simp; omega
        have HQ := Lib.hid (HNx.out (by simp [h7]))
        clear h7
        go_wp2_with fail
        refine (HFM.out _).mono ?_
        rintro e w' ⟨rfl, rfl⟩
        go_wp2_with fail
        go_roundg (n - (j + 1))
        case measure => omega
        case rel => exact ⟨j + 1, by omega, rfl, by go_num, HQ, HA⟩
    · obtain rfl : j = n := by omega
      have HR := Lib.hid (goes_good (L := L) (fun k r hk => HG.out k r (by have := (List.getElem?_eq_some_iff.1 hk).1; rw [HLn.out] at this; exact this) hk))
      go_wp2_with fail
      go_ret
      exact ⟨by rw [HR.out]; rfl, HB.out⟩
set_option maxRecDepth 100000 in
set_option maxHeartbeats 4000000 in
theorem Same_yes (w : World) (a b : Option Addr) (n ca cb : Nat) (L : List RW) (hs : Rs w a n L) (ht : Rs w b n L) (hn : n ≤ 65536) : Calls Try.prog 14 #[.slice a n ca, .slice b n cb] w (QuietRet (.bool true) w) := by
  have HS := Lib.hid hs
  have HT := Lib.hid ht
  have hgd := raw_guard
  clear hs ht
  go_enter Try.func14, Try.ntmps14
  go_wp2_with fail
  go_loopg [13] n (fun gn i wr => ∃ j : Nat, j ≤ n ∧ gn = n - j ∧ i = .int .i64 j ∧ Hid (Below w.heap.size w wr))
  case atStart => exact ⟨0, by omega, by omega, by go_num, Lib.hid (Below.refl _ _)⟩
  case round =>
    obtain ⟨j, hj, rfl, rfl, HB⟩ := hrel
    by_cases hlt : j < n
    · obtain ⟨b1, o1, r, rfl, _, hr, p⟩ := (HS.out.below HB.out).at j hlt
      obtain ⟨b2, o2, r2, rfl, _, hr2, q⟩ := (HT.out.below HB.out).at j hlt
      rw [hr] at hr2
      cases hr2
      obtain ⟨p0, p1, p2, p3⟩ := p
      obtain ⟨q0, q1, q2, q3⟩ := q
      have hq := fun w' => run_equalR w' 9998 r r
      rw [show sameR r r = true by unfold sameR; simp] at hq
      obtain ⟨x, o, y, z⟩ := r
      simp only at p0 p1 p2 p3 q0 q1 q2 q3 hq
      have j1 : (j : Int) < n := by omega
      have j0 : (0 : Int) ≤ j := by omega
      clear hr
      go_wp2_with fail
      go_quiet (fail)
      have HB2 := Lib.hid (bdrewN HB.out nq)
      go_wp2_with fail
      go_roundg (n - (j + 1))
      case measure => omega
      case rel => exact ⟨j + 1, by omega, rfl, by go_num, HB2⟩
    · obtain rfl : j = n := by omega
      go_wp2_with fail
      go_ret
      exact ⟨rfl, HB.out⟩
set_option maxRecDepth 100000 in
set_option maxHeartbeats 32000000 in
theorem refDecode_any (w : World) (a : Option Addr) (n cap : Nat) (bs : List UInt8) (hs : Sl encB w a n bs) (hn : n ≤ 65536) (hcap : n ≤ cap) : Calls Try.prog 13 #[.slice a n cap] w (DecodeRet (decodeR bs) w) := by
  have HS := Lib.hid hs
  have HLn := Lib.hid hs.1
  obtain ⟨R, hR⟩ : ∃ R, R = decodeR bs := ⟨_, rfl⟩
  rw [← hR]
  have HR := Lib.hid hR
  clear hs hR
  by_cases h4 : 4096 < n
  · have HQ := Lib.hid (show R = (9, []) by rw [HR.out]; exact decode_long (by rw [HLn.out]; exact h4))
    have e1 : decide ((4096 : Int) < n) = true := by simp; omega
    go_enter Try.func13, Try.ntmps13
    go_wp2_with fail
    go_ret2
    exact DecodeRet.err HQ.out (Below.refl _ _)
  have e1 : decide ((4096 : Int) < n) = false := by simp; omega
  have H4 := Lib.hid (show ¬ 4096 < bs.length by rw [HLn.out]; exact h4)
  go_enter Try.func13, Try.ntmps13
  go_wp2_with fail
  go_loopg [4, 5] n (fun gn v i wr => ∃ p fuel m : Nat, ∃ acc, p ≤ n ∧ gn = n - p ∧ i = .int .i64 p ∧ n < fuel + p ∧ m ≤ p ∧ Hid (wr.ownsRow w.heap.size 36 4 v m (acc.flatMap RW.cells)) ∧ Hid (∀ r ∈ acc, IntRo r.pos ∧ IntRo r.a ∧ r.op < 256) ∧
    Hid (Below w.heap.size w wr) ∧ Hid (decF bs (bs.length + 1) 0 [] = decF bs fuel p acc))
  case atStart => exact ⟨0, n + 1, 0, [], by omega, by omega, by go_num, by omega, by omega, Lib.hid (World.ownsRow_nil _ _ _ _), Lib.hid (fun r hr => by cases hr), Lib.hid (Below.refl _ _), Lib.hid (by rw [HLn.out])⟩
  case round =>
    obtain ⟨p, fuel, m, acc, hp, rfl, rfl, hf, hm, HO, HW, HB, HD⟩ := hrel
    by_cases hlt : p < n
    · obtain ⟨fuel, rfl⟩ : ∃ f, fuel = f + 1 := ⟨fuel - 1, by omega⟩
      obtain ⟨b, off, rfl, hbl, hc⟩ := (HS.out.below HB.out).2 (by omega)
      have hpl : p < bs.length := by rw [HLn.out]; exact hlt
      have q0 := hc p hpl
      have hop : bs[p].toNat = opAt bs p := by unfold opAt; simp [List.getD, hpl]
      unfold encB at q0
      rw [hop] at q0
      have hol := opAt_lt bs p
      have hf9 := formN_le (opAt bs p)
      have HLE := Lib.hid (fun w' => refLen_any w' (opAt bs p) hol)
      have HFM := Lib.hid (fun w' => refForm_any w' (opAt bs p) hol)
      have HNO := Lib.hid (decF_none bs fuel p acc hpl)
      have HSH := Lib.hid (decF_short bs fuel p acc hpl)
      have HBA := Lib.hid (decF_bad bs fuel p acc hpl)
      have HNX := Lib.hid (decF_next bs fuel p acc hpl)
      have HRW : Hid (rawAt bs p = ⟨p, opAt bs p, readA bs p (formN (opAt bs p)), readB bs p (formN (opAt bs p))⟩) := Lib.hid rfl
      have HWF := Lib.hid (rawAt_wf bs p (by omega))
      rw [HRW.out] at HWF HNX
      have p1 : (p : Int) < n := by omega
      have o1 : (opAt bs p : Int) < 256 := by omega
      rw [HLn.out] at HSH HBA HNX
      clear hc hop hpl
      generalize formN (opAt bs p) = f at *
      generalize opAt bs p = o at *
      have HNE := Lib.hid (own_not_new HO.out)
      go_upto_region 7 with fail
      have HAL := Lib.hid (HB.out.alloc HB.out.size (.cells #[.int .i64 p, .int .u8 (o : Nat), .int .i64 0, .int .i64 0] 36))
      have HKA := Lib.hid (show RBlk (wr.alloc (.cells #[.int .i64 p, .int .u8 (o : Nat), .int .i64 0, .int .i64 0] 36)) wr.heap.size p o 0 0 from heap_alloc_last wr _)
      have HWW := Lib.hid ((Below.refl wr.heap.size wr).alloc (Nat.le_refl _) (.cells #[.int .i64 p, .int .u8 (o : Nat), .int .i64 0, .int .i64 0] 36))
      clear q0
      generalize wr.alloc (.cells #[.int .i64 p, .int .u8 (o : Nat), .int .i64 0, .int .i64 0] 36) = W at *
      generalize hg0 : wr.heap.size = g at *
      have HG0 := Lib.hid hg0
      clear hg0
      obtain ⟨⟨c0, c1, c2, c3⟩, ⟨f2, f3⟩, hgW⟩ := HKA.out.box
      obtain ⟨s, hs⟩ : ∃ s, s = sizeN f := ⟨_, rfl⟩
      rw [← hs] at HLE HSH HBA HNX
      have HSZ := Lib.hid hs
      clear hs
      go_wp2_with fail
      refine (HLE.out _).mono ?_
      rintro e w' ⟨rfl, rfl⟩
      have hfc : f = 0 ∨ f = 1 ∨ f = 2 ∨ f = 3 ∨ f = 4 ∨ f = 5 ∨ f = 6 ∨ f = 7 ∨ f = 8 ∨ f = 9 := by omega
      clear hf9
      rcases hfc with rfl | rfl | rfl | rfl | rfl | rfl | rfl | rfl | rfl | rfl
      · have HQ := Lib.hid (show R = (8, []) by rw [HR.out]; exact decode_err H4.out (by rw [HD.out]; exact HNO.out rfl) (by decide))
        obtain rfl : s = 0 := HSZ.out
        clear HNO HSH HBA HNX
        go_wp2_with fail
        go_ret2
        exact DecodeRet.err HQ.out HAL.out
      · have HV : Hid ((getR bs ((p : Int) + 1) 1).1 = tellV bs p 1) := Lib.hid rfl
        have HU := Lib.hid (getR_bound bs ((p : Int) + 1) 1)
        have hsm := getR_small bs ((p : Int) + 1) 1 1 (by decide) (by decide)
        have HC := Lib.hid (fun w' (h : Below w.heap.size w w') => refGet_any w' (some ⟨b, off, none⟩) n cap bs ((p : Int) + 1) 1 (HS.out.below h) (by omega) hcap (by unfold IntR; omega) (by unfold IntR; omega))
        rw [HV.out] at HC HU hsm
        generalize (getR bs ((p : Int) + 1) 1).2 = e2 at *
        have HRA : Hid (readA bs p 1 = 0) := Lib.hid (by unfold readA; simp)
        have HRB : Hid (readB bs p 1 = 0) := Lib.hid (by unfold readB; simp)
        have HBD : Hid (readBad bs p 1 = false) := Lib.hid (by unfold readBad; simp)
        obtain ⟨ra, hra⟩ : ∃ x, x = readA bs p 1 := ⟨_, rfl⟩
        obtain ⟨rb, hrb⟩ : ∃ y, y = readB bs p 1 := ⟨_, rfl⟩
        rw [← hra] at HRA HNX HWF
        rw [← hrb] at HRB HNX
        obtain rfl : s = 1 := HSZ.out
        clear hra hrb HV HNO
        generalize tellV bs p 1 = v at *
        rw [show ((256 ^ 1 : Nat) : Int) = 256 from rfl] at hsm
        have hv0 := HU.out.1
        by_cases h1 : n - p < 1
        · have HQ := Lib.hid (show R = (6, []) by rw [HR.out]; exact decode_err H4.out (by rw [HD.out]; exact HSH.out (by decide) h1) (by decide))
          have e2' : decide ((n : Int) - p < 1) = true := by simp; omega
          clear HSH HBA HNX
          go_wp2_with fail
          go_ret2
          exact DecodeRet.err HQ.out HAL.out
        have e2' : decide ((n : Int) - p < 1) = false := by simp; omega
        have HSN := Lib.hid h1
        have hpn : p + 1 ≤ n := by omega
        clear h1
        go_wp2_with fail
        refine (HC.out _ HAL.out).mono ?_
        rintro e w' ⟨rfl, rfl⟩
        go_wp2_with fail
        refine (HFM.out _).mono ?_
        rintro e w' ⟨rfl, rfl⟩
        go_upto_region 27 with fail
        have HKX := Lib.hid (show RBlk W g p o ra rb by rw [HRA.out, HRB.out]; exact HKA.out)
        have HWX := HWW
        have HBX := Lib.hid (HB.out.trans (HWX.out.mono (by rw [← HG0.out]; exact HB.out.size)))
        have HOX := Lib.hid (own_below HO.out (by rw [HG0.out]; exact HWX.out))
        clear HKA HWW
        have HBF := Lib.hid HBD.out
        clear c0 c1 c2 c3
        obtain ⟨⟨c0, c1, c2, c3⟩, _, hgX0⟩ := HKX.out.box
        go_wp2_with fail
        refine (HFM.out _).mono ?_
        rintro e w' ⟨rfl, rfl⟩
        clear c0 c1 c2 c3 hgX0
        have HDN := Lib.hid (HD.out.trans (HNX.out (by decide) HSN.out HBF.out))
        obtain ⟨⟨c0, c1, c2, c3⟩, _, hgX⟩ := HKX.out.box
        go_wp2_with (at_builtin; first
          | (refine wpList_appS_lit stR rfl _ _ rfl w.heap.size _ _ _ rfl HOX.out _ 1 _ _ rfl rfl rfl rfl (by omega) (by unfold maxLen; omega) HBX.out.size ?_; intro v4 w4 hown4 hg4 hb4; have HO4 := Lib.hid hown4; have HB4 := Lib.hid (HBX.out.trans hb4); clear hown4 hg4 hb4))
        go_roundg (n - (p + 1))
        case measure => omega
        case rel => exact ⟨p + 1, fuel, m + 1, acc ++ [⟨p, o, ra, rb⟩], by omega, rfl, by go_num, by omega, by omega, Lib.hid (by rw [List.flatMap_append]; exact HO4.out), Lib.hid (fun r hr => by
          rcases List.mem_append.1 hr with h | h
          · exact HW.out r h
          · rw [List.mem_singleton.1 h]; exact HWF.out), HB4, HDN⟩
      · have HV : Hid ((getR bs ((p : Int) + 1) 1).1 = tellV bs p 2) := Lib.hid rfl
        have HU := Lib.hid (getR_bound bs ((p : Int) + 1) 1)
        have hsm := getR_small bs ((p : Int) + 1) 1 1 (by decide) (by decide)
        have HC := Lib.hid (fun w' (h : Below w.heap.size w w') => refGet_any w' (some ⟨b, off, none⟩) n cap bs ((p : Int) + 1) 1 (HS.out.below h) (by omega) hcap (by unfold IntR; omega) (by unfold IntR; omega))
        rw [HV.out] at HC HU hsm
        generalize (getR bs ((p : Int) + 1) 1).2 = e2 at *
        have HRA : Hid (readA bs p 2 = tellV bs p 2) := Lib.hid (by unfold readA; simp)
        have HRB : Hid (readB bs p 2 = 0) := Lib.hid (by unfold readB; simp)
        have HBD : Hid (readBad bs p 2 = false) := Lib.hid (by unfold readBad; simp)
        obtain ⟨ra, hra⟩ : ∃ x, x = readA bs p 2 := ⟨_, rfl⟩
        obtain ⟨rb, hrb⟩ : ∃ y, y = readB bs p 2 := ⟨_, rfl⟩
        rw [← hra] at HRA HNX HWF
        rw [← hrb] at HRB HNX
        obtain rfl : s = 2 := HSZ.out
        clear hra hrb HV HNO
        generalize tellV bs p 2 = v at *
        rw [show ((256 ^ 1 : Nat) : Int) = 256 from rfl] at hsm
        have hv0 := HU.out.1
        by_cases h1 : n - p < 2
        · have HQ := Lib.hid (show R = (6, []) by rw [HR.out]; exact decode_err H4.out (by rw [HD.out]; exact HSH.out (by decide) h1) (by decide))
          have e2' : decide ((n : Int) - p < 2) = true := by simp; omega
          clear HSH HBA HNX
          go_wp2_with fail
          go_ret2
          exact DecodeRet.err HQ.out HAL.out
        have e2' : decide ((n : Int) - p < 2) = false := by simp; omega
        have HSN := Lib.hid h1
        have hpn : p + 2 ≤ n := by omega
        clear h1
        go_wp2_with fail
        refine (HC.out _ HAL.out).mono ?_
        rintro e w' ⟨rfl, rfl⟩
        go_wp2_with fail
        refine (HFM.out _).mono ?_
        rintro e w' ⟨rfl, rfl⟩
        go_upto_region 27 with fail
        have HKX := Lib.hid (show RBlk (W.setCell ⟨g, 2, none⟩ (.int .i64 v)) g p o ra rb by rw [HRA.out, HRB.out]; exact HKA.out.set2)
        have HWX := Lib.hid (show Below g wr (W.setCell ⟨g, 2, none⟩ (.int .i64 v)) from HWW.out.setCell (p := ⟨g, 2, none⟩) (Nat.le_refl _) _)
        clear c0 c1 c2 c3 f2 f3
        generalize (W.setCell ⟨g, 2, none⟩ (.int .i64 v)) = X at *
        have HBX := Lib.hid (HB.out.trans (HWX.out.mono (by rw [← HG0.out]; exact HB.out.size)))
        have HOX := Lib.hid (own_below HO.out (by rw [HG0.out]; exact HWX.out))
        clear HKA HWW
        have HBF := Lib.hid HBD.out
        obtain ⟨⟨c0, c1, c2, c3⟩, _, hgX0⟩ := HKX.out.box
        go_wp2_with fail
        refine (HFM.out _).mono ?_
        rintro e w' ⟨rfl, rfl⟩
        clear c0 c1 c2 c3 hgX0
        have HDN := Lib.hid (HD.out.trans (HNX.out (by decide) HSN.out HBF.out))
        obtain ⟨⟨c0, c1, c2, c3⟩, _, hgX⟩ := HKX.out.box
        go_wp2_with (at_builtin; first
          | (refine wpList_appS_lit stR rfl _ _ rfl w.heap.size _ _ _ rfl HOX.out _ 1 _ _ rfl rfl rfl rfl (by omega) (by unfold maxLen; omega) HBX.out.size ?_; intro v4 w4 hown4 hg4 hb4; have HO4 := Lib.hid hown4; have HB4 := Lib.hid (HBX.out.trans hb4); clear hown4 hg4 hb4))
        go_roundg (n - (p + 2))
        case measure => omega
        case rel => exact ⟨p + 2, fuel, m + 1, acc ++ [⟨p, o, ra, rb⟩], by omega, rfl, by go_num, by omega, by omega, Lib.hid (by rw [List.flatMap_append]; exact HO4.out), Lib.hid (fun r hr => by
          rcases List.mem_append.1 hr with h | h
          · exact HW.out r h
          · rw [List.mem_singleton.1 h]; exact HWF.out), HB4, HDN⟩
      · have HV : Hid ((getR bs ((p : Int) + 1) 1).1 = tellV bs p 3) := Lib.hid rfl
        have HU := Lib.hid (getR_bound bs ((p : Int) + 1) 1)
        have hsm := getR_small bs ((p : Int) + 1) 1 1 (by decide) (by decide)
        have HC := Lib.hid (fun w' (h : Below w.heap.size w w') => refGet_any w' (some ⟨b, off, none⟩) n cap bs ((p : Int) + 1) 1 (HS.out.below h) (by omega) hcap (by unfold IntR; omega) (by unfold IntR; omega))
        rw [HV.out] at HC HU hsm
        generalize (getR bs ((p : Int) + 1) 1).2 = e2 at *
        have HRA : Hid (readA bs p 3 = signB (tellV bs p 3) 1) := Lib.hid (by unfold readA; simp)
        have HRB : Hid (readB bs p 3 = 0) := Lib.hid (by unfold readB; simp)
        have HBD : Hid (readBad bs p 3 = false) := Lib.hid (by unfold readBad; simp)
        obtain ⟨ra, hra⟩ : ∃ x, x = readA bs p 3 := ⟨_, rfl⟩
        obtain ⟨rb, hrb⟩ : ∃ y, y = readB bs p 3 := ⟨_, rfl⟩
        rw [← hra] at HRA HNX HWF
        rw [← hrb] at HRB HNX
        obtain rfl : s = 2 := HSZ.out
        clear hra hrb HV HNO
        generalize tellV bs p 3 = v at *
        rw [show ((256 ^ 1 : Nat) : Int) = 256 from rfl] at hsm
        have hv0 := HU.out.1
        by_cases h1 : n - p < 2
        · have HQ := Lib.hid (show R = (6, []) by rw [HR.out]; exact decode_err H4.out (by rw [HD.out]; exact HSH.out (by decide) h1) (by decide))
          have e2' : decide ((n : Int) - p < 2) = true := by simp; omega
          clear HSH HBA HNX
          go_wp2_with fail
          go_ret2
          exact DecodeRet.err HQ.out HAL.out
        have e2' : decide ((n : Int) - p < 2) = false := by simp; omega
        have HSN := Lib.hid h1
        have hpn : p + 2 ≤ n := by omega
        clear h1
        go_wp2_with fail
        refine (HC.out _ HAL.out).mono ?_
        rintro e w' ⟨rfl, rfl⟩
        go_wp2_with fail
        refine (HFM.out _).mono ?_
        rintro e w' ⟨rfl, rfl⟩
        have HSG := Lib.hid (fun w' => refSign_any w' v 1 HU.out (by unfold IntR; omega))
        have hs2 := signB_1 v
        go_wp2_with fail
        refine (HSG.out _).mono ?_
        rintro e w' ⟨rfl, rfl⟩
        go_upto_region 27 with fail
        have HKX := Lib.hid (show RBlk (W.setCell ⟨g, 2, none⟩ (.int .i64 (signB v 1))) g p o ra rb by rw [HRA.out, HRB.out]; exact HKA.out.set2)
        have HWX := Lib.hid (show Below g wr (W.setCell ⟨g, 2, none⟩ (.int .i64 (signB v 1))) from HWW.out.setCell (p := ⟨g, 2, none⟩) (Nat.le_refl _) _)
        clear c0 c1 c2 c3 f2 f3
        generalize (W.setCell ⟨g, 2, none⟩ (.int .i64 (signB v 1))) = X at *
        have HBX := Lib.hid (HB.out.trans (HWX.out.mono (by rw [← HG0.out]; exact HB.out.size)))
        have HOX := Lib.hid (own_below HO.out (by rw [HG0.out]; exact HWX.out))
        clear HKA HWW
        have HBF := Lib.hid HBD.out
        obtain ⟨⟨c0, c1, c2, c3⟩, _, hgX0⟩ := HKX.out.box
        go_wp2_with fail
        refine (HFM.out _).mono ?_
        rintro e w' ⟨rfl, rfl⟩
        clear c0 c1 c2 c3 hgX0
        have HDN := Lib.hid (HD.out.trans (HNX.out (by decide) HSN.out HBF.out))
        obtain ⟨⟨c0, c1, c2, c3⟩, _, hgX⟩ := HKX.out.box
        go_wp2_with (at_builtin; first
          | (refine wpList_appS_lit stR rfl _ _ rfl w.heap.size _ _ _ rfl HOX.out _ 1 _ _ rfl rfl rfl rfl (by omega) (by unfold maxLen; omega) HBX.out.size ?_; intro v4 w4 hown4 hg4 hb4; have HO4 := Lib.hid hown4; have HB4 := Lib.hid (HBX.out.trans hb4); clear hown4 hg4 hb4))
        go_roundg (n - (p + 2))
        case measure => omega
        case rel => exact ⟨p + 2, fuel, m + 1, acc ++ [⟨p, o, ra, rb⟩], by omega, rfl, by go_num, by omega, by omega, Lib.hid (by rw [List.flatMap_append]; exact HO4.out), Lib.hid (fun r hr => by
          rcases List.mem_append.1 hr with h | h
          · exact HW.out r h
          · rw [List.mem_singleton.1 h]; exact HWF.out), HB4, HDN⟩
      · have HV : Hid ((getR bs ((p : Int) + 1) 2).1 = tellV bs p 4) := Lib.hid rfl
        have HU := Lib.hid (getR_bound bs ((p : Int) + 1) 2)
        have hsm := getR_small bs ((p : Int) + 1) 2 2 (by decide) (by decide)
        have HC := Lib.hid (fun w' (h : Below w.heap.size w w') => refGet_any w' (some ⟨b, off, none⟩) n cap bs ((p : Int) + 1) 2 (HS.out.below h) (by omega) hcap (by unfold IntR; omega) (by unfold IntR; omega))
        rw [HV.out] at HC HU hsm
        generalize (getR bs ((p : Int) + 1) 2).2 = e2 at *
        have HRA : Hid (readA bs p 4 = signB (tellV bs p 4) 2) := Lib.hid (by unfold readA; simp)
        have HRB : Hid (readB bs p 4 = 0) := Lib.hid (by unfold readB; simp)
        have HBD : Hid (readBad bs p 4 = false) := Lib.hid (by unfold readBad; simp)
        obtain ⟨ra, hra⟩ : ∃ x, x = readA bs p 4 := ⟨_, rfl⟩
        obtain ⟨rb, hrb⟩ : ∃ y, y = readB bs p 4 := ⟨_, rfl⟩
        rw [← hra] at HRA HNX HWF
        rw [← hrb] at HRB HNX
        obtain rfl : s = 3 := HSZ.out
        clear hra hrb HV HNO
        generalize tellV bs p 4 = v at *
        rw [show ((256 ^ 2 : Nat) : Int) = 65536 from rfl] at hsm
        have hv0 := HU.out.1
        by_cases h1 : n - p < 3
        · have HQ := Lib.hid (show R = (6, []) by rw [HR.out]; exact decode_err H4.out (by rw [HD.out]; exact HSH.out (by decide) h1) (by decide))
          have e2' : decide ((n : Int) - p < 3) = true := by simp; omega
          clear HSH HBA HNX
          go_wp2_with fail
          go_ret2
          exact DecodeRet.err HQ.out HAL.out
        have e2' : decide ((n : Int) - p < 3) = false := by simp; omega
        have HSN := Lib.hid h1
        have hpn : p + 3 ≤ n := by omega
        clear h1
        go_wp2_with fail
        refine (HC.out _ HAL.out).mono ?_
        rintro e w' ⟨rfl, rfl⟩
        go_wp2_with fail
        refine (HFM.out _).mono ?_
        rintro e w' ⟨rfl, rfl⟩
        have HSG := Lib.hid (fun w' => refSign_any w' v 2 HU.out (by unfold IntR; omega))
        have hs2 := signB_2 v
        go_wp2_with fail
        refine (HSG.out _).mono ?_
        rintro e w' ⟨rfl, rfl⟩
        go_upto_region 27 with fail
        have HKX := Lib.hid (show RBlk (W.setCell ⟨g, 2, none⟩ (.int .i64 (signB v 2))) g p o ra rb by rw [HRA.out, HRB.out]; exact HKA.out.set2)
        have HWX := Lib.hid (show Below g wr (W.setCell ⟨g, 2, none⟩ (.int .i64 (signB v 2))) from HWW.out.setCell (p := ⟨g, 2, none⟩) (Nat.le_refl _) _)
        clear c0 c1 c2 c3 f2 f3
        generalize (W.setCell ⟨g, 2, none⟩ (.int .i64 (signB v 2))) = X at *
        have HBX := Lib.hid (HB.out.trans (HWX.out.mono (by rw [← HG0.out]; exact HB.out.size)))
        have HOX := Lib.hid (own_below HO.out (by rw [HG0.out]; exact HWX.out))
        clear HKA HWW
        have HBF := Lib.hid HBD.out
        obtain ⟨⟨c0, c1, c2, c3⟩, _, hgX0⟩ := HKX.out.box
        go_wp2_with fail
        refine (HFM.out _).mono ?_
        rintro e w' ⟨rfl, rfl⟩
        clear c0 c1 c2 c3 hgX0
        have HDN := Lib.hid (HD.out.trans (HNX.out (by decide) HSN.out HBF.out))
        obtain ⟨⟨c0, c1, c2, c3⟩, _, hgX⟩ := HKX.out.box
        go_wp2_with (at_builtin; first
          | (refine wpList_appS_lit stR rfl _ _ rfl w.heap.size _ _ _ rfl HOX.out _ 1 _ _ rfl rfl rfl rfl (by omega) (by unfold maxLen; omega) HBX.out.size ?_; intro v4 w4 hown4 hg4 hb4; have HO4 := Lib.hid hown4; have HB4 := Lib.hid (HBX.out.trans hb4); clear hown4 hg4 hb4))
        go_roundg (n - (p + 3))
        case measure => omega
        case rel => exact ⟨p + 3, fuel, m + 1, acc ++ [⟨p, o, ra, rb⟩], by omega, rfl, by go_num, by omega, by omega, Lib.hid (by rw [List.flatMap_append]; exact HO4.out), Lib.hid (fun r hr => by
          rcases List.mem_append.1 hr with h | h
          · exact HW.out r h
          · rw [List.mem_singleton.1 h]; exact HWF.out), HB4, HDN⟩
      · have HV : Hid ((getR bs ((p : Int) + 1) 1).1 = tellV bs p 5) := Lib.hid rfl
        have HU := Lib.hid (getR_bound bs ((p : Int) + 1) 1)
        have hsm := getR_small bs ((p : Int) + 1) 1 1 (by decide) (by decide)
        have HC := Lib.hid (fun w' (h : Below w.heap.size w w') => refGet_any w' (some ⟨b, off, none⟩) n cap bs ((p : Int) + 1) 1 (HS.out.below h) (by omega) hcap (by unfold IntR; omega) (by unfold IntR; omega))
        rw [HV.out] at HC HU hsm
        generalize (getR bs ((p : Int) + 1) 1).2 = e2 at *
        have HRA : Hid (readA bs p 5 = tellV bs p 5) := Lib.hid (by unfold readA; simp)
        have HRB : Hid (readB bs p 5 = 0) := Lib.hid (by unfold readB; simp)
        have HBD : Hid (readBad bs p 5 = false) := Lib.hid (by unfold readBad; simp)
        obtain ⟨ra, hra⟩ : ∃ x, x = readA bs p 5 := ⟨_, rfl⟩
        obtain ⟨rb, hrb⟩ : ∃ y, y = readB bs p 5 := ⟨_, rfl⟩
        rw [← hra] at HRA HNX HWF
        rw [← hrb] at HRB HNX
        obtain rfl : s = 2 := HSZ.out
        clear hra hrb HV HNO
        generalize tellV bs p 5 = v at *
        rw [show ((256 ^ 1 : Nat) : Int) = 256 from rfl] at hsm
        have hv0 := HU.out.1
        by_cases h1 : n - p < 2
        · have HQ := Lib.hid (show R = (6, []) by rw [HR.out]; exact decode_err H4.out (by rw [HD.out]; exact HSH.out (by decide) h1) (by decide))
          have e2' : decide ((n : Int) - p < 2) = true := by simp; omega
          clear HSH HBA HNX
          go_wp2_with fail
          go_ret2
          exact DecodeRet.err HQ.out HAL.out
        have e2' : decide ((n : Int) - p < 2) = false := by simp; omega
        have HSN := Lib.hid h1
        have hpn : p + 2 ≤ n := by omega
        clear h1
        go_wp2_with fail
        refine (HC.out _ HAL.out).mono ?_
        rintro e w' ⟨rfl, rfl⟩
        go_wp2_with fail
        refine (HFM.out _).mono ?_
        rintro e w' ⟨rfl, rfl⟩
        go_upto_region 27 with fail
        have HKX := Lib.hid (show RBlk (W.setCell ⟨g, 2, none⟩ (.int .i64 v)) g p o ra rb by rw [HRA.out, HRB.out]; exact HKA.out.set2)
        have HWX := Lib.hid (show Below g wr (W.setCell ⟨g, 2, none⟩ (.int .i64 v)) from HWW.out.setCell (p := ⟨g, 2, none⟩) (Nat.le_refl _) _)
        clear c0 c1 c2 c3 f2 f3
        generalize (W.setCell ⟨g, 2, none⟩ (.int .i64 v)) = X at *
        have HBX := Lib.hid (HB.out.trans (HWX.out.mono (by rw [← HG0.out]; exact HB.out.size)))
        have HOX := Lib.hid (own_below HO.out (by rw [HG0.out]; exact HWX.out))
        clear HKA HWW
        have HBF := Lib.hid HBD.out
        obtain ⟨⟨c0, c1, c2, c3⟩, _, hgX0⟩ := HKX.out.box
        go_wp2_with fail
        refine (HFM.out _).mono ?_
        rintro e w' ⟨rfl, rfl⟩
        clear c0 c1 c2 c3 hgX0
        have HDN := Lib.hid (HD.out.trans (HNX.out (by decide) HSN.out HBF.out))
        obtain ⟨⟨c0, c1, c2, c3⟩, _, hgX⟩ := HKX.out.box
        go_wp2_with (at_builtin; first
          | (refine wpList_appS_lit stR rfl _ _ rfl w.heap.size _ _ _ rfl HOX.out _ 1 _ _ rfl rfl rfl rfl (by omega) (by unfold maxLen; omega) HBX.out.size ?_; intro v4 w4 hown4 hg4 hb4; have HO4 := Lib.hid hown4; have HB4 := Lib.hid (HBX.out.trans hb4); clear hown4 hg4 hb4))
        go_roundg (n - (p + 2))
        case measure => omega
        case rel => exact ⟨p + 2, fuel, m + 1, acc ++ [⟨p, o, ra, rb⟩], by omega, rfl, by go_num, by omega, by omega, Lib.hid (by rw [List.flatMap_append]; exact HO4.out), Lib.hid (fun r hr => by
          rcases List.mem_append.1 hr with h | h
          · exact HW.out r h
          · rw [List.mem_singleton.1 h]; exact HWF.out), HB4, HDN⟩
      · have HV : Hid ((getR bs ((p : Int) + 1) 2).1 = tellV bs p 6) := Lib.hid rfl
        have HU := Lib.hid (getR_bound bs ((p : Int) + 1) 2)
        have hsm := getR_small bs ((p : Int) + 1) 2 2 (by decide) (by decide)
        have HC := Lib.hid (fun w' (h : Below w.heap.size w w') => refGet_any w' (some ⟨b, off, none⟩) n cap bs ((p : Int) + 1) 2 (HS.out.below h) (by omega) hcap (by unfold IntR; omega) (by unfold IntR; omega))
        rw [HV.out] at HC HU hsm
        generalize (getR bs ((p : Int) + 1) 2).2 = e2 at *
        have HRA : Hid (readA bs p 6 = tellV bs p 6) := Lib.hid (by unfold readA; simp)
        have HRB : Hid (readB bs p 6 = 0) := Lib.hid (by unfold readB; simp)
        have HBD : Hid (readBad bs p 6 = false) := Lib.hid (by unfold readBad; simp)
        obtain ⟨ra, hra⟩ : ∃ x, x = readA bs p 6 := ⟨_, rfl⟩
        obtain ⟨rb, hrb⟩ : ∃ y, y = readB bs p 6 := ⟨_, rfl⟩
        rw [← hra] at HRA HNX HWF
        rw [← hrb] at HRB HNX
        obtain rfl : s = 3 := HSZ.out
        clear hra hrb HV HNO
        generalize tellV bs p 6 = v at *
        rw [show ((256 ^ 2 : Nat) : Int) = 65536 from rfl] at hsm
        have hv0 := HU.out.1
        by_cases h1 : n - p < 3
        · have HQ := Lib.hid (show R = (6, []) by rw [HR.out]; exact decode_err H4.out (by rw [HD.out]; exact HSH.out (by decide) h1) (by decide))
          have e2' : decide ((n : Int) - p < 3) = true := by simp; omega
          clear HSH HBA HNX
          go_wp2_with fail
          go_ret2
          exact DecodeRet.err HQ.out HAL.out
        have e2' : decide ((n : Int) - p < 3) = false := by simp; omega
        have HSN := Lib.hid h1
        have hpn : p + 3 ≤ n := by omega
        clear h1
        go_wp2_with fail
        refine (HC.out _ HAL.out).mono ?_
        rintro e w' ⟨rfl, rfl⟩
        go_wp2_with fail
        refine (HFM.out _).mono ?_
        rintro e w' ⟨rfl, rfl⟩
        go_upto_region 27 with fail
        have HKX := Lib.hid (show RBlk (W.setCell ⟨g, 2, none⟩ (.int .i64 v)) g p o ra rb by rw [HRA.out, HRB.out]; exact HKA.out.set2)
        have HWX := Lib.hid (show Below g wr (W.setCell ⟨g, 2, none⟩ (.int .i64 v)) from HWW.out.setCell (p := ⟨g, 2, none⟩) (Nat.le_refl _) _)
        clear c0 c1 c2 c3 f2 f3
        generalize (W.setCell ⟨g, 2, none⟩ (.int .i64 v)) = X at *
        have HBX := Lib.hid (HB.out.trans (HWX.out.mono (by rw [← HG0.out]; exact HB.out.size)))
        have HOX := Lib.hid (own_below HO.out (by rw [HG0.out]; exact HWX.out))
        clear HKA HWW
        have HBF := Lib.hid HBD.out
        obtain ⟨⟨c0, c1, c2, c3⟩, _, hgX0⟩ := HKX.out.box
        go_wp2_with fail
        refine (HFM.out _).mono ?_
        rintro e w' ⟨rfl, rfl⟩
        clear c0 c1 c2 c3 hgX0
        have HDN := Lib.hid (HD.out.trans (HNX.out (by decide) HSN.out HBF.out))
        obtain ⟨⟨c0, c1, c2, c3⟩, _, hgX⟩ := HKX.out.box
        go_wp2_with (at_builtin; first
          | (refine wpList_appS_lit stR rfl _ _ rfl w.heap.size _ _ _ rfl HOX.out _ 1 _ _ rfl rfl rfl rfl (by omega) (by unfold maxLen; omega) HBX.out.size ?_; intro v4 w4 hown4 hg4 hb4; have HO4 := Lib.hid hown4; have HB4 := Lib.hid (HBX.out.trans hb4); clear hown4 hg4 hb4))
        go_roundg (n - (p + 3))
        case measure => omega
        case rel => exact ⟨p + 3, fuel, m + 1, acc ++ [⟨p, o, ra, rb⟩], by omega, rfl, by go_num, by omega, by omega, Lib.hid (by rw [List.flatMap_append]; exact HO4.out), Lib.hid (fun r hr => by
          rcases List.mem_append.1 hr with h | h
          · exact HW.out r h
          · rw [List.mem_singleton.1 h]; exact HWF.out), HB4, HDN⟩
      · have HV : Hid ((getR bs ((p : Int) + 1) 2).1 = tellV bs p 7) := Lib.hid rfl
        have HU := Lib.hid (getR_bound bs ((p : Int) + 1) 2)
        have hsm := getR_small bs ((p : Int) + 1) 2 2 (by decide) (by decide)
        have HC := Lib.hid (fun w' (h : Below w.heap.size w w') => refGet_any w' (some ⟨b, off, none⟩) n cap bs ((p : Int) + 1) 2 (HS.out.below h) (by omega) hcap (by unfold IntR; omega) (by unfold IntR; omega))
        rw [HV.out] at HC HU hsm
        generalize (getR bs ((p : Int) + 1) 2).2 = e2 at *
        have HRA : Hid (readA bs p 7 = (p : Int) + signB (tellV bs p 7) 2) := Lib.hid (by unfold readA; simp)
        have HRB : Hid (readB bs p 7 = 0) := Lib.hid (by unfold readB; simp)
        have HBD : Hid (readBad bs p 7 = false) := Lib.hid (by unfold readBad; simp)
        obtain ⟨ra, hra⟩ : ∃ x, x = readA bs p 7 := ⟨_, rfl⟩
        obtain ⟨rb, hrb⟩ : ∃ y, y = readB bs p 7 := ⟨_, rfl⟩
        rw [← hra] at HRA HNX HWF
        rw [← hrb] at HRB HNX
        obtain rfl : s = 3 := HSZ.out
        clear hra hrb HV HNO
        generalize tellV bs p 7 = v at *
        rw [show ((256 ^ 2 : Nat) : Int) = 65536 from rfl] at hsm
        have hv0 := HU.out.1
        by_cases h1 : n - p < 3
        · have HQ := Lib.hid (show R = (6, []) by rw [HR.out]; exact decode_err H4.out (by rw [HD.out]; exact HSH.out (by decide) h1) (by decide))
          have e2' : decide ((n : Int) - p < 3) = true := by simp; omega
          clear HSH HBA HNX
          go_wp2_with fail
          go_ret2
          exact DecodeRet.err HQ.out HAL.out
        have e2' : decide ((n : Int) - p < 3) = false := by simp; omega
        have HSN := Lib.hid h1
        have hpn : p + 3 ≤ n := by omega
        clear h1
        go_wp2_with fail
        refine (HC.out _ HAL.out).mono ?_
        rintro e w' ⟨rfl, rfl⟩
        go_wp2_with fail
        refine (HFM.out _).mono ?_
        rintro e w' ⟨rfl, rfl⟩
        have HSG := Lib.hid (fun w' => refSign_any w' v 2 HU.out (by unfold IntR; omega))
        have hs2 := signB_2 v
        go_wp2_with fail
        refine (HSG.out _).mono ?_
        rintro e w' ⟨rfl, rfl⟩
        go_upto_region 27 with fail
        have HKX := Lib.hid (show RBlk (W.setCell ⟨g, 2, none⟩ (.int .i64 ((p : Int) + signB v 2))) g p o ra rb by rw [HRA.out, HRB.out]; exact HKA.out.set2)
        have HWX := Lib.hid (show Below g wr (W.setCell ⟨g, 2, none⟩ (.int .i64 ((p : Int) + signB v 2))) from HWW.out.setCell (p := ⟨g, 2, none⟩) (Nat.le_refl _) _)
        clear c0 c1 c2 c3 f2 f3
        generalize (W.setCell ⟨g, 2, none⟩ (.int .i64 ((p : Int) + signB v 2))) = X at *
        have HBX := Lib.hid (HB.out.trans (HWX.out.mono (by rw [← HG0.out]; exact HB.out.size)))
        have HOX := Lib.hid (own_below HO.out (by rw [HG0.out]; exact HWX.out))
        clear HKA HWW
        have HBF := Lib.hid HBD.out
        obtain ⟨⟨c0, c1, c2, c3⟩, _, hgX0⟩ := HKX.out.box
        go_wp2_with fail
        refine (HFM.out _).mono ?_
        rintro e w' ⟨rfl, rfl⟩
        clear c0 c1 c2 c3 hgX0
        have HDN := Lib.hid (HD.out.trans (HNX.out (by decide) HSN.out HBF.out))
        obtain ⟨⟨c0, c1, c2, c3⟩, _, hgX⟩ := HKX.out.box
        go_wp2_with (at_builtin; first
          | (refine wpList_appS_lit stR rfl _ _ rfl w.heap.size _ _ _ rfl HOX.out _ 1 _ _ rfl rfl rfl rfl (by omega) (by unfold maxLen; omega) HBX.out.size ?_; intro v4 w4 hown4 hg4 hb4; have HO4 := Lib.hid hown4; have HB4 := Lib.hid (HBX.out.trans hb4); clear hown4 hg4 hb4))
        go_roundg (n - (p + 3))
        case measure => omega
        case rel => exact ⟨p + 3, fuel, m + 1, acc ++ [⟨p, o, ra, rb⟩], by omega, rfl, by go_num, by omega, by omega, Lib.hid (by rw [List.flatMap_append]; exact HO4.out), Lib.hid (fun r hr => by
          rcases List.mem_append.1 hr with h | h
          · exact HW.out r h
          · rw [List.mem_singleton.1 h]; exact HWF.out), HB4, HDN⟩
      · have HV : Hid ((getR bs ((p : Int) + 1) 2).1 = tellV bs p 8) := Lib.hid rfl
        have HU := Lib.hid (getR_bound bs ((p : Int) + 1) 2)
        have hsm := getR_small bs ((p : Int) + 1) 2 2 (by decide) (by decide)
        have HC := Lib.hid (fun w' (h : Below w.heap.size w w') => refGet_any w' (some ⟨b, off, none⟩) n cap bs ((p : Int) + 1) 2 (HS.out.below h) (by omega) hcap (by unfold IntR; omega) (by unfold IntR; omega))
        rw [HV.out] at HC HU hsm
        generalize (getR bs ((p : Int) + 1) 2).2 = e2 at *
        have HRA : Hid (readA bs p 8 = tellV bs p 8 / 256) := Lib.hid (by unfold readA; simp)
        have HRB : Hid (readB bs p 8 = signB (tellV bs p 8) 1) := Lib.hid (by unfold readB; simp)
        have HBD : Hid (readBad bs p 8 = false) := Lib.hid (by unfold readBad; simp)
        obtain ⟨ra, hra⟩ : ∃ x, x = readA bs p 8 := ⟨_, rfl⟩
        obtain ⟨rb, hrb⟩ : ∃ y, y = readB bs p 8 := ⟨_, rfl⟩
        rw [← hra] at HRA HNX HWF
        rw [← hrb] at HRB HNX
        obtain rfl : s = 3 := HSZ.out
        clear hra hrb HV HNO
        generalize tellV bs p 8 = v at *
        rw [show ((256 ^ 2 : Nat) : Int) = 65536 from rfl] at hsm
        have hv0 := HU.out.1
        by_cases h1 : n - p < 3
        · have HQ := Lib.hid (show R = (6, []) by rw [HR.out]; exact decode_err H4.out (by rw [HD.out]; exact HSH.out (by decide) h1) (by decide))
          have e2' : decide ((n : Int) - p < 3) = true := by simp; omega
          clear HSH HBA HNX
          go_wp2_with fail
          go_ret2
          exact DecodeRet.err HQ.out HAL.out
        have e2' : decide ((n : Int) - p < 3) = false := by simp; omega
        have HSN := Lib.hid h1
        have hpn : p + 3 ≤ n := by omega
        clear h1
        go_wp2_with fail
        refine (HC.out _ HAL.out).mono ?_
        rintro e w' ⟨rfl, rfl⟩
        go_wp2_with fail
        refine (HFM.out _).mono ?_
        rintro e w' ⟨rfl, rfl⟩
        have HSG := Lib.hid (fun w' => refSign_any w' v 1 HU.out (by unfold IntR; omega))
        have hs2 := signB_1 v
        go_wp2_with fail
        refine (HSG.out _).mono ?_
        rintro e w' ⟨rfl, rfl⟩
        go_upto_region 27 with fail
        have HKX := Lib.hid (show RBlk ((W.setCell ⟨g, 2, none⟩ (.int .i64 (v / 256))).setCell ⟨g, 3, none⟩ (.int .i64 (signB v 1))) g p o ra rb by rw [HRA.out, HRB.out]; exact HKA.out.set2.set3)
        have HWX := Lib.hid (show Below g wr ((W.setCell ⟨g, 2, none⟩ (.int .i64 (v / 256))).setCell ⟨g, 3, none⟩ (.int .i64 (signB v 1))) from (HWW.out.setCell (p := ⟨g, 2, none⟩) (Nat.le_refl _) _).setCell (p := ⟨g, 3, none⟩) (Nat.le_refl _) _)
        clear c0 c1 c2 c3 f2 f3
        generalize ((W.setCell ⟨g, 2, none⟩ (.int .i64 (v / 256))).setCell ⟨g, 3, none⟩ (.int .i64 (signB v 1))) = X at *
        have HBX := Lib.hid (HB.out.trans (HWX.out.mono (by rw [← HG0.out]; exact HB.out.size)))
        have HOX := Lib.hid (own_below HO.out (by rw [HG0.out]; exact HWX.out))
        clear HKA HWW
        have HBF := Lib.hid HBD.out
        obtain ⟨⟨c0, c1, c2, c3⟩, _, hgX0⟩ := HKX.out.box
        go_wp2_with fail
        refine (HFM.out _).mono ?_
        rintro e w' ⟨rfl, rfl⟩
        clear c0 c1 c2 c3 hgX0
        have HDN := Lib.hid (HD.out.trans (HNX.out (by decide) HSN.out HBF.out))
        obtain ⟨⟨c0, c1, c2, c3⟩, _, hgX⟩ := HKX.out.box
        go_wp2_with (at_builtin; first
          | (refine wpList_appS_lit stR rfl _ _ rfl w.heap.size _ _ _ rfl HOX.out _ 1 _ _ rfl rfl rfl rfl (by omega) (by unfold maxLen; omega) HBX.out.size ?_; intro v4 w4 hown4 hg4 hb4; have HO4 := Lib.hid hown4; have HB4 := Lib.hid (HBX.out.trans hb4); clear hown4 hg4 hb4))
        go_roundg (n - (p + 3))
        case measure => omega
        case rel => exact ⟨p + 3, fuel, m + 1, acc ++ [⟨p, o, ra, rb⟩], by omega, rfl, by go_num, by omega, by omega, Lib.hid (by rw [List.flatMap_append]; exact HO4.out), Lib.hid (fun r hr => by
          rcases List.mem_append.1 hr with h | h
          · exact HW.out r h
          · rw [List.mem_singleton.1 h]; exact HWF.out), HB4, HDN⟩
      · have HV : Hid ((getR bs ((p : Int) + 1) 1).1 = tellV bs p 9) := Lib.hid rfl
        have HU := Lib.hid (getR_bound bs ((p : Int) + 1) 1)
        have hsm := getR_small bs ((p : Int) + 1) 1 1 (by decide) (by decide)
        have HC := Lib.hid (fun w' (h : Below w.heap.size w w') => refGet_any w' (some ⟨b, off, none⟩) n cap bs ((p : Int) + 1) 1 (HS.out.below h) (by omega) hcap (by unfold IntR; omega) (by unfold IntR; omega))
        rw [HV.out] at HC HU hsm
        generalize (getR bs ((p : Int) + 1) 1).2 = e2 at *
        have HRA : Hid (readA bs p 9 = tellV bs p 9) := Lib.hid (by unfold readA; simp)
        have HRB : Hid (readB bs p 9 = 0) := Lib.hid (by unfold readB; simp)
        have HBD : Hid (readBad bs p 9 = (!(readA bs p 9 == 8) && !(readA bs p 9 == 10))) := Lib.hid (by unfold readBad; simp)
        obtain ⟨ra, hra⟩ : ∃ x, x = readA bs p 9 := ⟨_, rfl⟩
        obtain ⟨rb, hrb⟩ : ∃ y, y = readB bs p 9 := ⟨_, rfl⟩
        rw [← hra] at HRA HNX HWF HBD
        rw [← hrb] at HRB HNX
        obtain rfl : s = 2 := HSZ.out
        clear hra hrb HV HNO
        generalize tellV bs p 9 = v at *
        rw [show ((256 ^ 1 : Nat) : Int) = 256 from rfl] at hsm
        have hv0 := HU.out.1
        by_cases h1 : n - p < 2
        · have HQ := Lib.hid (show R = (6, []) by rw [HR.out]; exact decode_err H4.out (by rw [HD.out]; exact HSH.out (by decide) h1) (by decide))
          have e2' : decide ((n : Int) - p < 2) = true := by simp; omega
          clear HSH HBA HNX
          go_wp2_with fail
          go_ret2
          exact DecodeRet.err HQ.out HAL.out
        have e2' : decide ((n : Int) - p < 2) = false := by simp; omega
        have HSN := Lib.hid h1
        have hpn : p + 2 ≤ n := by omega
        clear h1
        go_wp2_with fail
        refine (HC.out _ HAL.out).mono ?_
        rintro e w' ⟨rfl, rfl⟩
        go_wp2_with fail
        refine (HFM.out _).mono ?_
        rintro e w' ⟨rfl, rfl⟩
        go_upto_region 27 with fail
        have HKX := Lib.hid (show RBlk (W.setCell ⟨g, 2, none⟩ (.int .i64 v)) g p o ra rb by rw [HRA.out, HRB.out]; exact HKA.out.set2)
        have HWX := Lib.hid (show Below g wr (W.setCell ⟨g, 2, none⟩ (.int .i64 v)) from HWW.out.setCell (p := ⟨g, 2, none⟩) (Nat.le_refl _) _)
        clear c0 c1 c2 c3 f2 f3
        generalize (W.setCell ⟨g, 2, none⟩ (.int .i64 v)) = X at *
        have HBX := Lib.hid (HB.out.trans (HWX.out.mono (by rw [← HG0.out]; exact HB.out.size)))
        have HOX := Lib.hid (own_below HO.out (by rw [HG0.out]; exact HWX.out))
        clear HKA HWW
        obtain ⟨⟨c0, c1, c2, c3⟩, _, hgX0⟩ := HKX.out.box
        go_wp2_with fail
        refine (HFM.out _).mono ?_
        rintro e w' ⟨rfl, rfl⟩
        by_cases h8 : ra = 8
        · have e8 : (ra != 8) = false := by simp [h8]
          have HBF := Lib.hid (show readBad bs p 9 = false by rw [HBD.out]; simp [h8])
          clear h8 HBD c0 c1 c2 c3 hgX0
          have HDN := Lib.hid (HD.out.trans (HNX.out (by decide) HSN.out HBF.out))
          obtain ⟨⟨c0, c1, c2, c3⟩, _, hgX⟩ := HKX.out.box
          go_wp2_with (at_builtin; first
            | (refine wpList_appS_lit stR rfl _ _ rfl w.heap.size _ _ _ rfl HOX.out _ 1 _ _ rfl rfl rfl rfl (by omega) (by unfold maxLen; omega) HBX.out.size ?_; intro v4 w4 hown4 hg4 hb4; have HO4 := Lib.hid hown4; have HB4 := Lib.hid (HBX.out.trans hb4); clear hown4 hg4 hb4))
          go_roundg (n - (p + 2))
          case measure => omega
          case rel => exact ⟨p + 2, fuel, m + 1, acc ++ [⟨p, o, ra, rb⟩], by omega, rfl, by go_num, by omega, by omega, Lib.hid (by rw [List.flatMap_append]; exact HO4.out), Lib.hid (fun r hr => by
            rcases List.mem_append.1 hr with h | h
            · exact HW.out r h
            · rw [List.mem_singleton.1 h]; exact HWF.out), HB4, HDN⟩
        have e8 : (ra != 8) = true := by simp [h8]
        by_cases h10 : ra = 10
        · have e10 : (ra != 10) = false := by simp [h10]
          have HBF := Lib.hid (show readBad bs p 9 = false by rw [HBD.out]; simp [h10])
          clear h8 h10 HBD c0 c1 c2 c3 hgX0
          have HDN := Lib.hid (HD.out.trans (HNX.out (by decide) HSN.out HBF.out))
          obtain ⟨⟨c0, c1, c2, c3⟩, _, hgX⟩ := HKX.out.box
          go_wp2_with (at_builtin; first
            | (refine wpList_appS_lit stR rfl _ _ rfl w.heap.size _ _ _ rfl HOX.out _ 1 _ _ rfl rfl rfl rfl (by omega) (by unfold maxLen; omega) HBX.out.size ?_; intro v4 w4 hown4 hg4 hb4; have HO4 := Lib.hid hown4; have HB4 := Lib.hid (HBX.out.trans hb4); clear hown4 hg4 hb4))
          go_roundg (n - (p + 2))
          case measure => omega
          case rel => exact ⟨p + 2, fuel, m + 1, acc ++ [⟨p, o, ra, rb⟩], by omega, rfl, by go_num, by omega, by omega, Lib.hid (by rw [List.flatMap_append]; exact HO4.out), Lib.hid (fun r hr => by
            rcases List.mem_append.1 hr with h | h
            · exact HW.out r h
            · rw [List.mem_singleton.1 h]; exact HWF.out), HB4, HDN⟩
        have e10 : (ra != 10) = true := by simp [h10]
        have HQ := Lib.hid (show R = (8, []) by rw [HR.out]; exact decode_err H4.out (by rw [HD.out]; exact HBA.out (by decide) HSN.out (by rw [HBD.out]; simp [h8, h10])) (by decide))
        clear h8 h10 HBD
        go_wp2_with fail
        go_ret2
        exact DecodeRet.err HQ.out HBX.out
    · obtain rfl : p = n := by omega
      have HDE := Lib.hid (HD.out.trans (decF_end bs fuel p acc (by rw [HLn.out]; exact Nat.le_refl _)))
      obtain ⟨va, vc, rfl, hss, hcc⟩ := Ss.ofOwn RW.cells_length (by decide) HO.out
      have HG := Lib.hid (fun w' (hb : Below wr.heap.size wr w') => refgoes_any w' va m vc acc (Rs.below hss hb) (by omega) (fun r hr => (HW.out r hr).2.2))
      clear hss
      go_wp2_with fail
      refine (HG.out _ (Below.refl _ _)).mono ?_
      rintro e w3 ⟨rfl, hb3⟩
      have HB3 := Lib.hid (HB.out.trans (hb3.mono HB.out.size))
      have HO3 := Lib.hid (own_below HO.out hb3)
      clear hb3
      cases hg : goesB acc
      · have HQ := Lib.hid (show R = (2, []) by rw [HR.out]; exact decode_range H4.out HDE.out hg)
        clear hg
        go_wp2_with fail
        go_ret2
        exact DecodeRet.err HQ.out HB3.out
      · have HQ := Lib.hid (show R = (0, acc) by rw [HR.out]; exact decode_ok H4.out HDE.out hg)
        clear hg
        go_wp2_with fail
        go_ret2
        exact ⟨_, m, by rw [HQ.out]; rfl, by rw [HQ.out]; exact HO3.out, by rw [HQ.out]; exact HW.out, HB3.out⟩
end Go.Proofs.Ytfhajbfgdbcpeaa
