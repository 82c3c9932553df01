/- rec: the walk of RecReads. No condition. -/
import Derived.Test.YtkieconmbeblgaaRecRef
import Derived.Test.YtkieconmbeblgaaFlip
namespace Go.Proofs.Ytkieconmbeblgaa
open Go.ChangeShapes Go.WideShapes Go.ChangeAt Go.RowKit
/-- What a Parse returns: a record, or none. -/
def PA (kd tx ct : Int) (kb bb : List UInt8) (sz : Int) (last : Bool) (er : Int) (w : World) (e : Ending) (w' : World) : Prop :=
  ∃ a m c, e = .returned (.tuple #[recL kd tx kb a m c ct, .int .i64 sz, .bool last, .int .i64 er]) ∧ w'.ownsRow w.heap.size 5 1 (.slice a m c) m (bb.map encB) ∧ Below w.heap.size w w'
theorem PA.no {sz er : Int} {w w' : World} {e : Ending} (h : ParseNo sz er w e w') : PA 0 0 0 [] [] sz false er w e w' := by
  obtain ⟨rfl, hb⟩ := h
  exact ⟨none, 0, 0, rfl, World.ownsRow_nil _ _ _ _, hb⟩
theorem PA.ok {kd tx ct : Nat} {kb bb : List UInt8} {sz : Int} {last : Bool} {w w' : World} {e : Ending} (h : ParseOk kd tx ct kb bb sz last w e w') : PA kd tx ct kb bb sz last 0 w e w' := by
  obtain ⟨a, m, c, he, ho, hb⟩ := h
  exact ⟨a, m, c, he, ho, hb⟩
/-- Nothing but block g has turned. -/
def OnlyAt (g : Nat) (w w' : World) : Prop := w'.os = w.os ∧ w'.tape = w.tape ∧ w'.output = w.output ∧ w'.heap.size = w.heap.size ∧ ∀ k, k ≠ g → w'.heap[k]? = w.heap[k]?
theorem OnlyAt.refl (g : Nat) (w : World) : OnlyAt g w w := ⟨rfl, rfl, rfl, rfl, fun _ _ => rfl⟩
theorem OnlyAt.set {g : Nat} {w w' : World} (h : OnlyAt g w w') (o : Nat) (v : Value) : OnlyAt g w (w'.setCell ⟨g, o, none⟩ v) := by
  obtain ⟨h1, h2, h3, h4, h5⟩ := h
  refine ⟨h1, h2, h3, by simpa using h4, fun k hk => ?_⟩
  rw [← h5 k hk]
  unfold World.setCell
  have hk' : ¬ g = k := fun e => hk e.symm
  simp [Array.getElem?_modify, hk']
theorem OnlyAt.below {g B : Nat} {w0 w w' : World} (h : OnlyAt g w w') (hb : Below B w0 w) (hg : B ≤ g) : Below B w0 w' := by
  obtain ⟨h1, h2, h3, h4, h5⟩ := h
  exact ⟨h1.trans hb.os, h2.trans hb.tape, h3.trans hb.output, by rw [h4]; exact hb.size, fun k hk => by rw [h5 k (by omega)]; exact hb.block k hk⟩
theorem OnlyAt.sl {α : Type} {enc : α → Value} {g : Nat} {w w' : World} {x : Option Addr} {n : Nat} {xs : List α} (h : OnlyAt g w w') (hs : Sl enc w x n xs) (hx : NotIn x n g) : Sl enc w' x n xs := by
  refine ⟨hs.1, fun hn => ?_⟩
  obtain ⟨b, off, ha, hlt, hc⟩ := hs.2 hn
  have hne := hx hn b off ha
  refine ⟨b, off, ha, by rw [h.2.2.2.1]; exact hlt, fun i hi => ?_⟩
  rw [← hc i hi]
  unfold World.cell?
  rw [h.2.2.2.2 b hne]
theorem xor_two (x : UInt8) : bits .xor .u8 (x.toNat : Int) 1 = ((flip1 x).toNat : Int) := flip1_bits x
set_option maxRecDepth 100000 in
set_option maxHeartbeats 8000000 in
theorem walkR (a : Option Addr) (n cap : Nat) (bs : List UInt8) (w : World) (hs : Sl encB w a n bs) (hn : n ≤ maxLen) (hcap : n ≤ cap) (kd tx ct : Int) (kb bb : List UInt8) (sz : Int) (last : Bool) (er : Int) (hbb : n ≤ 5000 → bb.length ≤ 65536)
    (hP : n ≤ 5000 → ∀ w1 a1 c1, Sl encB w1 a1 n bs → n ≤ c1 → Calls Try.prog 7 #[.slice a1 n c1] w1 (PA kd tx ct kb bb sz last er w1))
    (hR : n ≤ 5000 → ∀ w1 a1 c1, Sl encB w1 a1 n bs → n ≤ c1 → Calls Try.prog 8 #[.slice a1 n c1] w1 (PA kd tx ct kb bb sz last er w1)) :
    Calls Try.prog 3 #[.slice a n cap] w fun e w' => e = .returned (.bool true) ∧ Below w.heap.size w w' := by
  unfold maxLen at hn
  have S := Lib.hid hs
  have HP := Lib.hid hP
  have HR := Lib.hid hR
  clear hs hP hR
  go_enter Try.func3, Try.ntmps3
  go_wp2_with fail
  refine (fixed05_any _).mono ?_
  rintro e w1 ⟨rfl, hb⟩
  have H := Lib.hid hb
  clear hb
  by_cases hn5 : 5000 < n
  · go_wp2_with fail
    go_ret
    exact ⟨rfl, H.out⟩
  have HO := Lib.hid (own_empty w1 w1.heap.size 5 (Nat.le_refl _))
  have HB := Lib.hid ((Below.refl w1.heap.size w1).alloc (Nat.le_refl _) (.cells #[] 5))
  go_wp2_with (at_builtin; (refine wpList_app1 oneB rfl _ _ _ rfl w1.heap.size _ _ _ rfl HO.out _ n _ rfl ((S.out.below (H.out.trans (HB.out.mono H.out.size))).src encB_cell Try.underlying22 _) (by omega) (by unfold maxLen; omega) HB.out.size ?_; intro v2 w2 hown2 hg2 hb2; rw [List.map_nil, List.nil_append, Nat.zero_add] at hown2; obtain ⟨a2, c2, hv2, hsl2, hc2⟩ := Sl.ofOwn hown2; subst hv2; have S2 := Lib.hid hsl2; have H2 := Lib.hid (H.out.trans ((HB.out.trans hb2).mono H.out.size)); clear HO HB hown2 hg2 hb2 hsl2))
  have hP2 := HP.out (by omega) w2 a2 c2 S2.out hc2
  refine hP2.mono ?_
  clear hP2 HP
  rintro e w3 ⟨a3, m3, c3, rfl, hown3, hb3⟩
  have HO3 := Lib.hid hown3
  have HB3 := Lib.hid hb3
  clear hown3 hb3
  go_wp2_with fail
  have hBX : Below w3.heap.size w3 (w3.alloc (.cells #[.int .i64 kd, .int .u32 tx, .string ⟨kb.toArray⟩, .slice a3 m3 c3, .int .i64 ct] 26)) := (Below.refl _ _).alloc (Nat.le_refl _) _
  have HB3X := Lib.hid (HB3.out.trans (hBX.mono HB3.out.size))
  have hR2 := HR.out (by omega) _ a cap (S.out.below (H2.out.trans (HB3X.out.mono H2.out.size))) hcap
  refine hR2.mono ?_
  clear hR2 HR
  rintro e w4 ⟨a5, m5, c5, rfl, hown5, hb5⟩
  have hXs : (w3.alloc (.cells #[.int .i64 kd, .int .u32 tx, .string ⟨kb.toArray⟩, .slice a3 m3 c3, .int .i64 ct] 26)).heap.size = w3.heap.size + 1 := by simp
  have hK4 : Blk5 w4 w3.heap.size (.int .i64 kd) (.int .u32 tx) (.string ⟨kb.toArray⟩) (.slice a3 m3 c3) (.int .i64 ct) 26 := Blk5.below (heap_alloc_last w3 _) hb5
  have hBY : Below w4.heap.size w4 (w4.alloc (.cells #[.int .i64 kd, .int .u32 tx, .string ⟨kb.toArray⟩, .slice a5 m5 c5, .int .i64 ct] 26)) := (Below.refl _ _).alloc (Nat.le_refl _) _
  have K4 := Lib.hid (hK4.below hBY)
  have K8 := Lib.hid (show Blk5 (w4.alloc (.cells #[.int .i64 kd, .int .u32 tx, .string ⟨kb.toArray⟩, .slice a5 m5 c5, .int .i64 ct] 26)) w4.heap.size (.int .i64 kd) (.int .u32 tx) (.string ⟨kb.toArray⟩) (.slice a5 m5 c5) (.int .i64 ct) 26 from heap_alloc_last w4 _)
  have hB34 : Below w3.heap.size w3 w4 := hBX.trans (hb5.mono (by rw [hXs]; omega))
  have HO3W := Lib.hid (own_below (own_below HO3.out hB34) hBY)
  have S5 := Lib.hid ((Sl.ofOwnS hown5).1.below hBY)
  have hB2W : Below w2.heap.size w2 (w4.alloc (.cells #[.int .i64 kd, .int .u32 tx, .string ⟨kb.toArray⟩, .slice a5 m5 c5, .int .i64 ct] 26)) := (HB3.out.trans (hB34.mono HB3.out.size)).trans (hBY.mono (Nat.le_trans HB3.out.size hB34.size))
  have hm3 : m3 = bb.length := by have := HO3.out.1; simpa using this.symm
  have hg : ∃ g, w2.heap.size ≤ g ∧ g ≠ w3.heap.size ∧ g ≠ w4.heap.size ∧ NotIn a5 m5 g ∧ (0 < m3 → a3 = some ⟨g, 0, none⟩) := by
    have h34 := hB34.size
    have h45 := hb5.size
    rw [hXs] at h45
    have h23 := HB3.out.size
    by_cases h0 : 0 < m3
    · obtain ⟨g, e1, e2, e3⟩ := own_addr HO3.out h0
      refine ⟨g, e2, by omega, by omega, fun hm b off hx => ?_, fun _ => e1⟩
      obtain ⟨g', f1, f2, f3⟩ := own_addr hown5 hm
      rw [f1] at hx; cases hx; rw [hXs] at f2; omega
    · refine ⟨w4.heap.size + 1, by omega, by omega, by omega, fun hm b off hx => ?_, fun h => absurd h h0⟩
      obtain ⟨g', f1, f2, f3⟩ := own_addr hown5 hm
      rw [f1] at hx; cases hx; omega
  obtain ⟨g, hg2, hg3, hg4, hg5, hga⟩ := hg
  have HB2W := Lib.hid hB2W
  have HGA := Lib.hid hga
  have HG5 := Lib.hid hg5
  have hm5 : m5 = bb.length := by have := hown5.1; simpa using this.symm
  have HM5 := Lib.hid hm5
  have HM3 := Lib.hid hm3
  have hm3b : m3 ≤ 65536 := by have := hbb (by omega); omega
  clear hown5 hb5 hXs hK4 hBX hBY hB34 hB2W hga hg5 hm5 hm3 HO3 HB3 HB3X
  go_upto_region 8 with fail
  generalize hW : w4.alloc (.cells #[.int .i64 kd, .int .u32 tx, .string ⟨kb.toArray⟩, .slice a5 m5 c5, .int .i64 ct] 26) = W at K4 K8 HO3W S5 HB2W ⊢
  clear hW
  obtain ⟨p0, p1, p2, p3, p4, q0, q1, q2, q3, q4, lt4⟩ := K4.out.box
  go_wp2_with fail
  go_loopg [40] m3 (fun gn i wr => ∃ k : Nat, k ≤ m3 ∧ gn = m3 - k ∧ i = .int .i64 k ∧ Hid (wr.ownsRow w2.heap.size 5 1 (.slice a3 m3 c3) m3 ((flipTo bb k).map encB)) ∧ Hid (OnlyAt g W wr))
  case atStart => exact ⟨0, by omega, by omega, by go_num, by rw [flipTo_0]; exact HO3W.out, OnlyAt.refl _ _⟩
  case round =>
    obtain ⟨k, hk, rfl, rfl, HO, HW⟩ := hrel
    have hK4' := K4.out.eq (HW.out.2.2.2.2 _ (Ne.symm hg3))
    obtain ⟨p0, p1, p2, p3, p4, q0, q1, q2, q3, q4, lt4⟩ := hK4'.box
    clear hK4'
    by_cases hlt : k < m3
    · obtain rfl := HGA.out (by omega)
      have hlx : bb.length = m3 := HM3.out.symm
      have hkb : k < bb.length := by rw [hlx]; exact hlt
      have hcell := own_cellB HO.out k (by rw [flipTo_length]; exact hkb)
      rw [flipTo_get bb k hkb] at hcell
      have hfr := HO.out.frozenAt k
      have HX := Lib.hid (flipTo_set bb k hkb)
      generalize bb[k] = x at hcell HX
      have hu := u8_lt x
      have hne : w3.heap.size ≠ g := Ne.symm hg3
      clear hlx hkb
      go_wp2_with fail
      go_roundg (m3 - (k + 1))
      case measure => omega
      case rel =>
        rw [flip1_bits]
        have hst := HO.out.stored k (encB (flip1 x))
        refine ⟨k + 1, by omega, rfl, by go_num, ?_, HW.out.set _ _⟩
        show World.ownsRow _ _ _ _ _ _ _
        rw [← HX.out, List.map_set]
        exact hst.1
    · obtain rfl : m3 = k := by omega
      have hend := HO.out
      rw [flipTo_all bb m3 (by have := HM3.out; omega)] at hend
      have HO6 := Lib.hid hend
      have HW2 := HW.out.below HB2W.out hg2
      have q1' := run_conv (S2.out.below HW2) c2
      have q2' := run_conv (S.out.below (H2.out.trans (HW2.mono H2.out.size))) cap
      have HF := Lib.hid (flip_flip bb)
      have hyl : (bb.map flip1).length = m3 := by rw [List.length_map]; have := HM3.out; omega
      have HYL := Lib.hid hyl
      clear HO hend HW2 hyl
      generalize hys : bb.map flip1 = ys at HO6 HF HYL
      clear hys
      have HDB : Hid (bb = bb) := rfl
      have K4' := K4.out.eq (HW.out.2.2.2.2 _ (Ne.symm hg3))
      clear p0 p1 p2 p3 p4 q0 q1 q2 q3 q4 lt4
      obtain ⟨p0, p1, p2, p3, p4, q0, q1, q2, q3, q4, lt4⟩ := K4'.box
      clear K4'
      go_wp2_with fail
      clear q1' q2' p0 p1 p2 p3 p4 q0 q1 q2 q3 q4 lt4
      go_loopg [59] m3 (fun gn i wr => ∃ k : Nat, k ≤ m3 ∧ gn = m3 - k ∧ i = .int .i64 k ∧ Hid (wr.ownsRow w2.heap.size 5 1 (.slice a3 m3 c3) m3 ((flipTo ys k).map encB)) ∧ Hid (OnlyAt g W wr))
      case atStart => exact ⟨0, by omega, by omega, by go_num, by rw [flipTo_0]; exact HO6.out, HW⟩
      case round =>
        clear HW HO6
        obtain ⟨k, hk, rfl, rfl, HO, HW⟩ := hrel
        have hK4' := K4.out.eq (HW.out.2.2.2.2 _ (Ne.symm hg3))
        obtain ⟨p0, p1, p2, p3, p4, q0, q1, q2, q3, q4, lt4⟩ := hK4'.box
        clear hK4'
        by_cases hlt : k < m3
        · obtain rfl := HGA.out (by omega)
          have hkb : k < ys.length := by rw [HYL.out]; exact hlt
          have hcell := own_cellB HO.out k (by rw [flipTo_length]; exact hkb)
          rw [flipTo_get ys k hkb] at hcell
          have hfr := HO.out.frozenAt k
          have HX := Lib.hid (flipTo_set ys k hkb)
          generalize ys[k] = x at hcell HX
          have hu := u8_lt x
          have hne : w3.heap.size ≠ g := Ne.symm hg3
          clear hkb
          go_wp2_with fail
          go_roundg (m3 - (k + 1))
          case measure => omega
          case rel =>
            rw [flip1_bits]
            have hst := HO.out.stored k (encB (flip1 x))
            refine ⟨k + 1, by omega, rfl, by go_num, ?_, HW.out.set _ _⟩
            show World.ownsRow _ _ _ _ _ _ _
            rw [← HX.out, List.map_set]
            exact hst.1
        · obtain rfl : m3 = k := by omega
          have hend := HO.out
          rw [flipTo_all ys m3 (by have := HYL.out; omega), HF.out] at hend
          have S3 := Lib.hid (Sl.ofOwnS hend).1
          have S5' := Lib.hid (HW.out.sl S5.out HG5.out)
          have K4' := Lib.hid (K4.out.eq (HW.out.2.2.2.2 _ (Ne.symm hg3)))
          have K8' := Lib.hid (K8.out.eq (HW.out.2.2.2.2 _ (Ne.symm hg4)))
          have HE := Lib.hid (H2.out.trans ((HW.out.below HB2W.out hg2).mono H2.out.size))
          clear hend HO HW p0 p1 p2 p3 p4 q0 q1 q2 q3 q4 lt4
          obtain ⟨p0, p1, p2, p3, p4, q0, q1, q2, q3, q4, lt4⟩ := K4'.out.box
          obtain ⟨r0, r1, r2, r3, r4, s0, s1, s2, s3, s4, lt8⟩ := K8'.out.box
          have hSm := Same5_yes wr kd tx kb a3 m3 c3 ct bb a5 m5 c5 S3.out S5'.out
          have HSM := Lib.hid hSm
          clear hSm
          go_wp2_with fail
          refine HSM.out.mono ?_
          rintro e w9 ⟨rfl, hb9⟩
          have H9 := Lib.hid (HE.out.trans (hb9.mono HE.out.size))
          clear hb9 HSM
          go_wp2_with fail
          go_ret
          exact ⟨rfl, H9.out⟩
theorem getN_two (bs : List UInt8) (i : Nat) (h : i + 1 < bs.length) : getN ((bs.drop i).take 2) = (bs.getD i 0).toNat * 256 + (bs.getD (i + 1) 0).toNat := by
  have e : (bs.drop i).take 2 = [bs[i], bs[i + 1]] := by
    rw [List.drop_eq_getElem_cons (by omega : i < bs.length), List.drop_eq_getElem_cons h]; rfl
  rw [e]
  simp [getN, List.getD, h, (by omega : i < bs.length)]
theorem walk_RecReads (a : Option Addr) (n cap : Nat) (z : List Int) (w : World) (h0 : IsRow .u8 w a n cap z) :
    Calls Try.prog 3 #[.slice a n cap] w fun e w' => e = .returned (.bool true) ∧ Below w.heap.size w w' := by
  obtain ⟨bs, hs, hn, hcap⟩ := Bs.ofRow' h0
  have hl := hs.1
  by_cases c0 : n = 0 ∨ bs.getD 0 0 = 255
  · exact walkR a n cap bs w hs hn hcap 0 0 0 [] [] 0 false 11 (fun _ => by simp) (fun h5 w1 a1 c1 h1 _ => (Parse_none w1 a1 n c1 bs h1 (by omega) c0).mono fun e w' h => PA.no h) (fun h5 w1 a1 c1 h1 _ => (refParse_none w1 a1 n c1 bs h1 (by omega) c0).mono fun e w' h => PA.no h)
  have p0 : 0 < n := by omega
  have p1 : bs.getD 0 0 ≠ 255 := fun h => c0 (.inr h)
  by_cases c1 : n < 11
  · exact walkR a n cap bs w hs hn hcap 0 0 0 [] [] 0 false 6 (fun _ => by simp) (fun h5 w1 a1 c2 h1 _ => (Parse_short w1 a1 n c2 bs h1 p0 p1 c1).mono fun e w' h => PA.no h) (fun h5 w1 a1 c2 h1 _ => (refParse_short w1 a1 n c2 bs h1 (by omega) p0 p1 c1).mono fun e w' h => PA.no h)
  have p2 : 11 ≤ n := by omega
  have g2 : getN ((bs.drop 9).take 2) = (bs.getD 9 0).toNat * 256 + (bs.getD 10 0).toNat := getN_two bs 9 (by omega)
  have u9 := u8_lt (bs.getD 9 0)
  have u10 := u8_lt (bs.getD 10 0)
  by_cases c2 : crcN (bs.take 9) = getN ((bs.drop 9).take 2)
  case neg =>
    refine walkR a n cap bs w hs hn hcap 0 0 0 [] [] 0 false 7 (fun _ => by simp) (fun h5 w1 a1 c3 h1 hc => ?_) (fun h5 w1 a1 c3 h1 hc => (refParse_sum w1 a1 n c3 bs h1 (by omega) hc p1 p2 c2).mono fun e w' h => PA.no h)
    by_cases h9 : crcN (bs.take 9) / 256 = (bs.getD 9 0).toNat
    · exact (Parse_sum2 w1 a1 n c3 bs h1 (by omega) hc p1 p2 h9 (by omega)).mono fun e w' h => PA.no h
    · exact (Parse_sum1 w1 a1 n c3 bs h1 (by omega) hc p1 p2 h9).mono fun e w' h => PA.no h
  have h9 : crcN (bs.take 9) / 256 = (bs.getD 9 0).toNat := by omega
  have h10 : crcN (bs.take 9) % 256 = (bs.getD 10 0).toNat := by omega
  have hR := fun (h5 : n ≤ 5000) w1 a1 c3 (h1 : Sl encB w1 a1 n bs) hc => refParse_rest w1 a1 n c3 bs h1 (by omega) hc p1 p2 c2
  cases c3 : recOk (getN ((bs.drop 0).take 1)) (getN ((bs.drop 1).take 4)) (getN ((bs.drop 5).take 1)) (getN ((bs.drop 6).take 2)) (getN ((bs.drop 8).take 1)) with
  | false =>
    exact walkR a n cap bs w hs hn hcap 0 0 0 [] [] 0 false 8 (fun _ => by simp) (fun h5 w1 a1 c4 h1 hc => (Parse_form w1 a1 n c4 bs h1 (by omega) hc p1 p2 h9 h10 c3).mono fun e w' h => PA.no h) (fun h5 w1 a1 c4 h1 hc => (hR h5 w1 a1 c4 h1 hc).mono fun e w' h => PA.no (h.1 c3))
  | true =>
    by_cases c4 : n < 16 + getN ((bs.drop 5).take 1) + getN ((bs.drop 6).take 2)
    · exact walkR a n cap bs w hs hn hcap 0 0 0 [] [] 0 false 6 (fun _ => by simp) (fun h5 w1 a1 c5 h1 hc => (Parse_short2 w1 a1 n c5 bs h1 (by omega) hc p1 p2 h9 h10 c3 (by omega)).mono fun e w' h => PA.no h) (fun h5 w1 a1 c5 h1 hc => (hR h5 w1 a1 c5 h1 hc).mono fun e w' h => PA.no (h.2.1 c3 c4))
    · by_cases c5 : sumN (bs.take (11 + getN ((bs.drop 5).take 1) + getN ((bs.drop 6).take 2))) = getN ((bs.drop (11 + getN ((bs.drop 5).take 1) + getN ((bs.drop 6).take 2))).take 4)
      · exact walkR a n cap bs w hs hn hcap _ _ _ _ _ _ _ 0 (fun h5 => by simp; omega) (fun h5 w1 a1 c6 h1 hc => (Parse_good w1 a1 n c6 bs h1 (by omega) hc p1 p2 h9 h10 c3 (by omega) c5).mono fun e w' h => PA.ok h) (fun h5 w1 a1 c6 h1 hc => (hR h5 w1 a1 c6 h1 hc).mono fun e w' h => PA.ok (h.2.2.2 c3 (by omega) c5))
      · exact walkR a n cap bs w hs hn hcap 0 0 0 [] [] _ false 0 (fun _ => by simp) (fun h5 w1 a1 c6 h1 hc => (Parse_bad w1 a1 n c6 bs h1 (by omega) hc p1 p2 h9 h10 c3 (by omega) c5).mono fun e w' h => PA.no h) (fun h5 w1 a1 c6 h1 hc => (hR h5 w1 a1 c6 h1 hc).mono fun e w' h => PA.no (h.2.2.1 c3 (by omega) c5))
end Go.Proofs.Ytkieconmbeblgaa
