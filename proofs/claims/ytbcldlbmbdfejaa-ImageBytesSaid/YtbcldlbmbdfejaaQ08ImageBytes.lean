/- image: the writer's next, text, two and rows (printed by gen/imgmany.py). No condition. -/
import Derived.Test.YtbcldlbmbdfejaaQ07ImageBytes
import Derived.Laws.EntriesVeiled
namespace Go.Proofs.Ytbcldlbmbdfejaa
open Go.ChangeShapes Go.WideShapes Go.ChangeAt Go.RowKit
def nextsB (l : List Int) : List UInt8 := l.flatMap fun v => putB (u64V (v + 1)) 2
def oddN (v : Int) : Bool := decide (v < -1) || decide (65534 < v)
def badN (l : List Int) : Bool := l.any oddN
theorem nextsB_len (l : List Int) : (nextsB l).length = l.length * 2 := by
  unfold nextsB
  induction l with
  | nil => simp
  | cons x l ih => rw [List.flatMap_cons, List.length_append, ih, putB_length, List.length_cons, Nat.add_mul]; omega
theorem nextsB_take (l : List Int) (j : Nat) (v : Int) (h : l[j]? = some v) : nextsB (l.take (j + 1)) = nextsB (l.take j) ++ putB (u64V (v + 1)) 2 := by
  obtain ⟨hj, he⟩ := List.getElem?_eq_some_iff.1 h
  unfold nextsB
  rw [List.take_succ_eq_append_getElem hj, List.flatMap_append, he]
  simp
theorem badN_take (l : List Int) (j : Nat) (v : Int) (h : l[j]? = some v) : badN (l.take (j + 1)) = (badN (l.take j) || oddN v) := by
  obtain ⟨hj, he⟩ := List.getElem?_eq_some_iff.1 h
  unfold badN
  rw [List.take_succ_eq_append_getElem hj, List.any_append, he]
  simp
theorem u64V_next (v : Int) : IntKind.u64.wrap ((u64V v : Int) + 1) = (u64V (v + 1) : Int) := by rw [IntKind.wrap_u64]; unfold u64V; omega
theorem flat_take {α : Type} (F : α → List UInt8) (l : List α) (j : Nat) (v : α) (h : l[j]? = some v) : (l.take (j + 1)).flatMap F = (l.take j).flatMap F ++ F v := by
  obtain ⟨hj, he⟩ := List.getElem?_eq_some_iff.1 h
  rw [List.take_succ_eq_append_getElem hj, List.flatMap_append, he]
  simp
theorem any_take {α : Type} (F : α → Bool) (l : List α) (j : Nat) (v : α) (h : l[j]? = some v) : (l.take (j + 1)).any F = ((l.take j).any F || F v) := by
  obtain ⟨hj, he⟩ := List.getElem?_eq_some_iff.1 h
  rw [List.take_succ_eq_append_getElem hj, List.any_append, he]
  simp
theorem flat_le {α : Type} (F : α → List UInt8) (l : List α) (j : Nat) : ((l.take j).flatMap F).length ≤ (l.flatMap F).length := by
  have h : l.flatMap F = (l.take j).flatMap F ++ (l.drop j).flatMap F := by rw [← List.flatMap_append, List.take_append_drop]
  rw [h, List.length_append]
  omega
theorem Sl.get1 {α : Type} {enc : α → Value} {w : World} {a : Option Addr} {n : Nat} {l : List α} (h : Sl enc w a n l) (j : Nat) (hj : j < n) : ∃ b off v, a = some ⟨b, off, none⟩ ∧ b < w.heap.size ∧ l[j]? = some v ∧ w.cell? ⟨b, off + j, none⟩ = some (enc v) := by
  obtain ⟨b, off, ha, hlt, hc⟩ := h.2 (by omega)
  have hl : j < l.length := by rw [h.1]; exact hj
  exact ⟨b, off, l[j], ha, hlt, List.getElem?_eq_getElem hl, hc j hl⟩
theorem Ss.get1 {α : Type} {z : Nat} {enc : α → List Value} {w : World} {a : Option Addr} {n : Nat} {l : List α} (h : Ss z enc w a n l) (j : Nat) (hj : j < n) : ∃ b off v, a = some ⟨b, off, none⟩ ∧ b < w.heap.size ∧ l[j]? = some v ∧ ∀ k, k < z → w.cell? ⟨b, off + j * z + k, none⟩ = (enc v)[k]? := by
  obtain ⟨b, off, ha, hlt, hc⟩ := h.2 (by omega)
  have hl : j < l.length := by rw [h.1]; exact hj
  exact ⟨b, off, l[j], ha, hlt, List.getElem?_eq_getElem hl, hc j hl⟩
theorem Ss.keep1 {α : Type} {z : Nat} {enc : α → List Value} {g : Nat} {w w' : World} {x : Option Addr} {n : Nat} {xs : List α} (hs : Ss z enc w x n xs) (h : Keep1 g w w') (h1 : Off1 x n g) : Ss z enc w' x n xs := by
  refine ⟨hs.1, fun hn => ?_⟩
  obtain ⟨b, off, ha, hlt, hc⟩ := hs.2 hn
  refine ⟨b, off, ha, Nat.lt_of_lt_of_le hlt h.size, fun i hi j hj => ?_⟩
  rw [← hc i hi j hj]
  unfold World.cell?
  rw [h.block b hlt (h1 hn b off ha)]
theorem Keep1.blk {g h : Nat} {w w' : World} (k : Keep1 g w w') {o : Obj} (hb : w.heap[h]? = some o) (hne : h ≠ g) : w'.heap[h]? = some o := by
  rw [k.block h (Array.getElem?_eq_some_iff.1 hb).1 hne]; exact hb
theorem len_room {n : Nat} (h : n ≤ 9223372036854775807) : IntR (n : Int) := by unfold IntR; omega
theorem puts1 (v : Int) (n : Nat) : putsB [v] n = putB (u64V v) n := by unfold putsB; simp
theorem bad1 (v : Int) (n : Nat) : badB [v] n = !roomB v n := by unfold badB; simp
/-- put of one number. -/
theorem wput_oneO (w : World) (g : Nat) (bs : List UInt8) (odd : Bool) (h : WrS w g bs odd) (nb : Nat) (hnb : nb = 1 ∨ nb = 2 ∨ nb = 4) (v : Int) (hv : IntR v) (hlen : bs.length + 4 ≤ 1048576) :
    Calls Try.prog 23 #[.pointer (some ⟨g, 0, none⟩), .int .i64 nb, .slice (some ⟨w.heap.size, 0, none⟩) 1 1] (w.alloc (.cells #[.int .i64 v] 3)) (PutsRetO True g (bs ++ putB (u64V v) nb) (odd || !roomB v nb) w) := by
  have hlt := h.lt
  have hal : Below w.heap.size w (w.alloc (.cells #[.int .i64 v] 3)) := (Below.refl _ _).alloc (Nat.le_refl _) _
  refine (wput_own _ g bs odd (h.below hal) nb hnb (some ⟨w.heap.size, 0, none⟩) 1 1 [v] (Sl.lit (heap_alloc_last w _) rfl rfl) (Off1.new (by omega)) (fun u hu => by rw [List.mem_singleton.1 hu]; exact hv) (by omega)).mono ?_
  rintro e w' ⟨rfl, ⟨a, n, cap, h1, h2, h3, h4, h5, h6⟩, hk⟩
  rw [puts1] at h2 h5 h6
  rw [bad1] at h1
  exact ⟨rfl, ⟨a, n, cap, h1, h2, h3, h4, fun _ => own_mono (h5 (by omega)) hal.size, h6⟩, (Keep1.of hal).trans hk⟩
theorem wput_one (w : World) (g : Nat) (bs : List UInt8) (odd : Bool) (h : WrS w g bs odd) (nb : Nat) (hnb : nb = 1 ∨ nb = 2 ∨ nb = 4) (v : Int) (hv : IntR v) (hlen : bs.length + 4 ≤ 1048576) :
    Calls Try.prog 23 #[.pointer (some ⟨g, 0, none⟩), .int .i64 nb, .slice (some ⟨w.heap.size, 0, none⟩) 1 1] (w.alloc (.cells #[.int .i64 v] 3)) (PutsRet g (bs ++ putB (u64V v) nb) (odd || !roomB v nb) w) :=
  (wput_oneO w g bs odd h nb hnb v hv hlen).mono fun _ _ h => ⟨h.1, h.2.1.s, h.2.2⟩
set_option maxRecDepth 100000 in
set_option maxHeartbeats 8000000 in
theorem wnext_any (w : World) (g : Nat) (bs : List UInt8) (odd : Bool) (h : WrS w g bs odd) (a : Option Addr) (n cap : Nat) (l : List Int) (hs : Sl encZ w a n l) (ho : Off1 a n g) (hz : ∀ v ∈ l, IntR v) (hlen : bs.length + n * 4 ≤ 1048576) :
    Calls Try.prog 63 #[.pointer (some ⟨g, 0, none⟩), .slice a n cap] w (PutsRet g (bs ++ nextsB l) (odd || badN l) w) := by
  have HS := Lib.hid hs
  have HLn := Lib.hid hs.1
  have HZ := Lib.hid hz
  have HO := Lib.hid ho
  have HW0 := Lib.hid h
  clear hs hz ho h
  go_enter Try.func63, Try.ntmps63
  go_wp2_with fail
  go_loopg [8] n (fun gn i wr => ∃ j : Nat, j ≤ n ∧ gn = n - j ∧ i = .int .i64 j ∧ Hid (WrS wr g (bs ++ nextsB (l.take j)) (odd || badN (l.take j))) ∧ Hid (Keep1 g w wr))
  case atStart => exact ⟨0, by omega, by omega, by go_num, Lib.hid (by simpa [nextsB, badN] using HW0.out), Lib.hid (Keep1.refl _ _)⟩
  case round =>
    obtain ⟨j, hj, rfl, rfl, HW, HK⟩ := hrel
    by_cases hlt : j < n
    · obtain ⟨b, off, v, rfl, hbl, hv, q⟩ := (HS.out.keep1 HK.out HO.out).getZ j hlt
      have hvr := HZ.out v (List.mem_of_getElem? hv)
      have HPT := Lib.hid (show bs ++ nextsB (l.take (j + 1)) = bs ++ nextsB (l.take j) ++ putB (u64V (v + 1)) 2 by rw [nextsB_take l j v hv, List.append_assoc])
      have HBT := Lib.hid (show (odd || badN (l.take (j + 1))) = (odd || badN (l.take j) || oddN v) by rw [badN_take l j v hv, Bool.or_assoc])
      have hlen2 : (bs ++ nextsB (l.take j)).length ≤ 1048572 := by
        rw [List.length_append, nextsB_len, List.length_take]
        omega
      have hux := u64V_wrap v
      have hun := u64V_next v
      have HLX := Lib.hid (u64V_lt (v + 1))
      obtain ⟨a2, n2, c2, hk2, hs2, hc2, ho2, -⟩ := HW.out
      have HK2 := Lib.hid hk2
      have HS2 := Lib.hid hs2
      have HO2 := Lib.hid ho2
      have HL2 := Lib.hid hs2.1
      rw [hs2.1] at hlen2
      obtain ⟨q1, hq1⟩ : ∃ q1, q1 = decide (v < -1) := ⟨_, rfl⟩
      obtain ⟨q2, hq2⟩ : ∃ q2, q2 = decide (65534 < v) := ⟨_, rfl⟩
      have HQN := Lib.hid (show oddN v = (q1 || q2) by unfold oddN; rw [hq1, hq2])
      have e1 := hq1.symm
      have e2 := hq2.symm
      clear hk2 hs2 ho2 hv HW hq1 hq2
      generalize bs ++ nextsB (l.take j) = e at *
      generalize (odd || badN (l.take j)) = od at *
      generalize u64V (v + 1) = un at *
      generalize u64V v = uv at *
      obtain ⟨c0, c1, f0, f1, lt2⟩ := HK2.out.box
      cases od with
      | true =>
        clear e1 e2
        go_upto_region 4 with fail
        have HK3 := Lib.hid (HK2.out.set1 (v := .bool true))
        have HKK := Lib.hid (HK.out.set 1 (.bool true))
        have HS3 := Lib.hid (HS2.out.keep1 ((Keep1.refl g wr).set 1 (.bool true)) HO2.out)
        clear HK2 HK HS2 c0 c1 f0 f1 lt2
        generalize wr.setCell ⟨g, 1, none⟩ (.bool true) = W3 at *
        obtain ⟨c0, c1, f0, f1, lt3⟩ := HK3.out.box
        go_wp2_with fail
        refine (Put_any W3 a2 n2 c2 e un 2 HS3.out (by omega) hc2 HLX.out (by decide) (by decide)).mono ?_
        rintro e' W4 ⟨v4, m4, rfl, ho4, hb4⟩
        obtain ⟨a4, c4, rfl, hs4, hc4⟩ := Sl.ofOwn ho4
        have HS4 := Lib.hid hs4
        have HN4 := Lib.hid (own_mono ho4 (show g + 1 ≤ W3.heap.size from lt3))
        have HO4 := Lib.hid (Off1.own ho4 lt3)
        have HK4 := Lib.hid (HK3.out.below hb4)
        have HKK4 := Lib.hid (HKK.out.trans (Keep1.of hb4))
        clear HK3 HKK HS3 ho4 hb4 hs4 c0 c1 f0 f1 lt3
        obtain ⟨c0, c1, f0, f1, lt3⟩ := HK4.out.box
        go_wp2_with fail
        go_roundg (n - (j + 1))
        case measure => omega
        case rel =>
          refine ⟨j + 1, by omega, rfl, by go_num, Lib.hid ?_, Lib.hid (HKK4.out.set 0 _)⟩
          rw [HPT.out, HBT.out]
          exact ⟨a4, m4, c4, by simpa [HQN.out] using HK4.out.set0, HS4.out.keep1 ((Keep1.refl g W4).set 0 _) HO4.out, hc4, HO4.out, own_keep1 HN4.out ((Keep1.refl g W4).set 0 _) (by omega)⟩
      | false =>
        cases q1 with
        | true =>
          clear e2
          go_upto_region 4 with fail
          have HK3 := Lib.hid (HK2.out.set1 (v := .bool true))
          have HKK := Lib.hid (HK.out.set 1 (.bool true))
          have HS3 := Lib.hid (HS2.out.keep1 ((Keep1.refl g wr).set 1 (.bool true)) HO2.out)
          clear HK2 HK HS2 c0 c1 f0 f1 lt2
          generalize wr.setCell ⟨g, 1, none⟩ (.bool true) = W3 at *
          obtain ⟨c0, c1, f0, f1, lt3⟩ := HK3.out.box
          go_wp2_with fail
          refine (Put_any W3 a2 n2 c2 e un 2 HS3.out (by omega) hc2 HLX.out (by decide) (by decide)).mono ?_
          rintro e' W4 ⟨v4, m4, rfl, ho4, hb4⟩
          obtain ⟨a4, c4, rfl, hs4, hc4⟩ := Sl.ofOwn ho4
          have HS4 := Lib.hid hs4
          have HN4 := Lib.hid (own_mono ho4 (show g + 1 ≤ W3.heap.size from lt3))
          have HO4 := Lib.hid (Off1.own ho4 lt3)
          have HK4 := Lib.hid (HK3.out.below hb4)
          have HKK4 := Lib.hid (HKK.out.trans (Keep1.of hb4))
          clear HK3 HKK HS3 ho4 hb4 hs4 c0 c1 f0 f1 lt3
          obtain ⟨c0, c1, f0, f1, lt3⟩ := HK4.out.box
          go_wp2_with fail
          go_roundg (n - (j + 1))
          case measure => omega
          case rel =>
            refine ⟨j + 1, by omega, rfl, by go_num, Lib.hid ?_, Lib.hid (HKK4.out.set 0 _)⟩
            rw [HPT.out, HBT.out]
            exact ⟨a4, m4, c4, by simpa [HQN.out] using HK4.out.set0, HS4.out.keep1 ((Keep1.refl g W4).set 0 _) HO4.out, hc4, HO4.out, own_keep1 HN4.out ((Keep1.refl g W4).set 0 _) (by omega)⟩
        | false =>
          cases q2 with
          | true =>
            go_upto_region 4 with fail
            have HK3 := Lib.hid (HK2.out.set1 (v := .bool true))
            have HKK := Lib.hid (HK.out.set 1 (.bool true))
            have HS3 := Lib.hid (HS2.out.keep1 ((Keep1.refl g wr).set 1 (.bool true)) HO2.out)
            clear HK2 HK HS2 c0 c1 f0 f1 lt2
            generalize wr.setCell ⟨g, 1, none⟩ (.bool true) = W3 at *
            obtain ⟨c0, c1, f0, f1, lt3⟩ := HK3.out.box
            go_wp2_with fail
            refine (Put_any W3 a2 n2 c2 e un 2 HS3.out (by omega) hc2 HLX.out (by decide) (by decide)).mono ?_
            rintro e' W4 ⟨v4, m4, rfl, ho4, hb4⟩
            obtain ⟨a4, c4, rfl, hs4, hc4⟩ := Sl.ofOwn ho4
            have HS4 := Lib.hid hs4
            have HN4 := Lib.hid (own_mono ho4 (show g + 1 ≤ W3.heap.size from lt3))
            have HO4 := Lib.hid (Off1.own ho4 lt3)
            have HK4 := Lib.hid (HK3.out.below hb4)
            have HKK4 := Lib.hid (HKK.out.trans (Keep1.of hb4))
            clear HK3 HKK HS3 ho4 hb4 hs4 c0 c1 f0 f1 lt3
            obtain ⟨c0, c1, f0, f1, lt3⟩ := HK4.out.box
            go_wp2_with fail
            go_roundg (n - (j + 1))
            case measure => omega
            case rel =>
              refine ⟨j + 1, by omega, rfl, by go_num, Lib.hid ?_, Lib.hid (HKK4.out.set 0 _)⟩
              rw [HPT.out, HBT.out]
              exact ⟨a4, m4, c4, by simpa [HQN.out] using HK4.out.set0, HS4.out.keep1 ((Keep1.refl g W4).set 0 _) HO4.out, hc4, HO4.out, own_keep1 HN4.out ((Keep1.refl g W4).set 0 _) (by omega)⟩
          | false =>
            go_upto_region 4 with fail
            have HK3 := Lib.hid (HK2.out.set1 (v := .bool false))
            have HKK := Lib.hid (HK.out.set 1 (.bool false))
            have HS3 := Lib.hid (HS2.out.keep1 ((Keep1.refl g wr).set 1 (.bool false)) HO2.out)
            clear HK2 HK HS2 c0 c1 f0 f1 lt2
            generalize wr.setCell ⟨g, 1, none⟩ (.bool false) = W3 at *
            obtain ⟨c0, c1, f0, f1, lt3⟩ := HK3.out.box
            go_wp2_with fail
            refine (Put_any W3 a2 n2 c2 e un 2 HS3.out (by omega) hc2 HLX.out (by decide) (by decide)).mono ?_
            rintro e' W4 ⟨v4, m4, rfl, ho4, hb4⟩
            obtain ⟨a4, c4, rfl, hs4, hc4⟩ := Sl.ofOwn ho4
            have HS4 := Lib.hid hs4
            have HN4 := Lib.hid (own_mono ho4 (show g + 1 ≤ W3.heap.size from lt3))
            have HO4 := Lib.hid (Off1.own ho4 lt3)
            have HK4 := Lib.hid (HK3.out.below hb4)
            have HKK4 := Lib.hid (HKK.out.trans (Keep1.of hb4))
            clear HK3 HKK HS3 ho4 hb4 hs4 c0 c1 f0 f1 lt3
            obtain ⟨c0, c1, f0, f1, lt3⟩ := HK4.out.box
            go_wp2_with fail
            go_roundg (n - (j + 1))
            case measure => omega
            case rel =>
              refine ⟨j + 1, by omega, rfl, by go_num, Lib.hid ?_, Lib.hid (HKK4.out.set 0 _)⟩
              rw [HPT.out, HBT.out]
              exact ⟨a4, m4, c4, by simpa [HQN.out] using HK4.out.set0, HS4.out.keep1 ((Keep1.refl g W4).set 0 _) HO4.out, hc4, HO4.out, own_keep1 HN4.out ((Keep1.refl g W4).set 0 _) (by omega)⟩
    · obtain rfl : j = n := by omega
      have HLE := Lib.hid (show l.take j = l by rw [List.take_of_length_le (by rw [HLn.out]; exact Nat.le_refl _)])
      rw [HLE.out] at HW
      go_wp2_with fail
      go_end0
      exact ⟨rfl, HW.out, HK.out⟩
/-- A text's bytes behind its length's. -/
def textB (s : List UInt8) (n : Nat) : List UInt8 := putB (u64V s.length) n ++ s
set_option maxRecDepth 100000 in
set_option maxHeartbeats 8000000 in
theorem wtext_any (w : World) (g : Nat) (bs : List UInt8) (odd : Bool) (h : WrS w g bs odd) (nb : Nat) (hnb : nb = 1 ∨ nb = 2 ∨ nb = 4) (s : List UInt8) (hlen : bs.length + s.length + 4 ≤ 1048576) :
    Calls Try.prog 61 #[.pointer (some ⟨g, 0, none⟩), .string ⟨s.toArray⟩, .int .i64 nb] w (PutsRet g (bs ++ textB s nb) (odd || !roomB s.length nb) w) := by
  have HGL := Lib.hid h.lt
  have HP := Lib.hid (wput_oneO w g bs odd h nb hnb s.length (by unfold IntR; omega) (by omega))
  have HLb := Lib.hid (show (bs ++ putB (u64V s.length) nb).length = bs.length + nb by rw [List.length_append, putB_length])
  have hnb4 : nb ≤ 4 := by omega
  have HTX := Lib.hid (show bs ++ textB s nb = bs ++ putB (u64V s.length) nb ++ s by unfold textB; rw [List.append_assoc])
  have hsl := strSrcK
  go_enter Try.func61, Try.ntmps61
  go_wp2_with fail
  refine HP.out.mono ?_
  rintro e' W1 ⟨rfl, ⟨a1, n1, c1, hk1, hs1, hc1, ho1, hn1, -⟩, hkk1⟩
  have hnn : n1 ≤ bs.length + 4 := by rw [← hs1.1, HLb.out]; omega
  have HK1 := Lib.hid hk1
  have HKK1 := Lib.hid hkk1
  have HO1 := Lib.hid (hn1 trivial)
  clear hk1 hs1 ho1 hn1 hkk1 HP hsl
  obtain ⟨c0, c1', f0, f1, lt2⟩ := HK1.out.box
  go_wp2_with (at_builtin; refine wpList_app1 oneN rfl _ _ _ rfl w.heap.size _ n1 _ rfl HO1.out _ s.length (s.map encB) rfl (strSrcK _ s) (by omega) (by unfold maxLen; omega) HKK1.out.size ?_; intro v2 W2 hown2 hg2 hb2; rw [← List.map_append] at hown2; have hq2 := KeptT.app0 HO1.out hg2; have HK2 := Lib.hid (show Blk2 W2 g (.slice a1 n1 c1) (.bool (odd || !roomB s.length nb)) 65 from hq2.2 _ _ _ _ HK1.out (by decide)); obtain ⟨a2, k2, rfl, hs2, hc2⟩ := Sl.ofOwn hown2; have HS2 := Lib.hid hs2; have HKK2 := Lib.hid (keep1_app HKK1.out HO1.out hg2); have HO2 := Lib.hid hown2; clear c0 c1' f0 f1 lt2 hown2 hg2 hq2 hb2 hs2; obtain ⟨c0, c1', f0, f1, lt2⟩ := HK2.out.box)
  go_end0
  refine ⟨rfl, ?_, HKK2.out.set 0 _⟩
  rw [HTX.out]
  exact ⟨a2, _, k2, HK2.out.set0, HS2.out.keep1 ((Keep1.refl g W2).set 0 _) (Off1.own HO2.out HGL.out), hc2, Off1.own HO2.out HGL.out, own_mono (own_keep1 HO2.out ((Keep1.refl g W2).set 0 _) HGL.out) HGL.out⟩
set_option maxRecDepth 100000 in
set_option maxHeartbeats 8000000 in
theorem wtwo_any (w : World) (g : Nat) (bs : List UInt8) (odd : Bool) (h : WrS w g bs odd) (v : Int) (hv : IntR v) (hlen : bs.length + 4 ≤ 1048576) :
    Calls Try.prog 58 #[.pointer (some ⟨g, 0, none⟩), .int .i64 v] w (PutsRet g (bs ++ putB (u64V v) 2) (odd || !roomB v 2) w) := by
  have HP := Lib.hid (wput_one w g bs odd h 2 (by omega) v hv (by omega))
  go_enter Try.func58, Try.ntmps58
  go_wp2_with fail
  refine HP.out.mono ?_
  rintro e' W1 ⟨rfl, hr⟩
  go_wp2_with fail
  go_end0
  exact ⟨rfl, hr⟩
/-- A row: how many, then each. -/
def rowB {α : Type} (F : α → List UInt8) (l : List α) : List UInt8 := putB (u64V l.length) 2 ++ l.flatMap F
def rowO {α : Type} (B : α → Bool) (l : List α) : Bool := !roomB l.length 2 || l.any B
set_option maxRecDepth 100000 in
set_option maxHeartbeats 8000000 in
theorem wmany_int (w : World) (g : Nat) (bs : List UInt8) (odd : Bool) (h : WrS w g bs odd) (a : Option Addr) (n cap : Nat) (l : List Int) (hs : Sl encZ w a n l) (ho : Off1 a n g) (hn : n ≤ 9223372036854775807) (F : Int → List UInt8) (Bd : Int → Bool) (hlen : bs.length + 2 + (l.flatMap F).length + 8 ≤ 1048576)
    (HC : ∀ v ∈ l, ∀ (W : World) (bs' : List UInt8) (od' : Bool), WrS W g bs' od' → Keep1 g w W → bs'.length + (F v).length + 8 ≤ 1048576 → Calls Try.prog 58 #[.pointer (some ⟨g, 0, none⟩), .int .i64 v] W (PutsRet g (bs' ++ F v) (od' || Bd v) W)) :
    Calls Try.prog 57 #[.pointer (some ⟨g, 0, none⟩), .slice a n cap, .func (.func 58) #[.pointer (some ⟨g, 0, none⟩)] #[]] w (PutsRet g (bs ++ rowB F l) (odd || rowO Bd l) w) := by
  have HS := Lib.hid hs
  have HLn := Lib.hid hs.1
  have HO := Lib.hid ho
  have HCC := Lib.hid HC
  have HP := Lib.hid (wput_one w g bs odd h 2 (by omega) n (len_room hn) (by omega))
  have HLF := Lib.hid (flat_le F l)
  have HRB := Lib.hid (show bs ++ rowB F l = bs ++ putB (u64V n) 2 ++ l.flatMap F by unfold rowB; rw [List.append_assoc, hs.1])
  have HRO := Lib.hid (show (odd || rowO Bd l) = (odd || !roomB n 2 || l.any Bd) by unfold rowO; rw [Bool.or_assoc, hs.1])
  have HPL := Lib.hid (show (bs ++ putB (u64V n) 2).length = bs.length + 2 by rw [List.length_append, putB_length])
  clear hs ho HC h
  go_enter Try.func57, Try.ntmps57
  go_wp2_with fail
  refine HP.out.mono ?_
  rintro e' W1 ⟨rfl, hw1, hk1⟩
  have HW1 := Lib.hid hw1
  have HK1 := Lib.hid hk1
  clear hw1 hk1 HP
  generalize bs ++ putB (u64V n) 2 = e at *
  generalize (odd || !roomB n 2) = od at *
  go_wp2_with fail
  go_loopg [15] n (fun gn i wr => ∃ j : Nat, j ≤ n ∧ gn = n - j ∧ i = .int .i64 j ∧ Hid (WrS wr g (e ++ (l.take j).flatMap F) (od || (l.take j).any Bd)) ∧ Hid (Keep1 g w wr))
  case atStart => exact ⟨0, by omega, by omega, by go_num, Lib.hid (by simpa using HW1.out), HK1⟩
  case round =>
    obtain ⟨j, hj, rfl, rfl, HW, HK⟩ := hrel
    by_cases hlt : j < n
    · obtain ⟨b, off, v, rfl, hbl, hv, q⟩ := (HS.out.keep1 HK.out HO.out).get1 j hlt
      have HFT := Lib.hid (show e ++ (l.take (j + 1)).flatMap F = e ++ (l.take j).flatMap F ++ F v by rw [flat_take F l j v hv, List.append_assoc])
      have HAT := Lib.hid (show (od || (l.take (j + 1)).any Bd) = (od || (l.take j).any Bd || Bd v) by rw [any_take Bd l j v hv, Bool.or_assoc])
      have hll : (e ++ (l.take j).flatMap F).length + (F v).length + 8 ≤ 1048576 := by
        have h1 := HLF.out (j + 1)
        rw [flat_take F l j v hv, List.length_append] at h1
        rw [List.length_append, HPL.out]
        omega
      have HV := Lib.hid (fun (W : World) (h1 : WrS W g (e ++ (l.take j).flatMap F) (od || (l.take j).any Bd)) (h2 : Keep1 g w W) => HCC.out v (List.mem_of_getElem? hv) W _ _ h1 h2 hll)
      clear hv hll
      generalize e ++ (l.take j).flatMap F = ej at *
      generalize (od || (l.take j).any Bd) = oj at *
      unfold encZ at q
      go_wp2_with fail
      refine (HV.out wr HW.out HK.out).mono ?_
      rintro e' W2 ⟨rfl, hw2, hk2⟩
      have HW2 := Lib.hid hw2
      have HK2 := Lib.hid (HK.out.trans hk2)
      clear hw2 hk2
      go_wp2_with fail
      go_roundg (n - (j + 1))
      case measure => omega
      case rel => exact ⟨j + 1, by omega, rfl, by go_num, Lib.hid (by rw [HFT.out, HAT.out]; exact HW2.out), HK2⟩
    · obtain rfl : j = n := by omega
      have HLE := Lib.hid (show l.take j = l by rw [List.take_of_length_le (by rw [HLn.out]; exact Nat.le_refl _)])
      rw [HLE.out] at HW
      go_wp2_with fail
      go_end0
      exact ⟨rfl, by rw [HRB.out, HRO.out]; exact HW.out, HK.out⟩
set_option maxRecDepth 100000 in
set_option maxHeartbeats 8000000 in
theorem wmany_str1 (w : World) (g : Nat) (bs : List UInt8) (odd : Bool) (h : WrS w g bs odd) (a : Option Addr) (n cap : Nat) (l : List (List UInt8)) (hs : Sl encS w a n l) (ho : Off1 a n g) (hn : n ≤ 9223372036854775807) (pb : Nat) (F : (List UInt8) → List UInt8) (Bd : (List UInt8) → Bool) (hlen : bs.length + 2 + (l.flatMap F).length + 8 ≤ 1048576)
    (HC : ∀ v ∈ l, ∀ (W : World) (bs' : List UInt8) (od' : Bool), WrS W g bs' od' → Keep1 g w W → bs'.length + (F v).length + 8 ≤ 1048576 → Calls Try.prog 60 #[.string ⟨v.toArray⟩, .pointer (some ⟨pb, 0, none⟩)] W (PutsRet g (bs' ++ F v) (od' || Bd v) W)) :
    Calls Try.prog 59 #[.pointer (some ⟨g, 0, none⟩), .slice a n cap, .func (.func 60) #[] #[.pointer (some ⟨pb, 0, none⟩)]] w (PutsRet g (bs ++ rowB F l) (odd || rowO Bd l) w) := by
  have HS := Lib.hid hs
  have HLn := Lib.hid hs.1
  have HO := Lib.hid ho
  have HCC := Lib.hid HC
  have HP := Lib.hid (wput_one w g bs odd h 2 (by omega) n (len_room hn) (by omega))
  have HLF := Lib.hid (flat_le F l)
  have HRB := Lib.hid (show bs ++ rowB F l = bs ++ putB (u64V n) 2 ++ l.flatMap F by unfold rowB; rw [List.append_assoc, hs.1])
  have HRO := Lib.hid (show (odd || rowO Bd l) = (odd || !roomB n 2 || l.any Bd) by unfold rowO; rw [Bool.or_assoc, hs.1])
  have HPL := Lib.hid (show (bs ++ putB (u64V n) 2).length = bs.length + 2 by rw [List.length_append, putB_length])
  clear hs ho HC h
  go_enter Try.func59, Try.ntmps59
  go_wp2_with fail
  refine HP.out.mono ?_
  rintro e' W1 ⟨rfl, hw1, hk1⟩
  have HW1 := Lib.hid hw1
  have HK1 := Lib.hid hk1
  clear hw1 hk1 HP
  generalize bs ++ putB (u64V n) 2 = e at *
  generalize (odd || !roomB n 2) = od at *
  go_wp2_with fail
  go_loopg [15] n (fun gn i wr => ∃ j : Nat, j ≤ n ∧ gn = n - j ∧ i = .int .i64 j ∧ Hid (WrS wr g (e ++ (l.take j).flatMap F) (od || (l.take j).any Bd)) ∧ Hid (Keep1 g w wr))
  case atStart => exact ⟨0, by omega, by omega, by go_num, Lib.hid (by simpa using HW1.out), HK1⟩
  case round =>
    obtain ⟨j, hj, rfl, rfl, HW, HK⟩ := hrel
    by_cases hlt : j < n
    · obtain ⟨b, off, v, rfl, hbl, hv, q⟩ := (HS.out.keep1 HK.out HO.out).get1 j hlt
      have HFT := Lib.hid (show e ++ (l.take (j + 1)).flatMap F = e ++ (l.take j).flatMap F ++ F v by rw [flat_take F l j v hv, List.append_assoc])
      have HAT := Lib.hid (show (od || (l.take (j + 1)).any Bd) = (od || (l.take j).any Bd || Bd v) by rw [any_take Bd l j v hv, Bool.or_assoc])
      have hll : (e ++ (l.take j).flatMap F).length + (F v).length + 8 ≤ 1048576 := by
        have h1 := HLF.out (j + 1)
        rw [flat_take F l j v hv, List.length_append] at h1
        rw [List.length_append, HPL.out]
        omega
      have HV := Lib.hid (fun (W : World) (h1 : WrS W g (e ++ (l.take j).flatMap F) (od || (l.take j).any Bd)) (h2 : Keep1 g w W) => HCC.out v (List.mem_of_getElem? hv) W _ _ h1 h2 hll)
      clear hv hll
      generalize e ++ (l.take j).flatMap F = ej at *
      generalize (od || (l.take j).any Bd) = oj at *
      unfold encS at q
      go_wp2_with fail
      refine (HV.out wr HW.out HK.out).mono ?_
      rintro e' W2 ⟨rfl, hw2, hk2⟩
      have HW2 := Lib.hid hw2
      have HK2 := Lib.hid (HK.out.trans hk2)
      clear hw2 hk2
      go_wp2_with fail
      go_roundg (n - (j + 1))
      case measure => omega
      case rel => exact ⟨j + 1, by omega, rfl, by go_num, Lib.hid (by rw [HFT.out, HAT.out]; exact HW2.out), HK2⟩
    · obtain rfl : j = n := by omega
      have HLE := Lib.hid (show l.take j = l by rw [List.take_of_length_le (by rw [HLn.out]; exact Nat.le_refl _)])
      rw [HLE.out] at HW
      go_wp2_with fail
      go_end0
      exact ⟨rfl, by rw [HRB.out, HRO.out]; exact HW.out, HK.out⟩
set_option maxRecDepth 100000 in
set_option maxHeartbeats 8000000 in
theorem wmany_str2 (w : World) (g : Nat) (bs : List UInt8) (odd : Bool) (h : WrS w g bs odd) (a : Option Addr) (n cap : Nat) (l : List (List UInt8)) (hs : Sl encS w a n l) (ho : Off1 a n g) (hn : n ≤ 9223372036854775807) (pb : Nat) (F : (List UInt8) → List UInt8) (Bd : (List UInt8) → Bool) (hlen : bs.length + 2 + (l.flatMap F).length + 8 ≤ 1048576)
    (HC : ∀ v ∈ l, ∀ (W : World) (bs' : List UInt8) (od' : Bool), WrS W g bs' od' → Keep1 g w W → bs'.length + (F v).length + 8 ≤ 1048576 → Calls Try.prog 62 #[.string ⟨v.toArray⟩, .pointer (some ⟨pb, 0, none⟩)] W (PutsRet g (bs' ++ F v) (od' || Bd v) W)) :
    Calls Try.prog 59 #[.pointer (some ⟨g, 0, none⟩), .slice a n cap, .func (.func 62) #[] #[.pointer (some ⟨pb, 0, none⟩)]] w (PutsRet g (bs ++ rowB F l) (odd || rowO Bd l) w) := by
  have HS := Lib.hid hs
  have HLn := Lib.hid hs.1
  have HO := Lib.hid ho
  have HCC := Lib.hid HC
  have HP := Lib.hid (wput_one w g bs odd h 2 (by omega) n (len_room hn) (by omega))
  have HLF := Lib.hid (flat_le F l)
  have HRB := Lib.hid (show bs ++ rowB F l = bs ++ putB (u64V n) 2 ++ l.flatMap F by unfold rowB; rw [List.append_assoc, hs.1])
  have HRO := Lib.hid (show (odd || rowO Bd l) = (odd || !roomB n 2 || l.any Bd) by unfold rowO; rw [Bool.or_assoc, hs.1])
  have HPL := Lib.hid (show (bs ++ putB (u64V n) 2).length = bs.length + 2 by rw [List.length_append, putB_length])
  clear hs ho HC h
  go_enter Try.func59, Try.ntmps59
  go_wp2_with fail
  refine HP.out.mono ?_
  rintro e' W1 ⟨rfl, hw1, hk1⟩
  have HW1 := Lib.hid hw1
  have HK1 := Lib.hid hk1
  clear hw1 hk1 HP
  generalize bs ++ putB (u64V n) 2 = e at *
  generalize (odd || !roomB n 2) = od at *
  go_wp2_with fail
  go_loopg [15] n (fun gn i wr => ∃ j : Nat, j ≤ n ∧ gn = n - j ∧ i = .int .i64 j ∧ Hid (WrS wr g (e ++ (l.take j).flatMap F) (od || (l.take j).any Bd)) ∧ Hid (Keep1 g w wr))
  case atStart => exact ⟨0, by omega, by omega, by go_num, Lib.hid (by simpa using HW1.out), HK1⟩
  case round =>
    obtain ⟨j, hj, rfl, rfl, HW, HK⟩ := hrel
    by_cases hlt : j < n
    · obtain ⟨b, off, v, rfl, hbl, hv, q⟩ := (HS.out.keep1 HK.out HO.out).get1 j hlt
      have HFT := Lib.hid (show e ++ (l.take (j + 1)).flatMap F = e ++ (l.take j).flatMap F ++ F v by rw [flat_take F l j v hv, List.append_assoc])
      have HAT := Lib.hid (show (od || (l.take (j + 1)).any Bd) = (od || (l.take j).any Bd || Bd v) by rw [any_take Bd l j v hv, Bool.or_assoc])
      have hll : (e ++ (l.take j).flatMap F).length + (F v).length + 8 ≤ 1048576 := by
        have h1 := HLF.out (j + 1)
        rw [flat_take F l j v hv, List.length_append] at h1
        rw [List.length_append, HPL.out]
        omega
      have HV := Lib.hid (fun (W : World) (h1 : WrS W g (e ++ (l.take j).flatMap F) (od || (l.take j).any Bd)) (h2 : Keep1 g w W) => HCC.out v (List.mem_of_getElem? hv) W _ _ h1 h2 hll)
      clear hv hll
      generalize e ++ (l.take j).flatMap F = ej at *
      generalize (od || (l.take j).any Bd) = oj at *
      unfold encS at q
      go_wp2_with fail
      refine (HV.out wr HW.out HK.out).mono ?_
      rintro e' W2 ⟨rfl, hw2, hk2⟩
      have HW2 := Lib.hid hw2
      have HK2 := Lib.hid (HK.out.trans hk2)
      clear hw2 hk2
      go_wp2_with fail
      go_roundg (n - (j + 1))
      case measure => omega
      case rel => exact ⟨j + 1, by omega, rfl, by go_num, Lib.hid (by rw [HFT.out, HAT.out]; exact HW2.out), HK2⟩
    · obtain rfl : j = n := by omega
      have HLE := Lib.hid (show l.take j = l by rw [List.take_of_length_le (by rw [HLn.out]; exact Nat.le_refl _)])
      rw [HLE.out] at HW
      go_wp2_with fail
      go_end0
      exact ⟨rfl, by rw [HRB.out, HRO.out]; exact HW.out, HK.out⟩
set_option maxRecDepth 100000 in
set_option maxHeartbeats 8000000 in
theorem wmany_trap (w : World) (g : Nat) (bs : List UInt8) (odd : Bool) (h : WrS w g bs odd) (a : Option Addr) (n cap : Nat) (l : List TW) (hs : Ss 4 TW.vals w a n l) (ho : Off1 a n g) (hn : n ≤ 9223372036854775807) (F : TW → List UInt8) (Bd : TW → Bool) (hlen : bs.length + 2 + (l.flatMap F).length + 8 ≤ 1048576)
    (HC : ∀ v ∈ l, ∀ (W : World) (bs' : List UInt8) (od' : Bool), WrS W g bs' od' → Keep1 g w W → bs'.length + (F v).length + 8 ≤ 1048576 → Calls Try.prog 25 #[.pointer (some ⟨g, 0, none⟩), .agg v.vals.toArray] W (PutsRet g (bs' ++ F v) (od' || Bd v) W)) :
    Calls Try.prog 24 #[.pointer (some ⟨g, 0, none⟩), .slice a n cap, .func (.func 25) #[.pointer (some ⟨g, 0, none⟩)] #[]] w (PutsRet g (bs ++ rowB F l) (odd || rowO Bd l) w) := by
  have HS := Lib.hid hs
  have HLn := Lib.hid hs.1
  have HO := Lib.hid ho
  have HCC := Lib.hid HC
  have HP := Lib.hid (wput_one w g bs odd h 2 (by omega) n (len_room hn) (by omega))
  have HLF := Lib.hid (flat_le F l)
  have HRB := Lib.hid (show bs ++ rowB F l = bs ++ putB (u64V n) 2 ++ l.flatMap F by unfold rowB; rw [List.append_assoc, hs.1])
  have HRO := Lib.hid (show (odd || rowO Bd l) = (odd || !roomB n 2 || l.any Bd) by unfold rowO; rw [Bool.or_assoc, hs.1])
  have HPL := Lib.hid (show (bs ++ putB (u64V n) 2).length = bs.length + 2 by rw [List.length_append, putB_length])
  clear hs ho HC h
  go_enter Try.func24, Try.ntmps24
  go_wp2_with fail
  refine HP.out.mono ?_
  rintro e' W1 ⟨rfl, hw1, hk1⟩
  have HW1 := Lib.hid hw1
  have HK1 := Lib.hid hk1
  clear hw1 hk1 HP
  generalize bs ++ putB (u64V n) 2 = e at *
  generalize (odd || !roomB n 2) = od at *
  go_wp2_with fail
  go_loopg [15] n (fun gn i wr => ∃ j : Nat, j ≤ n ∧ gn = n - j ∧ i = .int .i64 j ∧ Hid (WrS wr g (e ++ (l.take j).flatMap F) (od || (l.take j).any Bd)) ∧ Hid (Keep1 g w wr))
  case atStart => exact ⟨0, by omega, by omega, by go_num, Lib.hid (by simpa using HW1.out), HK1⟩
  case round =>
    obtain ⟨j, hj, rfl, rfl, HW, HK⟩ := hrel
    by_cases hlt : j < n
    · obtain ⟨b, off, v, rfl, hbl, hv, q⟩ := (HS.out.keep1 HK.out HO.out).get1 j hlt
      have HFT := Lib.hid (show e ++ (l.take (j + 1)).flatMap F = e ++ (l.take j).flatMap F ++ F v by rw [flat_take F l j v hv, List.append_assoc])
      have HAT := Lib.hid (show (od || (l.take (j + 1)).any Bd) = (od || (l.take j).any Bd || Bd v) by rw [any_take Bd l j v hv, Bool.or_assoc])
      have hll : (e ++ (l.take j).flatMap F).length + (F v).length + 8 ≤ 1048576 := by
        have h1 := HLF.out (j + 1)
        rw [flat_take F l j v hv, List.length_append] at h1
        rw [List.length_append, HPL.out]
        omega
      have HV := Lib.hid (fun (W : World) (h1 : WrS W g (e ++ (l.take j).flatMap F) (od || (l.take j).any Bd)) (h2 : Keep1 g w W) => HCC.out v (List.mem_of_getElem? hv) W _ _ h1 h2 hll)
      clear hv hll
      generalize e ++ (l.take j).flatMap F = ej at *
      generalize (od || (l.take j).any Bd) = oj at *
      obtain ⟨x0, x1, x2, x3⟩ := v
      have q0 := q 0 (by omega)
      have q1 := q 1 (by omega)
      have q2 := q 2 (by omega)
      have q3 := q 3 (by omega)
      simp only [TW.vals, List.getElem?_cons_zero, List.getElem?_cons_succ, Nat.add_zero] at q0 q1 q2 q3
      clear q
      go_upto_region 4 with fail
      have hal : Below wr.heap.size wr (wr.alloc (.cells #[.int .i64 x0, .int .i64 x1, .int .i64 x2, .int .i64 x3] 71)) := (Below.refl _ _).alloc (Nat.le_refl _) _
      have HWA := Lib.hid (HW.out.below hal)
      have HKA := Lib.hid (HK.out.trans (Keep1.of hal))
      have HRA := heap_alloc_last wr (.cells #[.int .i64 x0, .int .i64 x1, .int .i64 x2, .int .i64 x3] 71)
      clear hal HW HK q0 q1 q2 q3
      generalize wr.alloc (.cells #[.int .i64 x0, .int .i64 x1, .int .i64 x2, .int .i64 x3] 71) = WA at *
      generalize wr.heap.size = gb at *
      have c0 := row_cell HRA 0 rfl
      have c1 := row_cell HRA 1 rfl
      have c2 := row_cell HRA 2 rfl
      have c3 := row_cell HRA 3 rfl
      clear HRA
      unfold TW.vals at HV
      simp only at HV
      go_wp2_with fail
      refine (HV.out WA HWA.out HKA.out).mono ?_
      rintro e' W2 ⟨rfl, hw2, hk2⟩
      have HW2 := Lib.hid hw2
      have HK2 := Lib.hid (HKA.out.trans hk2)
      clear hw2 hk2
      go_wp2_with fail
      go_roundg (n - (j + 1))
      case measure => omega
      case rel => exact ⟨j + 1, by omega, rfl, by go_num, Lib.hid (by rw [HFT.out, HAT.out]; exact HW2.out), HK2⟩
    · obtain rfl : j = n := by omega
      have HLE := Lib.hid (show l.take j = l by rw [List.take_of_length_le (by rw [HLn.out]; exact Nat.le_refl _)])
      rw [HLE.out] at HW
      go_wp2_with fail
      go_end0
      exact ⟨rfl, by rw [HRB.out, HRO.out]; exact HW.out, HK.out⟩
set_option maxRecDepth 100000 in
set_option maxHeartbeats 8000000 in
theorem wmany_method (w : World) (g : Nat) (bs : List UInt8) (odd : Bool) (h : WrS w g bs odd) (a : Option Addr) (n cap : Nat) (l : List MW) (hs : Ss 6 MW.vals w a n l) (ho : Off1 a n g) (hn : n ≤ 9223372036854775807) (F : MW → List UInt8) (Bd : MW → Bool) (hlen : bs.length + 2 + (l.flatMap F).length + 8 ≤ 1048576)
    (HC : ∀ v ∈ l, ∀ (W : World) (bs' : List UInt8) (od' : Bool), WrS W g bs' od' → Keep1 g w W → bs'.length + (F v).length + 8 ≤ 1048576 → Calls Try.prog 56 #[.pointer (some ⟨g, 0, none⟩), .agg v.vals.toArray] W (PutsRet g (bs' ++ F v) (od' || Bd v) W)) :
    Calls Try.prog 55 #[.pointer (some ⟨g, 0, none⟩), .slice a n cap, .func (.func 56) #[.pointer (some ⟨g, 0, none⟩)] #[]] w (PutsRet g (bs ++ rowB F l) (odd || rowO Bd l) w) := by
  have HS := Lib.hid hs
  have HLn := Lib.hid hs.1
  have HO := Lib.hid ho
  have HCC := Lib.hid HC
  have HP := Lib.hid (wput_one w g bs odd h 2 (by omega) n (len_room hn) (by omega))
  have HLF := Lib.hid (flat_le F l)
  have HRB := Lib.hid (show bs ++ rowB F l = bs ++ putB (u64V n) 2 ++ l.flatMap F by unfold rowB; rw [List.append_assoc, hs.1])
  have HRO := Lib.hid (show (odd || rowO Bd l) = (odd || !roomB n 2 || l.any Bd) by unfold rowO; rw [Bool.or_assoc, hs.1])
  have HPL := Lib.hid (show (bs ++ putB (u64V n) 2).length = bs.length + 2 by rw [List.length_append, putB_length])
  clear hs ho HC h
  go_enter Try.func55, Try.ntmps55
  go_wp2_with fail
  refine HP.out.mono ?_
  rintro e' W1 ⟨rfl, hw1, hk1⟩
  have HW1 := Lib.hid hw1
  have HK1 := Lib.hid hk1
  clear hw1 hk1 HP
  generalize bs ++ putB (u64V n) 2 = e at *
  generalize (odd || !roomB n 2) = od at *
  go_wp2_with fail
  go_loopg [15] n (fun gn i wr => ∃ j : Nat, j ≤ n ∧ gn = n - j ∧ i = .int .i64 j ∧ Hid (WrS wr g (e ++ (l.take j).flatMap F) (od || (l.take j).any Bd)) ∧ Hid (Keep1 g w wr))
  case atStart => exact ⟨0, by omega, by omega, by go_num, Lib.hid (by simpa using HW1.out), HK1⟩
  case round =>
    obtain ⟨j, hj, rfl, rfl, HW, HK⟩ := hrel
    by_cases hlt : j < n
    · obtain ⟨b, off, v, rfl, hbl, hv, q⟩ := (HS.out.keep1 HK.out HO.out).get1 j hlt
      have HFT := Lib.hid (show e ++ (l.take (j + 1)).flatMap F = e ++ (l.take j).flatMap F ++ F v by rw [flat_take F l j v hv, List.append_assoc])
      have HAT := Lib.hid (show (od || (l.take (j + 1)).any Bd) = (od || (l.take j).any Bd || Bd v) by rw [any_take Bd l j v hv, Bool.or_assoc])
      have hll : (e ++ (l.take j).flatMap F).length + (F v).length + 8 ≤ 1048576 := by
        have h1 := HLF.out (j + 1)
        rw [flat_take F l j v hv, List.length_append] at h1
        rw [List.length_append, HPL.out]
        omega
      have HV := Lib.hid (fun (W : World) (h1 : WrS W g (e ++ (l.take j).flatMap F) (od || (l.take j).any Bd)) (h2 : Keep1 g w W) => HCC.out v (List.mem_of_getElem? hv) W _ _ h1 h2 hll)
      clear hv hll
      generalize e ++ (l.take j).flatMap F = ej at *
      generalize (od || (l.take j).any Bd) = oj at *
      obtain ⟨x0, x1, x2, x3, x4, x5⟩ := v
      have q0 := q 0 (by omega)
      have q1 := q 1 (by omega)
      have q2 := q 2 (by omega)
      have q3 := q 3 (by omega)
      have q4 := q 4 (by omega)
      have q5 := q 5 (by omega)
      simp only [MW.vals, List.getElem?_cons_zero, List.getElem?_cons_succ, Nat.add_zero] at q0 q1 q2 q3 q4 q5
      clear q
      go_upto_region 4 with fail
      have hal : Below wr.heap.size wr (wr.alloc (.cells #[.int .i64 x0, .string ⟨x1.toArray⟩, .string ⟨x2.toArray⟩, .bool x3, .int .i64 x4, .int .i64 x5] 87)) := (Below.refl _ _).alloc (Nat.le_refl _) _
      have HWA := Lib.hid (HW.out.below hal)
      have HKA := Lib.hid (HK.out.trans (Keep1.of hal))
      have HRA := heap_alloc_last wr (.cells #[.int .i64 x0, .string ⟨x1.toArray⟩, .string ⟨x2.toArray⟩, .bool x3, .int .i64 x4, .int .i64 x5] 87)
      clear hal HW HK q0 q1 q2 q3 q4 q5
      generalize wr.alloc (.cells #[.int .i64 x0, .string ⟨x1.toArray⟩, .string ⟨x2.toArray⟩, .bool x3, .int .i64 x4, .int .i64 x5] 87) = WA at *
      generalize wr.heap.size = gb at *
      have c0 := row_cell HRA 0 rfl
      have c1 := row_cell HRA 1 rfl
      have c2 := row_cell HRA 2 rfl
      have c3 := row_cell HRA 3 rfl
      have c4 := row_cell HRA 4 rfl
      have c5 := row_cell HRA 5 rfl
      clear HRA
      unfold MW.vals at HV
      simp only at HV
      go_wp2_with fail
      refine (HV.out WA HWA.out HKA.out).mono ?_
      rintro e' W2 ⟨rfl, hw2, hk2⟩
      have HW2 := Lib.hid hw2
      have HK2 := Lib.hid (HKA.out.trans hk2)
      clear hw2 hk2
      go_wp2_with fail
      go_roundg (n - (j + 1))
      case measure => omega
      case rel => exact ⟨j + 1, by omega, rfl, by go_num, Lib.hid (by rw [HFT.out, HAT.out]; exact HW2.out), HK2⟩
    · obtain rfl : j = n := by omega
      have HLE := Lib.hid (show l.take j = l by rw [List.take_of_length_le (by rw [HLn.out]; exact Nat.le_refl _)])
      rw [HLE.out] at HW
      go_wp2_with fail
      go_end0
      exact ⟨rfl, by rw [HRB.out, HRO.out]; exact HW.out, HK.out⟩
set_option maxRecDepth 100000 in
set_option maxHeartbeats 8000000 in
theorem wmany_class (w : World) (g : Nat) (bs : List UInt8) (odd : Bool) (h : WrS w g bs odd) (a : Option Addr) (n cap : Nat) (l : List CW) (hs : Ss 5 CW.vals w a n l) (ho : Off1 a n g) (hn : n ≤ 9223372036854775807) (F : CW → List UInt8) (Bd : CW → Bool) (hlen : bs.length + 2 + (l.flatMap F).length + 8 ≤ 1048576)
    (HC : ∀ v ∈ l, ∀ (W : World) (bs' : List UInt8) (od' : Bool), WrS W g bs' od' → Keep1 g w W → bs'.length + (F v).length + 8 ≤ 1048576 → Calls Try.prog 54 #[.pointer (some ⟨g, 0, none⟩), .agg v.vals.toArray] W (PutsRet g (bs' ++ F v) (od' || Bd v) W)) :
    Calls Try.prog 53 #[.pointer (some ⟨g, 0, none⟩), .slice a n cap, .func (.func 54) #[.pointer (some ⟨g, 0, none⟩)] #[]] w (PutsRet g (bs ++ rowB F l) (odd || rowO Bd l) w) := by
  have HS := Lib.hid hs
  have HLn := Lib.hid hs.1
  have HO := Lib.hid ho
  have HCC := Lib.hid HC
  have HP := Lib.hid (wput_one w g bs odd h 2 (by omega) n (len_room hn) (by omega))
  have HLF := Lib.hid (flat_le F l)
  have HRB := Lib.hid (show bs ++ rowB F l = bs ++ putB (u64V n) 2 ++ l.flatMap F by unfold rowB; rw [List.append_assoc, hs.1])
  have HRO := Lib.hid (show (odd || rowO Bd l) = (odd || !roomB n 2 || l.any Bd) by unfold rowO; rw [Bool.or_assoc, hs.1])
  have HPL := Lib.hid (show (bs ++ putB (u64V n) 2).length = bs.length + 2 by rw [List.length_append, putB_length])
  clear hs ho HC h
  go_enter Try.func53, Try.ntmps53
  go_wp2_with fail
  refine HP.out.mono ?_
  rintro e' W1 ⟨rfl, hw1, hk1⟩
  have HW1 := Lib.hid hw1
  have HK1 := Lib.hid hk1
  clear hw1 hk1 HP
  generalize bs ++ putB (u64V n) 2 = e at *
  generalize (odd || !roomB n 2) = od at *
  go_wp2_with fail
  go_loopg [15] n (fun gn i wr => ∃ j : Nat, j ≤ n ∧ gn = n - j ∧ i = .int .i64 j ∧ Hid (WrS wr g (e ++ (l.take j).flatMap F) (od || (l.take j).any Bd)) ∧ Hid (Keep1 g w wr))
  case atStart => exact ⟨0, by omega, by omega, by go_num, Lib.hid (by simpa using HW1.out), HK1⟩
  case round =>
    obtain ⟨j, hj, rfl, rfl, HW, HK⟩ := hrel
    by_cases hlt : j < n
    · obtain ⟨b, off, v, rfl, hbl, hv, q⟩ := (HS.out.keep1 HK.out HO.out).get1 j hlt
      have HFT := Lib.hid (show e ++ (l.take (j + 1)).flatMap F = e ++ (l.take j).flatMap F ++ F v by rw [flat_take F l j v hv, List.append_assoc])
      have HAT := Lib.hid (show (od || (l.take (j + 1)).any Bd) = (od || (l.take j).any Bd || Bd v) by rw [any_take Bd l j v hv, Bool.or_assoc])
      have hll : (e ++ (l.take j).flatMap F).length + (F v).length + 8 ≤ 1048576 := by
        have h1 := HLF.out (j + 1)
        rw [flat_take F l j v hv, List.length_append] at h1
        rw [List.length_append, HPL.out]
        omega
      have HV := Lib.hid (fun (W : World) (h1 : WrS W g (e ++ (l.take j).flatMap F) (od || (l.take j).any Bd)) (h2 : Keep1 g w W) => HCC.out v (List.mem_of_getElem? hv) W _ _ h1 h2 hll)
      clear hv hll
      generalize e ++ (l.take j).flatMap F = ej at *
      generalize (od || (l.take j).any Bd) = oj at *
      obtain ⟨x0, x1, x2, xra, xrn, xrc, xr, xta, xtn, xtc, xt⟩ := v
      have q0 := q 0 (by omega)
      have q1 := q 1 (by omega)
      have q2 := q 2 (by omega)
      have q3 := q 3 (by omega)
      have q4 := q 4 (by omega)
      simp only [CW.vals, List.getElem?_cons_zero, List.getElem?_cons_succ, Nat.add_zero] at q0 q1 q2 q3 q4
      clear q
      go_upto_region 4 with fail
      have hal : Below wr.heap.size wr (wr.alloc (.cells #[.string ⟨x0.toArray⟩, .int .i64 x1, .int .i64 x2, .slice xra xrn xrc, .slice xta xtn xtc] 82)) := (Below.refl _ _).alloc (Nat.le_refl _) _
      have HWA := Lib.hid (HW.out.below hal)
      have HKA := Lib.hid (HK.out.trans (Keep1.of hal))
      have HRA := heap_alloc_last wr (.cells #[.string ⟨x0.toArray⟩, .int .i64 x1, .int .i64 x2, .slice xra xrn xrc, .slice xta xtn xtc] 82)
      clear hal HW HK q0 q1 q2 q3 q4
      generalize wr.alloc (.cells #[.string ⟨x0.toArray⟩, .int .i64 x1, .int .i64 x2, .slice xra xrn xrc, .slice xta xtn xtc] 82) = WA at *
      generalize wr.heap.size = gb at *
      have c0 := row_cell HRA 0 rfl
      have c1 := row_cell HRA 1 rfl
      have c2 := row_cell HRA 2 rfl
      have c3 := row_cell HRA 3 rfl
      have c4 := row_cell HRA 4 rfl
      clear HRA
      unfold CW.vals at HV
      simp only at HV
      go_wp2_with fail
      refine (HV.out WA HWA.out HKA.out).mono ?_
      rintro e' W2 ⟨rfl, hw2, hk2⟩
      have HW2 := Lib.hid hw2
      have HK2 := Lib.hid (HKA.out.trans hk2)
      clear hw2 hk2
      go_wp2_with fail
      go_roundg (n - (j + 1))
      case measure => omega
      case rel => exact ⟨j + 1, by omega, rfl, by go_num, Lib.hid (by rw [HFT.out, HAT.out]; exact HW2.out), HK2⟩
    · obtain rfl : j = n := by omega
      have HLE := Lib.hid (show l.take j = l by rw [List.take_of_length_le (by rw [HLn.out]; exact Nat.le_refl _)])
      rw [HLE.out] at HW
      go_wp2_with fail
      go_end0
      exact ⟨rfl, by rw [HRB.out, HRO.out]; exact HW.out, HK.out⟩
end Go.Proofs.Ytbcldlbmbdfejaa
