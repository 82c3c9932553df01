/- image: the writer's put. No condition. -/
import Derived.Test.YtbcldlbmbdfejaaImgLink2
import Derived.Test.YtbcldlbmbdfejaaBlk2
namespace Go.Proofs.Ytbcldlbmbdfejaa
open Go.ChangeShapes Go.WideShapes Go.ChangeAt Go.RowKit
/-- An int as a value. -/
def encZ (v : Int) : Value := .int .i64 v
/-- Numbers' bytes. -/
def putsB (l : List Int) (n : Nat) : List UInt8 := l.flatMap fun v => putB (u64V v) n
def badB (l : List Int) (n : Nat) : Bool := l.any fun v => !roomB v n
theorem putsB_len (l : List Int) (n : Nat) : (putsB l n).length = l.length * n := by
  unfold putsB
  induction l with
  | nil => simp
  | cons x l ih => rw [List.flatMap_cons, List.length_append, ih, putB_length, List.length_cons, Nat.add_mul]; omega
theorem putsB_take (l : List Int) (n j : Nat) (v : Int) (h : l[j]? = some v) : putsB (l.take (j + 1)) n = putsB (l.take j) n ++ putB (u64V v) n := by
  obtain ⟨hj, he⟩ := List.getElem?_eq_some_iff.1 h
  unfold putsB
  rw [List.take_succ_eq_append_getElem hj, List.flatMap_append, he]
  simp
theorem badB_take (l : List Int) (n j : Nat) (v : Int) (h : l[j]? = some v) : badB (l.take (j + 1)) n = (badB (l.take j) n || !roomB v n) := by
  obtain ⟨hj, he⟩ := List.getElem?_eq_some_iff.1 h
  unfold badB
  rw [List.take_succ_eq_append_getElem hj, List.any_append, he]
  simp
/-- A writer in block g. -/
def WrS (w : World) (g : Nat) (bs : List UInt8) (odd : Bool) : Prop :=
  ∃ a n cap, Blk2 w g (.slice a n cap) (.bool odd) 65 ∧ Sl encB w a n bs ∧ n ≤ cap ∧ Off1 a n g ∧ w.ownsRow (g + 1) 5 1 (.slice a n cap) n (bs.map encB)
theorem WrS.below {w w' : World} {g : Nat} {bs : List UInt8} {odd : Bool} (h : WrS w g bs odd) (hb : Below w.heap.size w w') : WrS w' g bs odd := by
  obtain ⟨a, n, cap, h1, h2, h3, h4, h5⟩ := h
  exact ⟨a, n, cap, h1.below hb, h2.below hb, h3, h4, own_below h5 hb⟩
theorem WrS.lt {w : World} {g : Nat} {bs : List UInt8} {odd : Bool} (h : WrS w g bs odd) : g < w.heap.size := by
  obtain ⟨a, n, cap, h1, h2, h3, h4⟩ := h
  exact h1.box.lt
theorem Sl.getZ {w : World} {a : Option Addr} {n : Nat} {l : List Int} (h : Sl encZ w a n l) (j : Nat) (hj : j < n) : ∃ b off v, a = some ⟨b, off, none⟩ ∧ b < w.heap.size ∧ l[j]? = some v ∧ w.cell? ⟨b, off + j, none⟩ = some (.int .i64 v) := by
  obtain ⟨b, off, ha, hlt, hc⟩ := h.2 (by omega)
  have hl : j < l.length := by rw [h.1]; exact hj
  exact ⟨b, off, l[j], ha, hlt, List.getElem?_eq_getElem hl, hc j hl⟩
/-- A writer whose row is its call's own. -/
def WrO (own : Prop) (B : Nat) (w : World) (g : Nat) (bs : List UInt8) (odd : Bool) : Prop :=
  ∃ a n cap, Blk2 w g (.slice a n cap) (.bool odd) 65 ∧ Sl encB w a n bs ∧ n ≤ cap ∧ Off1 a n g ∧ (own → w.ownsRow B 5 1 (.slice a n cap) n (bs.map encB)) ∧ w.ownsRow (g + 1) 5 1 (.slice a n cap) n (bs.map encB)
theorem WrO.s {own : Prop} {B : Nat} {w : World} {g : Nat} {bs : List UInt8} {odd : Bool} (h : WrO own B w g bs odd) : WrS w g bs odd := by
  obtain ⟨a, n, cap, h1, h2, h3, h4, _, h6⟩ := h
  exact ⟨a, n, cap, h1, h2, h3, h4, h6⟩
theorem WrS.o {own : Prop} {B : Nat} {w : World} {g : Nat} {bs : List UInt8} {odd : Bool} (h : WrS w g bs odd) (ho : ¬ own) : WrO own B w g bs odd := by
  obtain ⟨a, n, cap, h1, h2, h3, h4, h5⟩ := h
  exact ⟨a, n, cap, h1, h2, h3, h4, fun h => absurd h ho, h5⟩
def PutsRetO (own : Prop) (g : Nat) (bs : List UInt8) (odd : Bool) (w : World) (e : Ending) (w' : World) : Prop := e = .returned (.tuple #[]) ∧ WrO own w.heap.size w' g bs odd ∧ Keep1 g w w'
/-- What put leaves. -/
def PutsRet (g : Nat) (bs : List UInt8) (odd : Bool) (w : World) (e : Ending) (w' : World) : Prop := e = .returned (.tuple #[]) ∧ WrS w' g bs odd ∧ Keep1 g w w'
set_option maxRecDepth 100000 in
set_option maxHeartbeats 8000000 in
theorem wput_own (w : World) (g : Nat) (bs : List UInt8) (odd : Bool) (h : WrS w g bs odd) (nb : Nat) (hnb : nb = 1 ∨ nb = 2 ∨ nb = 4) (a : Option Addr) (n cap : Nat) (l : List Int) (hs : Sl encZ w a n l) (ho : Off1 a n g) (hz : ∀ v ∈ l, IntR v) (hlen : bs.length + n * 4 ≤ 1048576) :
    Calls Try.prog 23 #[.pointer (some ⟨g, 0, none⟩), .int .i64 nb, .slice a n cap] w (PutsRetO (0 < n) g (bs ++ putsB l nb) (odd || badB l nb) w) := by
  have HGL := Lib.hid h.lt
  have HS := Lib.hid hs
  have HLn := Lib.hid hs.1
  have HZ := Lib.hid hz
  have HO := Lib.hid ho
  have HW0 := Lib.hid h
  have hnb4 : 1 ≤ nb ∧ nb ≤ 4 := by omega
  have HNB := Lib.hid hnb
  clear hs hz ho h hnb
  go_enter Try.func23, Try.ntmps23
  go_wp2_with fail
  go_loopg [10] n (fun gn i wr => ∃ j : Nat, j ≤ n ∧ gn = n - j ∧ i = .int .i64 j ∧ Hid (WrO (0 < j) w.heap.size wr g (bs ++ putsB (l.take j) nb) (odd || badB (l.take j) nb)) ∧ Hid (Keep1 g w wr))
  case atStart => exact ⟨0, by omega, by omega, by go_num, Lib.hid (by rw [show bs ++ putsB (l.take 0) nb = bs by simp [putsB], show (odd || badB (l.take 0) nb) = odd by simp [badB]]; exact HW0.out.o (by omega)), Lib.hid (Keep1.refl _ _)⟩
  case round =>
    obtain ⟨j, hj, rfl, rfl, HW, HK⟩ := hrel
    by_cases hlt : j < n
    · obtain ⟨b, off, v, rfl, hbl, hv, q⟩ := (HS.out.keep1 HK.out HO.out).getZ j hlt
      have hvr := HZ.out v (List.mem_of_getElem? hv)
      have HPT := Lib.hid (show bs ++ putsB (l.take (j + 1)) nb = bs ++ putsB (l.take j) nb ++ putB (u64V v) nb by rw [putsB_take l nb j v hv, List.append_assoc])
      have HBT := Lib.hid (show (odd || badB (l.take (j + 1)) nb) = (odd || badB (l.take j) nb || !roomB v nb) by rw [badB_take l nb j v hv, Bool.or_assoc])
      have hlen2 : (bs ++ putsB (l.take j) nb).length ≤ 1048572 := by
        rw [List.length_append, putsB_len, List.length_take]
        have h1 : min j l.length ≤ n - 1 := by omega
        have h2 : min j l.length * nb ≤ (n - 1) * 4 := Nat.mul_le_mul h1 hnb4.2
        omega
      have HFI := Lib.hid (fun w' => fits_any w' v nb hvr (by have := HNB.out; omega))
      have hux := u64V_wrap v
      have HLX := Lib.hid (u64V_lt v)
      obtain ⟨a2, n2, c2, hk2, hs2, hc2, ho2, -⟩ := HW.out
      have HK2 := Lib.hid hk2
      have HS2 := Lib.hid hs2
      have HO2 := Lib.hid ho2
      have HL2 := Lib.hid hs2.1
      rw [hs2.1] at hlen2
      have HQ : Hid (v ∈ l) := Lib.hid (List.mem_of_getElem? hv)
      clear hk2 hs2 ho2 hv HW
      generalize bs ++ putsB (l.take j) nb = e at *
      generalize (odd || badB (l.take j) nb) = od at *
      generalize roomB v nb = fv at *
      generalize u64V v = uv at *
      obtain ⟨c0, c1, f0, f1, lt2⟩ := HK2.out.box
      cases od with
      | true =>
        go_upto_region 4 with fail
        have HK3 := Lib.hid (HK2.out.set1 (v := .bool true))
        have HKK := Lib.hid (HK.out.set 1 (.bool true))
        have HS3 := Lib.hid (HS2.out.keep1 ((Keep1.refl g wr).set 1 (.bool true)) HO2.out)
        clear HK2 HK HS2 c0 c1 f0 f1 lt2
        generalize wr.setCell ⟨g, 1, none⟩ (.bool true) = W3 at *
        obtain ⟨c0, c1, f0, f1, lt3⟩ := HK3.out.box
        go_wp2_with fail
        refine (Put_any W3 a2 n2 c2 e uv nb HS3.out (by omega) hc2 HLX.out hnb4.1 (by omega)).mono ?_
        rintro e' W4 ⟨v4, m4, rfl, ho4, hb4⟩
        obtain ⟨a4, c4, rfl, hs4, hc4⟩ := Sl.ofOwn ho4
        have HN4 := Lib.hid (own_mono ho4 HKK.out.size)
        have HS4 := Lib.hid hs4
        have HO4 := Lib.hid (Off1.own ho4 lt3)
        have HK4 := Lib.hid (HK3.out.below hb4)
        have HKK4 := Lib.hid (HKK.out.trans (Keep1.of hb4))
        clear HK3 HKK HS3 ho4 hb4 hs4 c0 c1 f0 f1 lt3
        obtain ⟨c0, c1, f0, f1, lt3⟩ := HK4.out.box
        go_wp2_with fail
        go_roundg (n - (j + 1))
        case measure => omega
        case rel =>
          refine ⟨j + 1, by omega, rfl, by go_num, Lib.hid ?_, Lib.hid (HKK4.out.set 0 _)⟩
          rw [HPT.out, HBT.out]
          exact ⟨a4, m4, c4, by simpa using HK4.out.set0, HS4.out.keep1 ((Keep1.refl g W4).set 0 _) HO4.out, hc4, HO4.out, fun _ => own_keep1 HN4.out ((Keep1.refl g W4).set 0 _) HGL.out, own_mono (own_keep1 HN4.out ((Keep1.refl g W4).set 0 _) HGL.out) HGL.out⟩
      | false =>
        go_wp2_with fail
        refine (HFI.out wr).mono ?_
        rintro e' w' ⟨rfl, rfl⟩
        cases fv with
        | true =>
          go_upto_region 4 with fail
          have HK3 := Lib.hid (HK2.out.set1 (v := .bool false))
          have HKK := Lib.hid (HK.out.set 1 (.bool false))
          have HS3 := Lib.hid (HS2.out.keep1 ((Keep1.refl g wr).set 1 (.bool false)) HO2.out)
          clear HK2 HK HS2 c0 c1 f0 f1 lt2
          generalize wr.setCell ⟨g, 1, none⟩ (.bool false) = W3 at *
          obtain ⟨c0, c1, f0, f1, lt3⟩ := HK3.out.box
          go_wp2_with fail
          refine (Put_any W3 a2 n2 c2 e uv nb HS3.out (by omega) hc2 HLX.out hnb4.1 (by omega)).mono ?_
          rintro e' W4 ⟨v4, m4, rfl, ho4, hb4⟩
          obtain ⟨a4, c4, rfl, hs4, hc4⟩ := Sl.ofOwn ho4
          have HN4 := Lib.hid (own_mono ho4 HKK.out.size)
          have HS4 := Lib.hid hs4
          have HO4 := Lib.hid (Off1.own ho4 lt3)
          have HK4 := Lib.hid (HK3.out.below hb4)
          have HKK4 := Lib.hid (HKK.out.trans (Keep1.of hb4))
          clear HK3 HKK HS3 ho4 hb4 hs4 c0 c1 f0 f1 lt3
          obtain ⟨c0, c1, f0, f1, lt3⟩ := HK4.out.box
          go_wp2_with fail
          go_roundg (n - (j + 1))
          case measure => omega
          case rel =>
            refine ⟨j + 1, by omega, rfl, by go_num, Lib.hid ?_, Lib.hid (HKK4.out.set 0 _)⟩
            rw [HPT.out, HBT.out]
            exact ⟨a4, m4, c4, by simpa using HK4.out.set0, HS4.out.keep1 ((Keep1.refl g W4).set 0 _) HO4.out, hc4, HO4.out, fun _ => own_keep1 HN4.out ((Keep1.refl g W4).set 0 _) HGL.out, own_mono (own_keep1 HN4.out ((Keep1.refl g W4).set 0 _) HGL.out) HGL.out⟩
        | false =>
          go_upto_region 4 with fail
          have HK3 := Lib.hid (HK2.out.set1 (v := .bool true))
          have HKK := Lib.hid (HK.out.set 1 (.bool true))
          have HS3 := Lib.hid (HS2.out.keep1 ((Keep1.refl g wr).set 1 (.bool true)) HO2.out)
          clear HK2 HK HS2 c0 c1 f0 f1 lt2
          generalize wr.setCell ⟨g, 1, none⟩ (.bool true) = W3 at *
          obtain ⟨c0, c1, f0, f1, lt3⟩ := HK3.out.box
          go_wp2_with fail
          refine (Put_any W3 a2 n2 c2 e uv nb HS3.out (by omega) hc2 HLX.out hnb4.1 (by omega)).mono ?_
          rintro e' W4 ⟨v4, m4, rfl, ho4, hb4⟩
          obtain ⟨a4, c4, rfl, hs4, hc4⟩ := Sl.ofOwn ho4
          have HN4 := Lib.hid (own_mono ho4 HKK.out.size)
          have HS4 := Lib.hid hs4
          have HO4 := Lib.hid (Off1.own ho4 lt3)
          have HK4 := Lib.hid (HK3.out.below hb4)
          have HKK4 := Lib.hid (HKK.out.trans (Keep1.of hb4))
          clear HK3 HKK HS3 ho4 hb4 hs4 c0 c1 f0 f1 lt3
          obtain ⟨c0, c1, f0, f1, lt3⟩ := HK4.out.box
          go_wp2_with fail
          go_roundg (n - (j + 1))
          case measure => omega
          case rel =>
            refine ⟨j + 1, by omega, rfl, by go_num, Lib.hid ?_, Lib.hid (HKK4.out.set 0 _)⟩
            rw [HPT.out, HBT.out]
            exact ⟨a4, m4, c4, by simpa using HK4.out.set0, HS4.out.keep1 ((Keep1.refl g W4).set 0 _) HO4.out, hc4, HO4.out, fun _ => own_keep1 HN4.out ((Keep1.refl g W4).set 0 _) HGL.out, own_mono (own_keep1 HN4.out ((Keep1.refl g W4).set 0 _) HGL.out) HGL.out⟩
    · obtain rfl : j = n := by omega
      have HLE := Lib.hid (show l.take j = l by rw [List.take_of_length_le (by rw [HLn.out]; exact Nat.le_refl _)])
      rw [HLE.out] at HW
      go_wp2_with fail
      go_end0
      exact ⟨rfl, HW.out, HK.out⟩
theorem wput_any (w : World) (g : Nat) (bs : List UInt8) (odd : Bool) (h : WrS w g bs odd) (nb : Nat) (hnb : nb = 1 ∨ nb = 2 ∨ nb = 4) (a : Option Addr) (n cap : Nat) (l : List Int) (hs : Sl encZ w a n l) (ho : Off1 a n g) (hz : ∀ v ∈ l, IntR v) (hlen : bs.length + n * 4 ≤ 1048576) :
    Calls Try.prog 23 #[.pointer (some ⟨g, 0, none⟩), .int .i64 nb, .slice a n cap] w (PutsRet g (bs ++ putsB l nb) (odd || badB l nb) w) :=
  (wput_own w g bs odd h nb hnb a n cap l hs ho hz hlen).mono fun _ _ h => ⟨h.1, h.2.1.s, h.2.2⟩
end Go.Proofs.Ytbcldlbmbdfejaa
