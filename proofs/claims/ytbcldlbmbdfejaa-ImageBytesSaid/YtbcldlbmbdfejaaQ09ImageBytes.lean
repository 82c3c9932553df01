/- image: the writer's trap, method, class. No condition. -/
import Derived.Test.YtbcldlbmbdfejaaQ08ImageBytes
import Derived.Test.YtbcldlbmbdfejaaQ00ImageBytes
import Derived.Lib.SmallJoins
import Derived.OpenShut
import Derived.Test.YtbcldlbmbdfejaaQ01ImageBytes
namespace Go.Proofs.Ytbcldlbmbdfejaa
open Go.ChangeShapes Go.WideShapes Go.ChangeAt Go.RowKit
theorem wput_lit (w : World) (g : Nat) (bs : List UInt8) (odd : Bool) (h : WrS w g bs odd) (nb : Nat) (hnb : nb = 1 ∨ nb = 2 ∨ nb = 4) (l : List Int) (hz : ∀ v ∈ l, IntR v) (hlen : bs.length + l.length * 4 ≤ 1048576) (C : Array Value) (hC : C = (l.map encZ).toArray) (n : Nat) (hn : l.length = n) :
    Calls Try.prog 23 #[.pointer (some ⟨g, 0, none⟩), .int .i64 nb, .slice (some ⟨w.heap.size, 0, none⟩) n n] (w.alloc (.cells C 3)) (PutsRet g (bs ++ putsB l nb) (odd || badB l nb) w) := by
  have hlt := h.lt
  have hal : Below w.heap.size w (w.alloc (.cells C 3)) := (Below.refl _ _).alloc (Nat.le_refl _) _
  refine (wput_any _ g bs odd (h.below hal) nb hnb (some ⟨w.heap.size, 0, none⟩) n n l (Sl.lit (heap_alloc_last w _) hC hn) (Off1.new (by omega)) hz (by rw [← hn]; exact hlen)).mono ?_
  rintro e w' ⟨rfl, h1, h2⟩
  exact ⟨rfl, h1, (Keep1.of hal).trans h2⟩
theorem wnext_lit (w : World) (g : Nat) (bs : List UInt8) (odd : Bool) (h : WrS w g bs odd) (l : List Int) (hz : ∀ v ∈ l, IntR v) (hlen : bs.length + l.length * 4 ≤ 1048576) (C : Array Value) (hC : C = (l.map encZ).toArray) (n : Nat) (hn : l.length = n) :
    Calls Try.prog 63 #[.pointer (some ⟨g, 0, none⟩), .slice (some ⟨w.heap.size, 0, none⟩) n n] (w.alloc (.cells C 3)) (PutsRet g (bs ++ nextsB l) (odd || badN l) w) := by
  have hlt := h.lt
  have hal : Below w.heap.size w (w.alloc (.cells C 3)) := (Below.refl _ _).alloc (Nat.le_refl _) _
  refine (wnext_any _ g bs odd (h.below hal) (some ⟨w.heap.size, 0, none⟩) n n l (Sl.lit (heap_alloc_last w _) hC hn) (Off1.new (by omega)) hz (by rw [← hn]; exact hlen)).mono ?_
  rintro e w' ⟨rfl, h1, h2⟩
  exact ⟨rfl, h1, (Keep1.of hal).trans h2⟩
def TW.bytes (t : TW) : List UInt8 := putsB [t.frm, t.upto, t.pos] 2 ++ nextsB [t.cls]
def TW.odd (t : TW) : Bool := badB [t.frm, t.upto, t.pos] 2 || badN [t.cls]
theorem TW.bytes_len (t : TW) : t.bytes.length = 8 := by unfold TW.bytes; rw [List.length_append, putsB_len, nextsB_len]; rfl
theorem r_one {v : Int} (h : IntR v) : ∀ u ∈ [v], IntR u := fun u hu => by rw [List.mem_singleton.1 hu]; exact h
theorem r_two {a b : Int} (ha : IntR a) (hb : IntR b) : ∀ u ∈ [a, b], IntR u := fun u hu => by
  rcases List.mem_cons.1 hu with rfl | h
  · exact ha
  · exact r_one hb u h
theorem r_three {a b c : Int} (ha : IntR a) (hb : IntR b) (hc : IntR c) : ∀ u ∈ [a, b, c], IntR u := fun u hu => by
  rcases List.mem_cons.1 hu with rfl | h
  · exact ha
  · exact r_two hb hc u h
set_option maxRecDepth 100000 in
set_option maxHeartbeats 8000000 in
theorem wtrap_any (w : World) (g : Nat) (bs : List UInt8) (odd : Bool) (h : WrS w g bs odd) (t : TW) (ht : t.right) (hlen : bs.length + 16 ≤ 1048576) :
    Calls Try.prog 25 #[.pointer (some ⟨g, 0, none⟩), .agg t.vals.toArray] w (PutsRet g (bs ++ t.bytes) (odd || t.odd) w) := by
  obtain ⟨x0, x1, x2, x3⟩ := t
  obtain ⟨r0, r1, r2, r3⟩ := ht
  simp only at r0 r1 r2 r3
  unfold TW.vals
  have HBY := Lib.hid (show bs ++ TW.bytes ⟨x0, x1, x2, x3⟩ = bs ++ putsB [x0, x1, x2] 2 ++ nextsB [x3] by unfold TW.bytes; rw [List.append_assoc])
  have HOD := Lib.hid (show (odd || TW.odd ⟨x0, x1, x2, x3⟩) = (odd || badB [x0, x1, x2] 2 || badN [x3]) by unfold TW.odd; rw [Bool.or_assoc])
  have HL1 := Lib.hid (show (bs ++ putsB [x0, x1, x2] 2).length = bs.length + 6 by rw [List.length_append, putsB_len]; rfl)
  have hlt := h.lt
  have hal : Below w.heap.size w (w.alloc (.cells #[.int .i64 x0, .int .i64 x1, .int .i64 x2, .int .i64 x3] 71)) := (Below.refl _ _).alloc (Nat.le_refl _) _
  have HW := Lib.hid (h.below hal)
  have HK := Lib.hid (Keep1.of (g := g) hal)
  have HR := Lib.hid (heap_alloc_last w (.cells #[.int .i64 x0, .int .i64 x1, .int .i64 x2, .int .i64 x3] 71))
  have hne : w.heap.size ≠ g := by omega
  clear hal h
  go_enter Try.func25, Try.ntmps25
  go_upto_region 1 with fail
  generalize w.alloc (.cells #[.int .i64 x0, .int .i64 x1, .int .i64 x2, .int .i64 x3] 71) = W1 at *
  have c0 := row_cell HR.out 0 rfl
  have c1 := row_cell HR.out 1 rfl
  have c2 := row_cell HR.out 2 rfl
  have HP := Lib.hid (wput_lit W1 g bs odd HW.out 2 (by omega) [x0, x1, x2] (r_three r0 r1 r2) (by show bs.length + 3 * 4 ≤ 1048576; omega) #[.int .i64 x0, .int .i64 x1, .int .i64 x2] rfl 3 rfl)
  go_wp2_with fail
  refine HP.out.mono ?_
  rintro e' W2 ⟨rfl, hw2, hk2⟩
  have HP2 := Lib.hid (wnext_lit W2 g _ _ hw2 [x3] (r_one r3) (by rw [HL1.out]; show bs.length + 6 + 1 * 4 ≤ 1048576; omega) #[.int .i64 x3] rfl 1 rfl)
  have HR2 := Lib.hid (hk2.blk HR.out hne)
  have HK2 := Lib.hid (HK.out.trans hk2)
  clear hw2 hk2 HP c0 c1 c2
  have c3 := row_cell HR2.out 3 rfl
  go_wp2_with fail
  refine HP2.out.mono ?_
  rintro e' W3 ⟨rfl, hw3, hk3⟩
  have HW3 := Lib.hid hw3
  have HK3 := Lib.hid (HK2.out.trans hk3)
  clear hw3 hk3
  go_wp2_with fail
  go_end0
  exact ⟨rfl, by rw [HBY.out, HOD.out]; exact HW3.out, HK3.out⟩
def statI (b : Bool) : Int := if b then 1 else 0
def MW.bytes (m : MW) : List UInt8 := putB (u64V m.cls) 2 ++ textB m.name 1 ++ textB m.desc 1 ++ putB (u64V (statI m.stat)) 1 ++ nextsB [m.slot, m.nat]
def MW.odd (m : MW) : Bool := !roomB m.cls 2 || !roomB m.name.length 1 || !roomB m.desc.length 1 || !roomB (statI m.stat) 1 || badN [m.slot, m.nat]
theorem textB_len (s : List UInt8) (n : Nat) : (textB s n).length = n + s.length := by unfold textB; rw [List.length_append, putB_length]
theorem MW.bytes_len (m : MW) : m.bytes.length = m.name.length + m.desc.length + 9 := by unfold MW.bytes; simp only [List.length_append, putB_length, textB_len, nextsB_len, List.length_cons, List.length_nil]; omega
theorem or3 (a b c : Bool) : (a || (b || c)) = (a || b || c) := by rw [Bool.or_assoc]
set_option maxRecDepth 100000 in
set_option maxHeartbeats 8000000 in
theorem wmethod_any (w : World) (g : Nat) (bs : List UInt8) (odd : Bool) (h : WrS w g bs odd) (m : MW) (hm : m.right) (hlen : bs.length + m.bytes.length + 8 ≤ 1048576) :
    Calls Try.prog 56 #[.pointer (some ⟨g, 0, none⟩), .agg m.vals.toArray] w (PutsRet g (bs ++ m.bytes) (odd || m.odd) w) := by
  rw [MW.bytes_len] at hlen
  obtain ⟨x0, x1, x2, x3, x4, x5⟩ := m
  obtain ⟨r0, r4, r5⟩ := hm
  simp only at r0 r4 r5 hlen
  unfold MW.vals
  have HBY := Lib.hid (show bs ++ MW.bytes ⟨x0, x1, x2, x3, x4, x5⟩ = bs ++ putB (u64V x0) 2 ++ textB x1 1 ++ textB x2 1 ++ putB (u64V (statI x3)) 1 ++ nextsB [x4, x5] by unfold MW.bytes; simp only [List.append_assoc])
  have HOD := Lib.hid (show (odd || MW.odd ⟨x0, x1, x2, x3, x4, x5⟩) = (odd || !roomB x0 2 || !roomB x1.length 1 || !roomB x2.length 1 || !roomB (statI x3) 1 || badN [x4, x5]) by unfold MW.odd; simp only [Bool.or_assoc])
  have HL1 := Lib.hid (show (bs ++ putB (u64V x0) 2).length = bs.length + 2 by simp only [List.length_append, putB_length])
  have HL2 := Lib.hid (show (bs ++ putB (u64V x0) 2 ++ textB x1 1).length = bs.length + 3 + x1.length by simp only [List.length_append, putB_length, textB_len]; omega)
  have HL3 := Lib.hid (show (bs ++ putB (u64V x0) 2 ++ textB x1 1 ++ textB x2 1).length = bs.length + 4 + x1.length + x2.length by simp only [List.length_append, putB_length, textB_len]; omega)
  have HL4 := Lib.hid (show (bs ++ putB (u64V x0) 2 ++ textB x1 1 ++ textB x2 1 ++ putB (u64V (statI x3)) 1).length = bs.length + 5 + x1.length + x2.length by simp only [List.length_append, putB_length, textB_len]; omega)
  have hlt := h.lt
  have hal : Below w.heap.size w (w.alloc (.cells #[.int .i64 x0, .string ⟨x1.toArray⟩, .string ⟨x2.toArray⟩, .bool x3, .int .i64 x4, .int .i64 x5] 87)) := (Below.refl _ _).alloc (Nat.le_refl _) _
  have HW := Lib.hid (h.below hal)
  have HK := Lib.hid (Keep1.of (g := g) hal)
  have HR := Lib.hid (heap_alloc_last w (.cells #[.int .i64 x0, .string ⟨x1.toArray⟩, .string ⟨x2.toArray⟩, .bool x3, .int .i64 x4, .int .i64 x5] 87))
  have hne : w.heap.size ≠ g := by omega
  clear hal h
  go_enter Try.func56, Try.ntmps56
  go_upto_region 1 with fail
  generalize w.alloc (.cells #[.int .i64 x0, .string ⟨x1.toArray⟩, .string ⟨x2.toArray⟩, .bool x3, .int .i64 x4, .int .i64 x5] 87) = W1 at *
  have c0 := row_cell HR.out 0 rfl
  have HP := Lib.hid (wput_one W1 g bs odd HW.out 2 (by omega) x0 r0 (by omega))
  go_wp2_with fail
  refine HP.out.mono ?_
  rintro e' W2 ⟨rfl, hw2, hk2⟩
  have HP2 := Lib.hid (wtext_any W2 g _ _ hw2 1 (by omega) x1 (by rw [HL1.out]; omega))
  have HR2 := Lib.hid (hk2.blk HR.out hne)
  have HK2 := Lib.hid (HK.out.trans hk2)
  clear hw2 hk2 HP c0
  have c1 := row_cell HR2.out 1 rfl
  go_wp2_with fail
  refine HP2.out.mono ?_
  rintro e' W3 ⟨rfl, hw3, hk3⟩
  have HP3 := Lib.hid (wtext_any W3 g _ _ hw3 1 (by omega) x2 (by rw [HL2.out]; omega))
  have HR3 := Lib.hid (hk3.blk HR2.out hne)
  have HK3 := Lib.hid (HK2.out.trans hk3)
  clear hw3 hk3 HP2 c1
  have c2 := row_cell HR3.out 2 rfl
  go_wp2_with fail
  refine HP3.out.mono ?_
  rintro e' W4 ⟨rfl, hw4, hk4⟩
  have HP4 := Lib.hid (wput_one W4 g _ _ hw4 1 (by omega) (statI x3) (by unfold statI IntR; split <;> omega) (by rw [HL3.out]; omega))
  have HR4 := Lib.hid (hk4.blk HR3.out hne)
  have HK4 := Lib.hid (HK3.out.trans hk4)
  clear hw4 hk4 HP3 c2
  have c3 := row_cell HR4.out 3 rfl
  cases x3
  all_goals
    unfold statI at HP4
    go_wp2_with fail
    refine HP4.out.mono ?_
    rintro e' W5 ⟨rfl, hw5, hk5⟩
    have HP5 := Lib.hid (wnext_lit W5 g _ _ hw5 [x4, x5] (r_two r4 r5) (by show _ + 2 * 4 ≤ 1048576; have := HL4.out; unfold statI at this; simp only [List.length_append, putB_length, textB_len]; omega) #[.int .i64 x4, .int .i64 x5] rfl 2 rfl)
    have HR5 := Lib.hid (hk5.blk HR4.out hne)
    have HK5 := Lib.hid (HK4.out.trans hk5)
    clear hw5 hk5 HP4 c3
    have c4 := row_cell HR5.out 4 rfl
    have c5 := row_cell HR5.out 5 rfl
    go_wp2_with fail
    refine HP5.out.mono ?_
    rintro e' W6 ⟨rfl, hw6, hk6⟩
    have HW6 := Lib.hid hw6
    have HK6 := Lib.hid (HK5.out.trans hk6)
    clear hw6 hk6
    go_wp2_with fail
    go_end0
    exact ⟨rfl, by rw [HBY.out, HOD.out]; exact HW6.out, HK6.out⟩
def intsB (l : List Int) : List UInt8 := rowB (fun v => putB (u64V v) 2) l
def intsO (l : List Int) : Bool := rowO (fun v => !roomB v 2) l
theorem intsB_len (l : List Int) : (intsB l).length = 2 + l.length * 2 := by
  unfold intsB rowB
  rw [List.length_append, putB_length]
  have h := putsB_len l 2
  unfold putsB at h
  rw [h]
theorem wints_any (w : World) (g : Nat) (bs : List UInt8) (odd : Bool) (h : WrS w g bs odd) (a : Option Addr) (n cap : Nat) (l : List Int) (hs : Sl encZ w a n l) (ho : Off1 a n g) (hz : ∀ v ∈ l, IntR v) (hlen : bs.length + (intsB l).length + 8 ≤ 1048576) :
    Calls Try.prog 57 #[.pointer (some ⟨g, 0, none⟩), .slice a n cap, .func (.func 58) #[.pointer (some ⟨g, 0, none⟩)] #[]] w (PutsRet g (bs ++ intsB l) (odd || intsO l) w) := by
  have h1 := intsB_len l
  refine wmany_int w g bs odd h a n cap l hs ho (by have := hs.1; omega) (fun v => putB (u64V v) 2) (fun v => !roomB v 2) ?_ (fun v hv W bs' od' h' _ hl => ?_)
  · unfold intsB rowB at h1 hlen
    rw [List.length_append, putB_length] at h1 hlen
    omega
  · rw [putB_length] at hl
    exact wtwo_any W g bs' od' h' v (hz v hv) (by omega)
def CW.bytes (c : CW) : List UInt8 := textB c.name 1 ++ nextsB [c.sup] ++ putB (u64V c.cells) 2 ++ intsB c.refs ++ intsB c.table
def CW.odd (c : CW) : Bool := !roomB c.name.length 1 || badN [c.sup] || !roomB c.cells 2 || intsO c.refs || intsO c.table
theorem CW.bytes_len (c : CW) : c.bytes.length = 5 + c.name.length + (intsB c.refs).length + (intsB c.table).length := by unfold CW.bytes; simp only [List.length_append, putB_length, textB_len, nextsB_len, List.length_cons, List.length_nil]; omega
set_option maxRecDepth 100000 in
set_option maxHeartbeats 8000000 in
theorem wclass_any (w : World) (g : Nat) (bs : List UInt8) (odd : Bool) (h : WrS w g bs odd) (c : CW) (hc : c.right) (hr : c.Rd w) (o1 : Off1 c.ra c.rn g) (o2 : Off1 c.ta c.tn g) (hlen : bs.length + c.bytes.length + 8 ≤ 1048576) :
    Calls Try.prog 54 #[.pointer (some ⟨g, 0, none⟩), .agg c.vals.toArray] w (PutsRet g (bs ++ c.bytes) (odd || c.odd) w) := by
  rw [CW.bytes_len] at hlen
  obtain ⟨x0, x1, x2, xra, xrn, xrc, xr, xta, xtn, xtc, xt⟩ := c
  obtain ⟨r1, r2, rr, rt⟩ := hc
  obtain ⟨s1, s2, _, _⟩ := hr
  simp only at r1 r2 rr rt s1 s2 o1 o2 hlen
  unfold CW.vals
  have HBY := Lib.hid (show bs ++ CW.bytes ⟨x0, x1, x2, xra, xrn, xrc, xr, xta, xtn, xtc, xt⟩ = bs ++ textB x0 1 ++ nextsB [x1] ++ putB (u64V x2) 2 ++ intsB xr ++ intsB xt by unfold CW.bytes; simp only [List.append_assoc])
  have HOD := Lib.hid (show (odd || CW.odd ⟨x0, x1, x2, xra, xrn, xrc, xr, xta, xtn, xtc, xt⟩) = (odd || !roomB x0.length 1 || badN [x1] || !roomB x2 2 || intsO xr || intsO xt) by unfold CW.odd; simp only [Bool.or_assoc])
  have HL1 := Lib.hid (show (bs ++ textB x0 1).length = bs.length + 1 + x0.length by simp only [List.length_append, textB_len]; omega)
  have HL2 := Lib.hid (show (bs ++ textB x0 1 ++ nextsB [x1]).length = bs.length + 3 + x0.length by simp only [List.length_append, textB_len, nextsB_len, List.length_cons, List.length_nil]; omega)
  have HL3 := Lib.hid (show (bs ++ textB x0 1 ++ nextsB [x1] ++ putB (u64V x2) 2).length = bs.length + 5 + x0.length by simp only [List.length_append, textB_len, nextsB_len, List.length_cons, List.length_nil, putB_length]; omega)
  have HL4 := Lib.hid (show (bs ++ textB x0 1 ++ nextsB [x1] ++ putB (u64V x2) 2 ++ intsB xr).length = bs.length + 5 + x0.length + (intsB xr).length by simp only [List.length_append, textB_len, nextsB_len, List.length_cons, List.length_nil, putB_length]; omega)
  have hlt := h.lt
  have hal : Below w.heap.size w (w.alloc (.cells #[.string ⟨x0.toArray⟩, .int .i64 x1, .int .i64 x2, .slice xra xrn xrc, .slice xta xtn xtc] 82)) := (Below.refl _ _).alloc (Nat.le_refl _) _
  have HW := Lib.hid (h.below hal)
  have HK := Lib.hid (Keep1.of (g := g) hal)
  have HR := Lib.hid (heap_alloc_last w (.cells #[.string ⟨x0.toArray⟩, .int .i64 x1, .int .i64 x2, .slice xra xrn xrc, .slice xta xtn xtc] 82))
  have HS1 := Lib.hid s1
  have HS2 := Lib.hid s2
  have O1 := Lib.hid o1
  have O2 := Lib.hid o2
  have hne : w.heap.size ≠ g := by omega
  clear hal h s1 s2 o1 o2
  go_enter Try.func54, Try.ntmps54
  go_upto_region 1 with fail
  generalize w.alloc (.cells #[.string ⟨x0.toArray⟩, .int .i64 x1, .int .i64 x2, .slice xra xrn xrc, .slice xta xtn xtc] 82) = W1 at *
  have c0 := row_cell HR.out 0 rfl
  have HP := Lib.hid (wtext_any W1 g bs odd HW.out 1 (by omega) x0 (by omega))
  go_wp2_with fail
  refine HP.out.mono ?_
  rintro e' W2 ⟨rfl, hw2, hk2⟩
  have HP2 := Lib.hid (wnext_lit W2 g _ _ hw2 [x1] (r_one r1) (by rw [HL1.out]; show _ + 1 * 4 ≤ 1048576; omega) #[.int .i64 x1] rfl 1 rfl)
  have HR2 := Lib.hid (hk2.blk HR.out hne)
  have HK2 := Lib.hid (HK.out.trans hk2)
  clear hw2 hk2 HP c0
  have c1 := row_cell HR2.out 1 rfl
  go_wp2_with fail
  refine HP2.out.mono ?_
  rintro e' W3 ⟨rfl, hw3, hk3⟩
  have HP3 := Lib.hid (wput_one W3 g _ _ hw3 2 (by omega) x2 r2 (by rw [HL2.out]; omega))
  have HR3 := Lib.hid (hk3.blk HR2.out hne)
  have HK3 := Lib.hid (HK2.out.trans hk3)
  clear hw3 hk3 HP2 c1
  have c2 := row_cell HR3.out 2 rfl
  go_wp2_with fail
  refine HP3.out.mono ?_
  rintro e' W4 ⟨rfl, hw4, hk4⟩
  have HR4 := Lib.hid (hk4.blk HR3.out hne)
  have HK4 := Lib.hid (HK3.out.trans hk4)
  have HP4 := Lib.hid (wints_any W4 g _ _ hw4 xra xrn xrc xr (HS1.out.keep1 HK4.out O1.out) O1.out rr (by rw [HL3.out]; omega))
  clear hw4 hk4 HP3 c2
  have c3 := row_cell HR4.out 3 rfl
  go_wp2_with fail
  refine HP4.out.mono ?_
  rintro e' W5 ⟨rfl, hw5, hk5⟩
  have HR5 := Lib.hid (hk5.blk HR4.out hne)
  have HK5 := Lib.hid (HK4.out.trans hk5)
  have HP5 := Lib.hid (wints_any W5 g _ _ hw5 xta xtn xtc xt (HS2.out.keep1 HK5.out O2.out) O2.out rt (by rw [HL4.out]; omega))
  clear hw5 hk5 HP4 c3
  have c4 := row_cell HR5.out 4 rfl
  go_wp2_with fail
  refine HP5.out.mono ?_
  rintro e' W6 ⟨rfl, hw6, hk6⟩
  have HW6 := Lib.hid hw6
  have HK6 := Lib.hid (HK5.out.trans hk6)
  clear hw6 hk6
  go_wp2_with fail
  go_end0
  exact ⟨rfl, by rw [HBY.out, HOD.out]; exact HW6.out, HK6.out⟩
end Go.Proofs.Ytbcldlbmbdfejaa
/- image: the writer's tables. No condition. -/
namespace Go.Proofs.Ytbcldlbmbdfejaa
open Go.ChangeShapes Go.WideShapes Go.ChangeAt Go.RowKit
/-- An image, as it is laid. -/
structure XW where
  ca : Option Addr
  cn : Nat
  cc : Nat
  cs : List CW
  ma : Option Addr
  mn : Nat
  mc : Nat
  ms : List MW
  st : Int
  sa : Option Addr
  sn : Nat
  sc : Nat
  ss : List Int
  ya : Option Addr
  yn : Nat
  yc : Nat
  ys : List (List UInt8)
  xa : Option Addr
  xn : Nat
  xc : Nat
  xs : List (List UInt8)
  ka : Option Addr
  kn : Nat
  kc : Nat
  ks : List KW
  main : Int
def XW.vals (x : XW) : Array Value := #[.slice x.ca x.cn x.cc, .slice x.ma x.mn x.mc, .int .i64 x.st, .slice x.sa x.sn x.sc, .slice x.ya x.yn x.yc, .slice x.xa x.xn x.xc, .slice x.ka x.kn x.kc, .int .i64 x.main]
structure XW.Rd (w : World) (x : XW) : Prop where
  c : Ss 5 CW.vals w x.ca x.cn x.cs
  cr : ∀ c ∈ x.cs, c.Rd w
  m : Ss 6 MW.vals w x.ma x.mn x.ms
  s : Sl encZ w x.sa x.sn x.ss
  y : Sl encS w x.ya x.yn x.ys
  tx : Sl encS w x.xa x.xn x.xs
  k : Ss 6 KW.vals w x.ka x.kn x.ks
  kr : ∀ k ∈ x.ks, k.Rd w
structure XW.Right (x : XW) : Prop where
  st : IntR x.st
  main : IntR x.main
  c : ∀ c ∈ x.cs, c.right
  m : ∀ m ∈ x.ms, m.right
  s : ∀ v ∈ x.ss, IntR v
  k : ∀ k ∈ x.ks, k.right
  cn : x.cn ≤ 9223372036854775807
  mn : x.mn ≤ 9223372036854775807
  yn : x.yn ≤ 9223372036854775807
  xn : x.xn ≤ 9223372036854775807
  kn : x.kn ≤ 9223372036854775807
  tn : ∀ k ∈ x.ks, k.tn ≤ 9223372036854775807
def magicB : List UInt8 := [67, 73, 48, 49]
def tabB (x : XW) : List UInt8 := magicB ++ rowB CW.bytes x.cs ++ rowB MW.bytes x.ms ++ putB (u64V x.st) 2 ++ intsB x.ss ++ rowB (fun s => textB s 1) x.ys ++ rowB (fun s => textB s 2) x.xs ++ putB (u64V x.main) 2
def tabO (x : XW) : Bool := rowO CW.odd x.cs || rowO MW.odd x.ms || !roomB x.st 2 || intsO x.ss || rowO (fun s => !roomB s.length 1) x.ys || rowO (fun s => !roomB s.length 2) x.xs || !roomB x.main 2
theorem Off1.oldS {α : Type} {z : Nat} {enc : α → List Value} {w : World} {x : Option Addr} {n g : Nat} {xs : List α} (h : Ss z enc w x n xs) (hg : w.heap.size ≤ g) : Off1 x n g := by
  intro hn b off hx
  obtain ⟨b', off', hx', hlt, _⟩ := h.2 hn
  rw [hx] at hx'
  simp only [Option.some.injEq, Addr.mk.injEq] at hx'
  omega
theorem Keep1.cell {g k o : Nat} {w w' : World} (h : Keep1 g w w') (hk : k < w.heap.size) (hne : k ≠ g) : w'.cell? ⟨k, o, none⟩ = w.cell? ⟨k, o, none⟩ := by
  unfold World.cell?
  rw [h.block k hk hne]
theorem CW.Rd.below {w w' : World} {c : CW} (h : c.Rd w) (hb : Below w.heap.size w w') : c.Rd w' := ⟨h.r.below hb, h.t.below hb, h.rc, h.tc⟩
theorem CW.Rd.keep1 {g : Nat} {w w' : World} {c : CW} (h : c.Rd w) (k : Keep1 g w w') (o1 : Off1 c.ra c.rn g) (o2 : Off1 c.ta c.tn g) : c.Rd w' := ⟨h.r.keep1 k o1, h.t.keep1 k o2, h.rc, h.tc⟩
set_option maxRecDepth 100000 in
set_option maxHeartbeats 4000000 in
theorem wstr1_any (w : World) (g : Nat) (bs : List UInt8) (odd : Bool) (h : WrS w g bs odd) (s : List UInt8) (pb : Nat) (hp : w.cell? ⟨pb, 0, none⟩ = some (.pointer (some ⟨g, 0, none⟩))) (hlen : bs.length + s.length + 4 ≤ 1048576) :
    Calls Try.prog 60 #[.string ⟨s.toArray⟩, .pointer (some ⟨pb, 0, none⟩)] w (PutsRet g (bs ++ textB s 1) (odd || !roomB s.length 1) w) := by
  have HP := Lib.hid (wtext_any w g bs odd h 1 (by omega) s hlen)
  go_enter Try.func60, Try.ntmps60
  go_wp2_with fail
  refine HP.out.mono ?_
  rintro e' W1 ⟨rfl, hr⟩
  go_wp2_with fail
  go_end0
  exact ⟨rfl, hr⟩
set_option maxRecDepth 100000 in
set_option maxHeartbeats 4000000 in
theorem wstr2_any (w : World) (g : Nat) (bs : List UInt8) (odd : Bool) (h : WrS w g bs odd) (s : List UInt8) (pb : Nat) (hp : w.cell? ⟨pb, 0, none⟩ = some (.pointer (some ⟨g, 0, none⟩))) (hlen : bs.length + s.length + 4 ≤ 1048576) :
    Calls Try.prog 62 #[.string ⟨s.toArray⟩, .pointer (some ⟨pb, 0, none⟩)] w (PutsRet g (bs ++ textB s 2) (odd || !roomB s.length 2) w) := by
  have HP := Lib.hid (wtext_any w g bs odd h 2 (by omega) s hlen)
  go_enter Try.func62, Try.ntmps62
  go_wp2_with fail
  refine HP.out.mono ?_
  rintro e' W1 ⟨rfl, hr⟩
  go_wp2_with fail
  go_end0
  exact ⟨rfl, hr⟩
/-- What the first region of tables reads. -/
def TabS (pb g : Nat) (w : World) : Prop := w.heap[pb]? = some (.cells #[.pointer (some ⟨g, 0, none⟩)] 63) ∧ Blk2 w g (.slice none 0 0) (.bool false) 65
theorem tabB_parts (x : XW) : (tabB x).length = 8 + (rowB CW.bytes x.cs).length + (rowB MW.bytes x.ms).length + (intsB x.ss).length + (rowB (fun s => textB s 1) x.ys).length + (rowB (fun s => textB s 2) x.xs).length := by
  unfold tabB magicB
  simp only [List.length_append, putB_length, List.length_cons, List.length_nil]
  omega
theorem rowB_len {α : Type} (F : α → List UInt8) (l : List α) : (rowB F l).length = 2 + (l.flatMap F).length := by unfold rowB; rw [List.length_append, putB_length]
set_option maxRecDepth 100000 in
set_option maxHeartbeats 16000000 in
theorem tables_any (w0 w : World) (g : Nat) (x : XW) (hx : x.Rd w0) (hr : x.Right) (hb : Below w0.heap.size w0 w) (hg0 : w0.heap.size ≤ g) (hW : Blk2 w g (.slice none 0 0) (.bool false) 65) (hlen : (tabB x).length + 8 ≤ 1048576) :
    Calls Try.prog 21 #[.pointer (some ⟨g, 0, none⟩), .agg x.vals] w (PutsRet g (tabB x) (tabO x) w) := by
  rw [tabB_parts] at hlen
  have HX := Lib.hid hx
  have HR := Lib.hid hr
  have HB := Lib.hid hb
  have HT := Lib.hid (show tabB x = magicB ++ rowB CW.bytes x.cs ++ rowB MW.bytes x.ms ++ putB (u64V x.st) 2 ++ intsB x.ss ++ rowB (fun s => textB s 1) x.ys ++ rowB (fun s => textB s 2) x.xs ++ putB (u64V x.main) 2 from rfl)
  have HTO := Lib.hid (show tabO x = (rowO CW.odd x.cs || rowO MW.odd x.ms || !roomB x.st 2 || intsO x.ss || rowO (fun s => !roomB s.length 1) x.ys || rowO (fun s => !roomB s.length 2) x.xs || !roomB x.main 2) from rfl)
  have hgl := hW.box.lt
  obtain ⟨ca, cn, cc, cs, ma, mn, mc, ms, st, sa, sn, sc, ss, ya, yn, yc, ys, xa, xn, xc, xs, ka, kn, kc, ks, main⟩ := x
  simp only at hlen HT HTO
  unfold XW.vals
  simp only
  have h1 : Below w.heap.size w (w.alloc (.cells #[.pointer (some ⟨g, 0, none⟩)] 63)) := (Below.refl _ _).alloc (Nat.le_refl _) _
  have p1 := heap_alloc_last w (.cells #[.pointer (some ⟨g, 0, none⟩)] 63)
  have z1 : (w.alloc (.cells #[.pointer (some ⟨g, 0, none⟩)] 63)).heap.size = w.heap.size + 1 := by simp
  go_enter Try.func21, Try.ntmps21
  go_upto_region 1 with fail
  have hal : Below w.heap.size w ((w.alloc (.cells #[.pointer (some ⟨g, 0, none⟩)] 63)).alloc (.cells #[.slice ca cn cc, .slice ma mn mc, .int .i64 st, .slice sa sn sc, .slice ya yn yc, .slice xa xn xc, .slice ka kn kc, .int .i64 main] 30)) := h1.alloc h1.size _
  have HPB := Lib.hid (row_below p1 ((Below.refl _ _).alloc (Nat.le_refl _) (.cells #[.slice ca cn cc, .slice ma mn mc, .int .i64 st, .slice sa sn sc, .slice ya yn yc, .slice xa xn xc, .slice ka kn kc, .int .i64 main] 30)))
  have HIB := heap_alloc_last (w.alloc (.cells #[.pointer (some ⟨g, 0, none⟩)] 63)) (.cells #[.slice ca cn cc, .slice ma mn mc, .int .i64 st, .slice sa sn sc, .slice ya yn yc, .slice xa xn xc, .slice ka kn kc, .int .i64 main] 30)
  rw [z1] at HIB
  have HW1 := Lib.hid (hW.below hal)
  have HK1 := Lib.hid (Keep1.of (g := g) hal)
  have HB1 := Lib.hid (hb.trans (hal.mono hb.size))
  have hg1 : w.heap.size ≠ g := by omega
  have hg2 : w.heap.size + 1 ≠ g := by omega
  have HIBH := Lib.hid HIB
  clear hal h1 p1 z1 HIB hW hx hr hb
  generalize ((w.alloc (.cells #[.pointer (some ⟨g, 0, none⟩)] 63)).alloc (.cells #[.slice ca cn cc, .slice ma mn mc, .int .i64 st, .slice sa sn sc, .slice ya yn yc, .slice xa xn xc, .slice ka kn kc, .int .i64 main] 30)) = W1 at *
  have hSw : TabS w.heap.size g W1.drew := ⟨row_below HPB.out (Below.refl _ _).drew, HW1.out.below (Below.refl _ _).drew⟩
  have l0 := fun z (h : TabS w.heap.size g z) => row_cell h.1 0 rfl
  have l1 := fun z (h : TabS w.heap.size g z) => h.2.box.c0
  refine wp_region_lexE (TabS w.heap.size g) 8 [(0, true), (1, true), (2, true), (3, true), (4, true), (5, false), (6, true), (7, true)] (by kernel_rfl) (by kernel_rfl) (fun c a d v w h => by cases d <;> exact h) ?_
  iterate 5
    refine lexE_step (fun K hK => ?_)
    simp only [lexOp, List.getElem?_toArray, List.getElem?_cons_succ, List.getElem?_cons_zero]
    rw [if_pos (by rfl)]
    apply Exists.intro
    refine ⟨fun w' hS' => ?_, hSw, ?_⟩
    · first | (go_simp <;> with_reducible rfl) | (go_simp; go_bits; with_reducible rfl)
    go_simp
    try go_bits
    refine hK _ _ ?_
    clear hK K
  refine lexE_step (fun K hK => ?_)
  simp only [lexOp, List.getElem?_toArray, List.getElem?_cons_succ, List.getElem?_cons_zero]
  rw [if_pos (by rfl)]
  change Oper.wp _ _ _ _ _ _
  refine wp_appKX #[] rfl _ _ _ rfl W1.heap.size _ 0 [] rfl (OwnOr.nil _ _) _ 4 _ rfl (strSrcK _ magicB) (by omega) (by omega) (Nat.le_refl _) ?_
  intro v2 W2 hown2 hk2 hb2
  simp only [List.map_nil, List.nil_append, Nat.zero_add] at hown2
  replace hSw : TabS w.heap.size g W2 := ⟨hk2.2 _ _ _ _ HPB.out (by decide), hk2.2 _ _ _ _ HW1.out (by decide)⟩
  have hb12 : Below W1.heap.size W1 W2 := ((Below.refl _ _).drew).trans hb2
  have HI2 := Lib.hid (row_below HIBH.out hb12)
  have HK2 := Lib.hid (HK1.out.trans (Keep1.of hb12))
  have HB2 := Lib.hid (HB1.out.trans (hb12.mono HB1.out.size))
  obtain ⟨a2, c2, rfl, hs2, hc2⟩ := Sl.ofOwn hown2
  have HS2 := Lib.hid hs2
  have HN2 := Lib.hid (Off1.own hown2 (show g < W1.heap.size from HW1.out.box.lt))
  have HM2 := Lib.hid (own_mono hown2 (show g + 1 ≤ W1.heap.size from HW1.out.box.lt))
  refine ⟨hSw, hK _ _ ?_⟩
  clear hK K hown2 hk2 hb2 hb12 hs2 HPB HIBH HW1 HK1 HB1
  iterate 2
    refine lexE_step (fun K hK => ?_)
    simp only [lexOp, List.getElem?_toArray, List.getElem?_cons_succ, List.getElem?_cons_zero]
    rw [if_pos (by rfl)]
    apply Exists.intro
    refine ⟨fun w' hS' => ?_, hSw, ?_⟩
    · first | (go_simp <;> with_reducible rfl) | (go_simp; go_bits; with_reducible rfl)
    go_simp
    try go_bits
    refine hK _ _ ?_
    clear hK K
  have cg := hSw.2.box.c0
  have fg := hSw.2.box.f0
  have hgl2 := hSw.2.box.lt
  refine lexE_last ?_
  simp only [lastOp, List.getElem?_toArray, List.getElem?_cons_succ, List.getElem?_cons_zero]
  rw [if_pos (by rfl)]
  go_step
  have HP3 := Lib.hid ((Keep1.refl g W2).set 0 (.slice a2 4 c2) |>.blk hSw.1 hg1)
  have HI3 := Lib.hid ((Keep1.refl g W2).set 0 (.slice a2 4 c2) |>.blk HI2.out hg2)
  have HK3 := Lib.hid (HK2.out.set 0 (.slice a2 4 c2))
  have HW3 := Lib.hid (show WrS (W2.setCell ⟨g, 0, none⟩ (.slice a2 4 c2)) g magicB false from ⟨a2, 4, c2, hSw.2.set0, HS2.out.keep1 ((Keep1.refl g W2).set 0 _) HN2.out, hc2, HN2.out, own_keep1 HM2.out ((Keep1.refl g W2).set 0 _) (by omega)⟩)
  clear cg fg hSw l0 l1 HI2 HK2 HB2 HS2 HN2 HM2
  generalize W2.setCell ⟨g, 0, none⟩ (.slice a2 4 c2) = W3 at *
  have HXC := Lib.hid (HX.out.c.below HB.out)
  have HXM := Lib.hid (HX.out.m.below HB.out)
  have HXS := Lib.hid (HX.out.s.below HB.out)
  have HXY := Lib.hid (HX.out.y.below HB.out)
  have HXX := Lib.hid (HX.out.tx.below HB.out)
  have HXR := Lib.hid (fun c hc => (HX.out.cr c hc).below HB.out)
  have c3a := row_cell HP3.out 0 rfl
  have c3b := row_cell HI3.out 0 rfl
  have HC3 := Lib.hid (wmany_class W3 g _ _ HW3.out ca cn cc cs (HXC.out.keep1 HK3.out (Off1.oldS HX.out.c hg0)) (Off1.oldS HX.out.c hg0) HR.out.cn CW.bytes CW.odd (by simp only [List.length_append, magicB, List.length_cons, List.length_nil, putB_length, rowB_len] at hlen ⊢; omega) (fun c hc W bs' od' hW hk hl => wclass_any W g bs' od' hW c (HR.out.c c hc) ((HXR.out c hc).keep1 (HK3.out.trans hk) (Off1.old (HX.out.cr c hc).r hg0) (Off1.old (HX.out.cr c hc).t hg0)) (Off1.old (HX.out.cr c hc).r hg0) (Off1.old (HX.out.cr c hc).t hg0) hl))
  go_wp2_with fail
  refine HC3.out.mono ?_
  rintro e' W4 ⟨rfl, hw, hk⟩
  have HW4 := Lib.hid hw
  have HK4 := Lib.hid (HK3.out.trans hk)
  have HP4 := Lib.hid (hk.blk HP3.out hg1)
  have HI4 := Lib.hid (hk.blk HI3.out hg2)
  clear hw hk HC3 HW3 HK3 HP3 HI3 c3a c3b
  have c4a := row_cell HP4.out 0 rfl
  have c4b := row_cell HI4.out 1 rfl
  have HC4 := Lib.hid (wmany_method W4 g _ _ HW4.out ma mn mc ms (HXM.out.keep1 HK4.out (Off1.oldS HX.out.m hg0)) (Off1.oldS HX.out.m hg0) HR.out.mn MW.bytes MW.odd (by simp only [List.length_append, magicB, List.length_cons, List.length_nil, putB_length, rowB_len] at hlen ⊢; omega) (fun c hc W bs' od' hW hk hl => wmethod_any W g bs' od' hW c (HR.out.m c hc) hl))
  go_wp2_with fail
  refine HC4.out.mono ?_
  rintro e' W5 ⟨rfl, hw, hk⟩
  have HW5 := Lib.hid hw
  have HK5 := Lib.hid (HK4.out.trans hk)
  have HP5 := Lib.hid (hk.blk HP4.out hg1)
  have HI5 := Lib.hid (hk.blk HI4.out hg2)
  clear hw hk HC4 HW4 HK4 HP4 HI4 c4a c4b
  have c5a := row_cell HP5.out 0 rfl
  have c5b := row_cell HI5.out 2 rfl
  have HC5 := Lib.hid (wput_one W5 g _ _ HW5.out 2 (by omega) st HR.out.st (by simp only [List.length_append, magicB, List.length_cons, List.length_nil, putB_length, rowB_len] at hlen ⊢; omega))
  go_wp2_with fail
  refine HC5.out.mono ?_
  rintro e' W6 ⟨rfl, hw, hk⟩
  have HW6 := Lib.hid hw
  have HK6 := Lib.hid (HK5.out.trans hk)
  have HP6 := Lib.hid (hk.blk HP5.out hg1)
  have HI6 := Lib.hid (hk.blk HI5.out hg2)
  clear hw hk HC5 HW5 HK5 HP5 HI5 c5a c5b
  have c6a := row_cell HP6.out 0 rfl
  have c6b := row_cell HI6.out 3 rfl
  have HC6 := Lib.hid (wints_any W6 g _ _ HW6.out sa sn sc ss (HXS.out.keep1 HK6.out (Off1.old HX.out.s hg0)) (Off1.old HX.out.s hg0) HR.out.s (by simp only [List.length_append, magicB, List.length_cons, List.length_nil, putB_length, rowB_len] at hlen ⊢; omega))
  go_wp2_with fail
  refine HC6.out.mono ?_
  rintro e' W7 ⟨rfl, hw, hk⟩
  have HW7 := Lib.hid hw
  have HK7 := Lib.hid (HK6.out.trans hk)
  have HP7 := Lib.hid (hk.blk HP6.out hg1)
  have HI7 := Lib.hid (hk.blk HI6.out hg2)
  clear hw hk HC6 HW6 HK6 HP6 HI6 c6a c6b
  have c7a := row_cell HP7.out 0 rfl
  have c7b := row_cell HI7.out 4 rfl
  have HC7 := Lib.hid (wmany_str1 W7 g _ _ HW7.out ya yn yc ys (HXY.out.keep1 HK7.out (Off1.old HX.out.y hg0)) (Off1.old HX.out.y hg0) HR.out.yn w.heap.size (fun s => textB s 1) (fun s => !roomB s.length 1) (by simp only [List.length_append, magicB, List.length_cons, List.length_nil, putB_length, rowB_len] at hlen ⊢; omega) (fun s hs W bs' od' hW hk hl => wstr1_any W g bs' od' hW s w.heap.size (row_cell (hk.blk HP7.out hg1) 0 rfl) (by rw [textB_len] at hl; omega)))
  go_wp2_with fail
  refine HC7.out.mono ?_
  rintro e' W8 ⟨rfl, hw, hk⟩
  have HW8 := Lib.hid hw
  have HK8 := Lib.hid (HK7.out.trans hk)
  have HP8 := Lib.hid (hk.blk HP7.out hg1)
  have HI8 := Lib.hid (hk.blk HI7.out hg2)
  clear hw hk HC7 HW7 HK7 HP7 HI7 c7a c7b
  have c8a := row_cell HP8.out 0 rfl
  have c8b := row_cell HI8.out 5 rfl
  have HC8 := Lib.hid (wmany_str2 W8 g _ _ HW8.out xa xn xc xs (HXX.out.keep1 HK8.out (Off1.old HX.out.tx hg0)) (Off1.old HX.out.tx hg0) HR.out.xn w.heap.size (fun s => textB s 2) (fun s => !roomB s.length 2) (by simp only [List.length_append, magicB, List.length_cons, List.length_nil, putB_length, rowB_len] at hlen ⊢; omega) (fun s hs W bs' od' hW hk hl => wstr2_any W g bs' od' hW s w.heap.size (row_cell (hk.blk HP8.out hg1) 0 rfl) (by rw [textB_len] at hl; omega)))
  go_wp2_with fail
  refine HC8.out.mono ?_
  rintro e' W9 ⟨rfl, hw, hk⟩
  have HW9 := Lib.hid hw
  have HK9 := Lib.hid (HK8.out.trans hk)
  have HP9 := Lib.hid (hk.blk HP8.out hg1)
  have HI9 := Lib.hid (hk.blk HI8.out hg2)
  clear hw hk HC8 HW8 HK8 HP8 HI8 c8a c8b
  have c9a := row_cell HP9.out 0 rfl
  have c9b := row_cell HI9.out 7 rfl
  have HC9 := Lib.hid (wput_one W9 g _ _ HW9.out 2 (by omega) main HR.out.main (by simp only [List.length_append, magicB, List.length_cons, List.length_nil, putB_length, rowB_len] at hlen ⊢; omega))
  go_wp2_with fail
  refine HC9.out.mono ?_
  rintro e' W10 ⟨rfl, hw, hk⟩
  have HW10 := Lib.hid hw
  have HK10 := Lib.hid (HK9.out.trans hk)
  have HP10 := Lib.hid (hk.blk HP9.out hg1)
  have HI10 := Lib.hid (hk.blk HI9.out hg2)
  clear hw hk HC9 HW9 HK9 HP9 HI9 c9a c9b
  go_wp2_with fail
  go_end0
  refine ⟨rfl, ?_, HK10.out⟩
  rw [HT.out, HTO.out]
  have := HW10.out
  simp only [Bool.false_or] at this
  exact this
end Go.Proofs.Ytbcldlbmbdfejaa
/- image: an image's bytes, in plain Lean. No condition. -/
namespace Go.Proofs.Ytbcldlbmbdfejaa
open Go.ChangeShapes Go.WideShapes Go.ChangeAt Go.RowKit
def lensL (D : List (List UInt8)) : Nat := (D.map List.length).sum
def hereI (pos : Int) (d : List UInt8) : Int := if d.length = 0 then 0 else pos
def codeB (pos : Int) (k : KW) (d : List UInt8) : List UInt8 := putB (u64V (hereI pos d)) 4 ++ putsB [(d.length : Int), k.stack, k.locals, k.args] 2 ++ rowB TW.bytes k.traps
def codeO (pos : Int) (k : KW) (d : List UInt8) : Bool := !roomB (hereI pos d) 4 || badB [(d.length : Int), k.stack, k.locals, k.args] 2 || rowO TW.odd k.traps
def headsB (pos : Int) : List (KW × List UInt8) → List UInt8
  | [] => []
  | p :: r => codeB pos p.1 p.2 ++ headsB (pos + p.2.length) r
def headsO (pos : Int) : List (KW × List UInt8) → Bool
  | [] => false
  | p :: r => codeO pos p.1 p.2 || headsO (pos + p.2.length) r
def sizeK (ks : List KW) : Nat := (ks.map fun k => 14 + 8 * k.traps.length).sum
theorem headsB_snoc (P : List (KW × List UInt8)) (pos : Int) (k : KW) (d : List UInt8) : headsB pos (P ++ [(k, d)]) = headsB pos P ++ codeB (pos + (lensL (P.map (·.2)) : Nat)) k d := by
  induction P generalizing pos with
  | nil => simp [headsB, lensL]
  | cons p P ih =>
    simp only [List.cons_append, headsB, ih, List.append_assoc, List.map_cons, lensL, List.sum_cons]
    rw [show pos + (p.2.length : Int) + (((P.map (·.2)).map List.length).sum : Nat) = pos + ((p.2.length + ((P.map (·.2)).map List.length).sum : Nat) : Int) by omega]
theorem headsO_snoc (P : List (KW × List UInt8)) (pos : Int) (k : KW) (d : List UInt8) : headsO pos (P ++ [(k, d)]) = (headsO pos P || codeO (pos + (lensL (P.map (·.2)) : Nat)) k d) := by
  induction P generalizing pos with
  | nil => simp [headsO, lensL]
  | cons p P ih =>
    simp only [List.cons_append, headsO, ih, Bool.or_assoc, List.map_cons, lensL, List.sum_cons]
    rw [show pos + (p.2.length : Int) + (((P.map (·.2)).map List.length).sum : Nat) = pos + ((p.2.length + ((P.map (·.2)).map List.length).sum : Nat) : Int) by omega]
theorem trapsB_len (l : List TW) : (rowB TW.bytes l).length = 2 + 8 * l.length := by
  rw [rowB_len]
  congr 1
  induction l with
  | nil => rfl
  | cons t l ih => rw [List.flatMap_cons, List.length_append, ih, TW.bytes_len, List.length_cons]; omega
theorem codeB_len (pos : Int) (k : KW) (d : List UInt8) : (codeB pos k d).length = 14 + 8 * k.traps.length := by
  unfold codeB
  rw [List.length_append, List.length_append, putB_length, putsB_len, trapsB_len]
  simp only [List.length_cons, List.length_nil]
  omega
theorem headsB_len (pos : Int) (P : List (KW × List UInt8)) : (headsB pos P).length = sizeK (P.map (·.1)) := by
  induction P generalizing pos with
  | nil => rfl
  | cons p P ih => simp only [headsB, List.length_append, codeB_len, ih, List.map_cons, sizeK, List.sum_cons]
theorem sizeK_snoc (ks : List KW) (k : KW) : sizeK (ks ++ [k]) = sizeK ks + (14 + 8 * k.traps.length) := by unfold sizeK; simp
theorem lensL_snoc (D : List (List UInt8)) (d : List UInt8) : lensL (D ++ [d]) = lensL D + d.length := by unfold lensL; simp
theorem flatten_len (D : List (List UInt8)) : D.flatten.length = lensL D := by unfold lensL; rw [List.length_flatten]
theorem sizeK_take (ks : List KW) (j : Nat) : sizeK (ks.take j) ≤ sizeK ks := by
  unfold sizeK
  rw [← List.take_append_drop j ks, List.map_append, List.sum_append, List.take_append_drop]
  omega
theorem lensL_take (D : List (List UInt8)) (j : Nat) : lensL (D.take j) ≤ lensL D := by
  unfold lensL
  rw [← List.take_append_drop j D, List.map_append, List.sum_append, List.take_append_drop]
  omega
theorem take_snocX {α : Type} {L : List α} {j : Nat} {r : α} (h : L[j]? = some r) : L.take (j + 1) = L.take j ++ [r] := by
  obtain ⟨hj, he⟩ := List.getElem?_eq_some_iff.1 h
  rw [List.take_succ_eq_append_getElem hj, he]
def startX (x : XW) : Nat := (tabB x).length + sizeK x.ks
def bytesX (x : XW) (D : List (List UInt8)) : List UInt8 := tabB x ++ headsB (startX x : Nat) (x.ks.zip D) ++ D.flatten
def oddX (x : XW) (D : List (List UInt8)) : Bool := tabO x || headsO (startX x : Nat) (x.ks.zip D)
def imgBytes (x : XW) (D : List (List UInt8)) : Int × List UInt8 :=
  if x.ks.length ≠ x.ms.length ∨ D.length ≠ x.ks.length then (8, [])
  else if oddX x D = true then (8, [])
  else if 262144 < (bytesX x D).length then (9, [])
  else (0, bytesX x D)
theorem bytesX_len (x : XW) (D : List (List UInt8)) (h : D.length = x.ks.length) : (bytesX x D).length = startX x + lensL D := by
  unfold bytesX startX
  rw [List.length_append, List.length_append, headsB_len, flatten_len]
  have : (x.ks.zip D).map (·.1) = x.ks := by
    rw [List.map_fst_zip]
    omega
  rw [this]
end Go.Proofs.Ytbcldlbmbdfejaa
/- bytes that came in. No condition. -/
namespace Go.Proofs.Ytbcldlbmbdfejaa
open Go.ChangeShapes Go.WideShapes Go.ChangeAt Go.RowKit Go.Joins Go.Deep
section
variable {H : Type} {enc : TypeId × Value → H} {w : World} {r : Reach} {b0 : Nat} {v : Value} {d : DataW H} {p : List MemPlace}
set_option maxRecDepth 100000 in
theorem row_of {fuel : Nat} {v : Value} {x : DataW H × List MemPlace} (hf : DataW.trod enc Try.prog w 0 (fun _ => true) true fuel 35 [v] = some x) : ∃ a n cap z, v = .slice a n cap ∧ IsRow .u8 w a n cap z := by
  rcases open_ints Try.underlying35 Try.underlying5 (by kernel_rfl) hf with ⟨hcs, _⟩ | ⟨x, l, c, zs, hcs, _, hl, hm, hz, _, hcell, hwz⟩
  · simp at hcs
    exact ⟨none, 0, 0, [], hcs, .inl ⟨rfl, rfl, rfl, rfl⟩⟩
  · simp at hcs
    exact ⟨_, _, _, zs, hcs, .inr ⟨_, rfl, hl, hm, by simpa using hz, hcell, hwz⟩⟩
set_option maxRecDepth 100000 in
theorem open_bytes (hv : Value.okWide Try.prog w r b0 35 v) (h : DataW.Trod enc Try.prog w 0 (fun _ => true) true 35 v d p) : ∃ a n cap z, v = .slice a n cap ∧ IsRow .u8 w a n cap z := by
  obtain ⟨a, n, cap, rfl⟩ := okWide_slice Try.underlying35 hv
  obtain ⟨fuel, hf⟩ := h
  exact row_of (by simpa [Value.cells] using hf)
end
end Go.Proofs.Ytbcldlbmbdfejaa
/- slices of slices of bytes that came in. No condition. -/
namespace Go.Proofs.Ytbcldlbmbdfejaa
open Go.ChangeShapes Go.WideShapes Go.ChangeAt Go.RowKit Go.Joins Go.Deep
/-- A slice of bytes that lies in a row. -/
structure BV where
  da : Option Addr
  dn : Nat
  dc : Nat
  data : List UInt8
def BV.enc (f : BV) : Value := .slice f.da f.dn f.dc
def BVf (w : World) (f : BV) : Prop := Sl encB w f.da f.dn f.data ∧ f.dn ≤ f.dc ∧ f.dn ≤ maxLen
theorem BVf.below {w w' : World} {f : BV} (h : BVf w f) (hb : Below w.heap.size w w') : BVf w' f := ⟨h.1.below hb, h.2⟩
/-- A slice of slices of bytes that came in. -/
def IsBss (w : World) (a : Option Addr) (n cap : Nat) : Prop := n ≤ cap ∧ n ≤ maxLen ∧ ∃ F : List BV, Sl BV.enc w a n F ∧ ∀ f ∈ F, BVf w f
theorem list_ofB {α : Type} (n : Nat) (P : Nat → α → Prop) (h : ∀ i, i < n → ∃ x, P i x) : ∃ L : List α, L.length = n ∧ ∀ i (hi : i < L.length), P i L[i] := by
  induction n with
  | zero => exact ⟨[], rfl, fun i hi => by simp at hi⟩
  | succ n ih =>
    obtain ⟨L, hl, hL⟩ := ih (fun i hi => h i (by omega))
    obtain ⟨x, hx⟩ := h n (by omega)
    refine ⟨L ++ [x], by simp [hl], fun i hi => ?_⟩
    by_cases hin : i < L.length
    · rw [List.getElem_append_left hin]; exact hL i hin
    · have : i = n := by simp at hi; omega
      subst this
      rw [List.getElem_append_right (by omega)]
      simpa [hl] using hx
section
variable {H : Type} {enc : TypeId × Value → H} {w : World} {r : Reach} {b0 : Nat} {v : Value} {d : DataW H} {p : List MemPlace}
theorem cells_bs : Try.prog.cellsOf 35 = 1 := by kernel_rfl
set_option maxRecDepth 100000 in
theorem open_bss (hv : Value.okWide Try.prog w r b0 31 v) (h : DataW.Trod enc Try.prog w 0 (fun _ => true) true 31 v d p) : ∃ a n cap, v = .slice a n cap ∧ IsBss w a n cap := by
  obtain ⟨a, n, cap, rfl⟩ := okWide_slice Try.underlying31 hv
  refine ⟨a, n, cap, rfl, ?_⟩
  obtain ⟨fuel, hf⟩ := h
  rcases open_slice Try.underlying31 hf with ⟨hcs, _⟩ | ⟨x, len, c, m, n', D, Pl, hcs, _, hl, hm, hmm, _, hi⟩
  · simp [Value.cells] at hcs
    obtain ⟨rfl, rfl, rfl⟩ := hcs
    exact ⟨by omega, by unfold maxLen; omega, [], Sl.nil _ _, fun c hc => by cases hc⟩
  · simp [Value.cells] at hcs
    obtain ⟨rfl, rfl, rfl⟩ := hcs
    simp only [if_true] at hmm
    subst hmm
    refine ⟨hl, by omega, ?_⟩
    by_cases hn : 0 < n
    · have hsp : x.spot = none := by
        obtain ⟨cs', hc, ht⟩ := hi 0 (by omega)
        rw [cells_bs] at hc
        obtain ⟨_, hcl, hat⟩ := World.cells?_some hc
        match cs', hcl with
        | [c0], _ =>
          have q0 := hat 0 (by omega)
          have e : (x.add (0 * 1)).add 0 = x := by simp [Addr.add]
          rw [e] at q0
          exact World.cell?_spot q0
      obtain ⟨b, off, spot⟩ := x
      simp only at hsp
      subst hsp
      have key : ∀ i, i < n → ∃ c : BV, w.cell? ⟨b, off + i, none⟩ = some c.enc ∧ BVf w c := by
        intro i hin
        obtain ⟨cs', hc, ht⟩ := hi i (by omega)
        rw [cells_bs] at hc
        obtain ⟨_, hcl, hat⟩ := World.cells?_some hc
        match cs', hcl with
        | [c0], _ =>
          obtain ⟨ad, m, cm, z, rfl, hr⟩ := row_of ht
          have hcap := Row.cap hr
          obtain ⟨ds, hds, hml⟩ := Bs.ofRow hr
          refine ⟨⟨ad, m, cm, ds⟩, ?_, hds.sl, hcap, hml⟩
          have q := hat 0 (by omega)
          rw [addr_add, addr_add] at q
          simpa [BV.enc] using q
      obtain ⟨L, hL, hat⟩ := list_ofB n _ key
      refine ⟨L, ⟨hL, fun _ => ⟨b, off, rfl, ?_, fun i hi => (hat i hi).1⟩⟩, fun c hc => ?_⟩
      · have q := (hat 0 (by omega)).1
        exact World.block_lt_of_cell? w _ q
      · obtain ⟨i, hi, rfl⟩ := List.getElem_of_mem hc
        exact (hat i hi).2
    · have h0 : n = 0 := by omega
      subst h0
      exact ⟨[], Sl.nil _ _, fun c hc => by cases hc⟩
end
end Go.Proofs.Ytbcldlbmbdfejaa
