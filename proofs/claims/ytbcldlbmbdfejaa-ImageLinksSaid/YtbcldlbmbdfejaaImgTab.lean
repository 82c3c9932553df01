/- image: the writer's trap, method, class. No condition. -/
import Derived.Test.YtbcldlbmbdfejaaImgMany
namespace Go.Proofs.Ytbcldlbmbdfejaa
open Go.ChangeShapes Go.WideShapes Go.ChangeAt Go.RowKit
theorem wput_lit (w : World) (g : Nat) (bs : List UInt8) (odd : Bool) (h : WrS w g bs odd) (nb : Nat) (hnb : nb = 1 ∨ nb = 2 ∨ nb = 4) (l : List Int) (hz : ∀ v ∈ l, IntR v) (hlen : bs.length + l.length * 4 ≤ 1048576) (C : Array Value) (hC : C = (l.map encZ).toArray) (n : Nat) (hn : l.length = n) :
    Calls Try.prog 23 #[.pointer (some ⟨g, 0, none⟩), .int .i64 nb, .slice (some ⟨w.heap.size, 0, none⟩) n n] (w.alloc (.cells C 3)) (PutsRet g (bs ++ putsB l nb) (odd || badB l nb) w) := by
  have hlt := h.lt
  have hal : Below w.heap.size w (w.alloc (.cells C 3)) := (Below.refl _ _).alloc (Nat.le_refl _) _
  refine (wput_any _ g bs odd (h.below hal) nb hnb (some ⟨w.heap.size, 0, none⟩) n n l (Sl.lit (heap_alloc_last w _) hC hn) (Off1.new (by omega)) hz (by rw [← hn]; exact hlen)).mono ?_
  rintro e w' ⟨rfl, h1, h2⟩
  exact ⟨rfl, h1, (Keep1.of hal).trans h2⟩
theorem wnext_lit (w : World) (g : Nat) (bs : List UInt8) (odd : Bool) (h : WrS w g bs odd) (l : List Int) (hz : ∀ v ∈ l, IntR v) (hlen : bs.length + l.length * 4 ≤ 1048576) (C : Array Value) (hC : C = (l.map encZ).toArray) (n : Nat) (hn : l.length = n) :
    Calls Try.prog 63 #[.pointer (some ⟨g, 0, none⟩), .slice (some ⟨w.heap.size, 0, none⟩) n n] (w.alloc (.cells C 3)) (PutsRet g (bs ++ nextsB l) (odd || badN l) w) := by
  have hlt := h.lt
  have hal : Below w.heap.size w (w.alloc (.cells C 3)) := (Below.refl _ _).alloc (Nat.le_refl _) _
  refine (wnext_any _ g bs odd (h.below hal) (some ⟨w.heap.size, 0, none⟩) n n l (Sl.lit (heap_alloc_last w _) hC hn) (Off1.new (by omega)) hz (by rw [← hn]; exact hlen)).mono ?_
  rintro e w' ⟨rfl, h1, h2⟩
  exact ⟨rfl, h1, (Keep1.of hal).trans h2⟩
def TW.bytes (t : TW) : List UInt8 := putsB [t.frm, t.upto, t.pos] 2 ++ nextsB [t.cls]
def TW.odd (t : TW) : Bool := badB [t.frm, t.upto, t.pos] 2 || badN [t.cls]
theorem TW.bytes_len (t : TW) : t.bytes.length = 8 := by unfold TW.bytes; rw [List.length_append, putsB_len, nextsB_len]; rfl
theorem r_one {v : Int} (h : IntR v) : ∀ u ∈ [v], IntR u := fun u hu => by rw [List.mem_singleton.1 hu]; exact h
theorem r_two {a b : Int} (ha : IntR a) (hb : IntR b) : ∀ u ∈ [a, b], IntR u := fun u hu => by
  rcases List.mem_cons.1 hu with rfl | h
  · exact ha
  · exact r_one hb u h
theorem r_three {a b c : Int} (ha : IntR a) (hb : IntR b) (hc : IntR c) : ∀ u ∈ [a, b, c], IntR u := fun u hu => by
  rcases List.mem_cons.1 hu with rfl | h
  · exact ha
  · exact r_two hb hc u h
set_option maxRecDepth 100000 in
set_option maxHeartbeats 8000000 in
theorem wtrap_any (w : World) (g : Nat) (bs : List UInt8) (odd : Bool) (h : WrS w g bs odd) (t : TW) (ht : t.right) (hlen : bs.length + 16 ≤ 1048576) :
    Calls Try.prog 25 #[.pointer (some ⟨g, 0, none⟩), .agg t.vals.toArray] w (PutsRet g (bs ++ t.bytes) (odd || t.odd) w) := by
  obtain ⟨x0, x1, x2, x3⟩ := t
  obtain ⟨r0, r1, r2, r3⟩ := ht
  simp only at r0 r1 r2 r3
  unfold TW.vals
  have HBY := Lib.hid (show bs ++ TW.bytes ⟨x0, x1, x2, x3⟩ = bs ++ putsB [x0, x1, x2] 2 ++ nextsB [x3] by unfold TW.bytes; rw [List.append_assoc])
  have HOD := Lib.hid (show (odd || TW.odd ⟨x0, x1, x2, x3⟩) = (odd || badB [x0, x1, x2] 2 || badN [x3]) by unfold TW.odd; rw [Bool.or_assoc])
  have HL1 := Lib.hid (show (bs ++ putsB [x0, x1, x2] 2).length = bs.length + 6 by rw [List.length_append, putsB_len]; rfl)
  have hlt := h.lt
  have hal : Below w.heap.size w (w.alloc (.cells #[.int .i64 x0, .int .i64 x1, .int .i64 x2, .int .i64 x3] 71)) := (Below.refl _ _).alloc (Nat.le_refl _) _
  have HW := Lib.hid (h.below hal)
  have HK := Lib.hid (Keep1.of (g := g) hal)
  have HR := Lib.hid (heap_alloc_last w (.cells #[.int .i64 x0, .int .i64 x1, .int .i64 x2, .int .i64 x3] 71))
  have hne : w.heap.size ≠ g := by omega
  clear hal h
  go_enter Try.func25, Try.ntmps25
  go_upto_region 1 with fail
  generalize w.alloc (.cells #[.int .i64 x0, .int .i64 x1, .int .i64 x2, .int .i64 x3] 71) = W1 at *
  have c0 := row_cell HR.out 0 rfl
  have c1 := row_cell HR.out 1 rfl
  have c2 := row_cell HR.out 2 rfl
  have HP := Lib.hid (wput_lit W1 g bs odd HW.out 2 (by omega) [x0, x1, x2] (r_three r0 r1 r2) (by show bs.length + 3 * 4 ≤ 1048576; omega) #[.int .i64 x0, .int .i64 x1, .int .i64 x2] rfl 3 rfl)
  go_wp2_with fail
  refine HP.out.mono ?_
  rintro e' W2 ⟨rfl, hw2, hk2⟩
  have HP2 := Lib.hid (wnext_lit W2 g _ _ hw2 [x3] (r_one r3) (by rw [HL1.out]; show bs.length + 6 + 1 * 4 ≤ 1048576; omega) #[.int .i64 x3] rfl 1 rfl)
  have HR2 := Lib.hid (hk2.blk HR.out hne)
  have HK2 := Lib.hid (HK.out.trans hk2)
  clear hw2 hk2 HP c0 c1 c2
  have c3 := row_cell HR2.out 3 rfl
  go_wp2_with fail
  refine HP2.out.mono ?_
  rintro e' W3 ⟨rfl, hw3, hk3⟩
  have HW3 := Lib.hid hw3
  have HK3 := Lib.hid (HK2.out.trans hk3)
  clear hw3 hk3
  go_wp2_with fail
  go_end0
  exact ⟨rfl, by rw [HBY.out, HOD.out]; exact HW3.out, HK3.out⟩
def statI (b : Bool) : Int := if b then 1 else 0
def MW.bytes (m : MW) : List UInt8 := putB (u64V m.cls) 2 ++ textB m.name 1 ++ textB m.desc 1 ++ putB (u64V (statI m.stat)) 1 ++ nextsB [m.slot, m.nat]
def MW.odd (m : MW) : Bool := !roomB m.cls 2 || !roomB m.name.length 1 || !roomB m.desc.length 1 || !roomB (statI m.stat) 1 || badN [m.slot, m.nat]
theorem textB_len (s : List UInt8) (n : Nat) : (textB s n).length = n + s.length := by unfold textB; rw [List.length_append, putB_length]
theorem MW.bytes_len (m : MW) : m.bytes.length = m.name.length + m.desc.length + 9 := by unfold MW.bytes; simp only [List.length_append, putB_length, textB_len, nextsB_len, List.length_cons, List.length_nil]; omega
theorem or3 (a b c : Bool) : (a || (b || c)) = (a || b || c) := by rw [Bool.or_assoc]
set_option maxRecDepth 100000 in
set_option maxHeartbeats 8000000 in
theorem wmethod_any (w : World) (g : Nat) (bs : List UInt8) (odd : Bool) (h : WrS w g bs odd) (m : MW) (hm : m.right) (hlen : bs.length + m.bytes.length + 8 ≤ 1048576) :
    Calls Try.prog 56 #[.pointer (some ⟨g, 0, none⟩), .agg m.vals.toArray] w (PutsRet g (bs ++ m.bytes) (odd || m.odd) w) := by
  rw [MW.bytes_len] at hlen
  obtain ⟨x0, x1, x2, x3, x4, x5⟩ := m
  obtain ⟨r0, r4, r5⟩ := hm
  simp only at r0 r4 r5 hlen
  unfold MW.vals
  have HBY := Lib.hid (show bs ++ MW.bytes ⟨x0, x1, x2, x3, x4, x5⟩ = bs ++ putB (u64V x0) 2 ++ textB x1 1 ++ textB x2 1 ++ putB (u64V (statI x3)) 1 ++ nextsB [x4, x5] by unfold MW.bytes; simp only [List.append_assoc])
  have HOD := Lib.hid (show (odd || MW.odd ⟨x0, x1, x2, x3, x4, x5⟩) = (odd || !roomB x0 2 || !roomB x1.length 1 || !roomB x2.length 1 || !roomB (statI x3) 1 || badN [x4, x5]) by unfold MW.odd; simp only [Bool.or_assoc])
  have HL1 := Lib.hid (show (bs ++ putB (u64V x0) 2).length = bs.length + 2 by simp only [List.length_append, putB_length])
  have HL2 := Lib.hid (show (bs ++ putB (u64V x0) 2 ++ textB x1 1).length = bs.length + 3 + x1.length by simp only [List.length_append, putB_length, textB_len]; omega)
  have HL3 := Lib.hid (show (bs ++ putB (u64V x0) 2 ++ textB x1 1 ++ textB x2 1).length = bs.length + 4 + x1.length + x2.length by simp only [List.length_append, putB_length, textB_len]; omega)
  have HL4 := Lib.hid (show (bs ++ putB (u64V x0) 2 ++ textB x1 1 ++ textB x2 1 ++ putB (u64V (statI x3)) 1).length = bs.length + 5 + x1.length + x2.length by simp only [List.length_append, putB_length, textB_len]; omega)
  have hlt := h.lt
  have hal : Below w.heap.size w (w.alloc (.cells #[.int .i64 x0, .string ⟨x1.toArray⟩, .string ⟨x2.toArray⟩, .bool x3, .int .i64 x4, .int .i64 x5] 87)) := (Below.refl _ _).alloc (Nat.le_refl _) _
  have HW := Lib.hid (h.below hal)
  have HK := Lib.hid (Keep1.of (g := g) hal)
  have HR := Lib.hid (heap_alloc_last w (.cells #[.int .i64 x0, .string ⟨x1.toArray⟩, .string ⟨x2.toArray⟩, .bool x3, .int .i64 x4, .int .i64 x5] 87))
  have hne : w.heap.size ≠ g := by omega
  clear hal h
  go_enter Try.func56, Try.ntmps56
  go_upto_region 1 with fail
  generalize w.alloc (.cells #[.int .i64 x0, .string ⟨x1.toArray⟩, .string ⟨x2.toArray⟩, .bool x3, .int .i64 x4, .int .i64 x5] 87) = W1 at *
  have c0 := row_cell HR.out 0 rfl
  have HP := Lib.hid (wput_one W1 g bs odd HW.out 2 (by omega) x0 r0 (by omega))
  go_wp2_with fail
  refine HP.out.mono ?_
  rintro e' W2 ⟨rfl, hw2, hk2⟩
  have HP2 := Lib.hid (wtext_any W2 g _ _ hw2 1 (by omega) x1 (by rw [HL1.out]; omega))
  have HR2 := Lib.hid (hk2.blk HR.out hne)
  have HK2 := Lib.hid (HK.out.trans hk2)
  clear hw2 hk2 HP c0
  have c1 := row_cell HR2.out 1 rfl
  go_wp2_with fail
  refine HP2.out.mono ?_
  rintro e' W3 ⟨rfl, hw3, hk3⟩
  have HP3 := Lib.hid (wtext_any W3 g _ _ hw3 1 (by omega) x2 (by rw [HL2.out]; omega))
  have HR3 := Lib.hid (hk3.blk HR2.out hne)
  have HK3 := Lib.hid (HK2.out.trans hk3)
  clear hw3 hk3 HP2 c1
  have c2 := row_cell HR3.out 2 rfl
  go_wp2_with fail
  refine HP3.out.mono ?_
  rintro e' W4 ⟨rfl, hw4, hk4⟩
  have HP4 := Lib.hid (wput_one W4 g _ _ hw4 1 (by omega) (statI x3) (by unfold statI IntR; split <;> omega) (by rw [HL3.out]; omega))
  have HR4 := Lib.hid (hk4.blk HR3.out hne)
  have HK4 := Lib.hid (HK3.out.trans hk4)
  clear hw4 hk4 HP3 c2
  have c3 := row_cell HR4.out 3 rfl
  cases x3
  all_goals
    unfold statI at HP4
    go_wp2_with fail
    refine HP4.out.mono ?_
    rintro e' W5 ⟨rfl, hw5, hk5⟩
    have HP5 := Lib.hid (wnext_lit W5 g _ _ hw5 [x4, x5] (r_two r4 r5) (by show _ + 2 * 4 ≤ 1048576; have := HL4.out; unfold statI at this; simp only [List.length_append, putB_length, textB_len]; omega) #[.int .i64 x4, .int .i64 x5] rfl 2 rfl)
    have HR5 := Lib.hid (hk5.blk HR4.out hne)
    have HK5 := Lib.hid (HK4.out.trans hk5)
    clear hw5 hk5 HP4 c3
    have c4 := row_cell HR5.out 4 rfl
    have c5 := row_cell HR5.out 5 rfl
    go_wp2_with fail
    refine HP5.out.mono ?_
    rintro e' W6 ⟨rfl, hw6, hk6⟩
    have HW6 := Lib.hid hw6
    have HK6 := Lib.hid (HK5.out.trans hk6)
    clear hw6 hk6
    go_wp2_with fail
    go_end0
    exact ⟨rfl, by rw [HBY.out, HOD.out]; exact HW6.out, HK6.out⟩
def intsB (l : List Int) : List UInt8 := rowB (fun v => putB (u64V v) 2) l
def intsO (l : List Int) : Bool := rowO (fun v => !roomB v 2) l
theorem intsB_len (l : List Int) : (intsB l).length = 2 + l.length * 2 := by
  unfold intsB rowB
  rw [List.length_append, putB_length]
  have h := putsB_len l 2
  unfold putsB at h
  rw [h]
theorem wints_any (w : World) (g : Nat) (bs : List UInt8) (odd : Bool) (h : WrS w g bs odd) (a : Option Addr) (n cap : Nat) (l : List Int) (hs : Sl encZ w a n l) (ho : Off1 a n g) (hz : ∀ v ∈ l, IntR v) (hlen : bs.length + (intsB l).length + 8 ≤ 1048576) :
    Calls Try.prog 57 #[.pointer (some ⟨g, 0, none⟩), .slice a n cap, .func (.func 58) #[.pointer (some ⟨g, 0, none⟩)] #[]] w (PutsRet g (bs ++ intsB l) (odd || intsO l) w) := by
  have h1 := intsB_len l
  refine wmany_int w g bs odd h a n cap l hs ho (by have := hs.1; omega) (fun v => putB (u64V v) 2) (fun v => !roomB v 2) ?_ (fun v hv W bs' od' h' _ hl => ?_)
  · unfold intsB rowB at h1 hlen
    rw [List.length_append, putB_length] at h1 hlen
    omega
  · rw [putB_length] at hl
    exact wtwo_any W g bs' od' h' v (hz v hv) (by omega)
def CW.bytes (c : CW) : List UInt8 := textB c.name 1 ++ nextsB [c.sup] ++ putB (u64V c.cells) 2 ++ intsB c.refs ++ intsB c.table
def CW.odd (c : CW) : Bool := !roomB c.name.length 1 || badN [c.sup] || !roomB c.cells 2 || intsO c.refs || intsO c.table
theorem CW.bytes_len (c : CW) : c.bytes.length = 5 + c.name.length + (intsB c.refs).length + (intsB c.table).length := by unfold CW.bytes; simp only [List.length_append, putB_length, textB_len, nextsB_len, List.length_cons, List.length_nil]; omega
set_option maxRecDepth 100000 in
set_option maxHeartbeats 8000000 in
theorem wclass_any (w : World) (g : Nat) (bs : List UInt8) (odd : Bool) (h : WrS w g bs odd) (c : CW) (hc : c.right) (hr : c.Rd w) (o1 : Off1 c.ra c.rn g) (o2 : Off1 c.ta c.tn g) (hlen : bs.length + c.bytes.length + 8 ≤ 1048576) :
    Calls Try.prog 54 #[.pointer (some ⟨g, 0, none⟩), .agg c.vals.toArray] w (PutsRet g (bs ++ c.bytes) (odd || c.odd) w) := by
  rw [CW.bytes_len] at hlen
  obtain ⟨x0, x1, x2, xra, xrn, xrc, xr, xta, xtn, xtc, xt⟩ := c
  obtain ⟨r1, r2, rr, rt⟩ := hc
  obtain ⟨s1, s2, _, _⟩ := hr
  simp only at r1 r2 rr rt s1 s2 o1 o2 hlen
  unfold CW.vals
  have HBY := Lib.hid (show bs ++ CW.bytes ⟨x0, x1, x2, xra, xrn, xrc, xr, xta, xtn, xtc, xt⟩ = bs ++ textB x0 1 ++ nextsB [x1] ++ putB (u64V x2) 2 ++ intsB xr ++ intsB xt by unfold CW.bytes; simp only [List.append_assoc])
  have HOD := Lib.hid (show (odd || CW.odd ⟨x0, x1, x2, xra, xrn, xrc, xr, xta, xtn, xtc, xt⟩) = (odd || !roomB x0.length 1 || badN [x1] || !roomB x2 2 || intsO xr || intsO xt) by unfold CW.odd; simp only [Bool.or_assoc])
  have HL1 := Lib.hid (show (bs ++ textB x0 1).length = bs.length + 1 + x0.length by simp only [List.length_append, textB_len]; omega)
  have HL2 := Lib.hid (show (bs ++ textB x0 1 ++ nextsB [x1]).length = bs.length + 3 + x0.length by simp only [List.length_append, textB_len, nextsB_len, List.length_cons, List.length_nil]; omega)
  have HL3 := Lib.hid (show (bs ++ textB x0 1 ++ nextsB [x1] ++ putB (u64V x2) 2).length = bs.length + 5 + x0.length by simp only [List.length_append, textB_len, nextsB_len, List.length_cons, List.length_nil, putB_length]; omega)
  have HL4 := Lib.hid (show (bs ++ textB x0 1 ++ nextsB [x1] ++ putB (u64V x2) 2 ++ intsB xr).length = bs.length + 5 + x0.length + (intsB xr).length by simp only [List.length_append, textB_len, nextsB_len, List.length_cons, List.length_nil, putB_length]; omega)
  have hlt := h.lt
  have hal : Below w.heap.size w (w.alloc (.cells #[.string ⟨x0.toArray⟩, .int .i64 x1, .int .i64 x2, .slice xra xrn xrc, .slice xta xtn xtc] 82)) := (Below.refl _ _).alloc (Nat.le_refl _) _
  have HW := Lib.hid (h.below hal)
  have HK := Lib.hid (Keep1.of (g := g) hal)
  have HR := Lib.hid (heap_alloc_last w (.cells #[.string ⟨x0.toArray⟩, .int .i64 x1, .int .i64 x2, .slice xra xrn xrc, .slice xta xtn xtc] 82))
  have HS1 := Lib.hid s1
  have HS2 := Lib.hid s2
  have O1 := Lib.hid o1
  have O2 := Lib.hid o2
  have hne : w.heap.size ≠ g := by omega
  clear hal h s1 s2 o1 o2
  go_enter Try.func54, Try.ntmps54
  go_upto_region 1 with fail
  generalize w.alloc (.cells #[.string ⟨x0.toArray⟩, .int .i64 x1, .int .i64 x2, .slice xra xrn xrc, .slice xta xtn xtc] 82) = W1 at *
  have c0 := row_cell HR.out 0 rfl
  have HP := Lib.hid (wtext_any W1 g bs odd HW.out 1 (by omega) x0 (by omega))
  go_wp2_with fail
  refine HP.out.mono ?_
  rintro e' W2 ⟨rfl, hw2, hk2⟩
  have HP2 := Lib.hid (wnext_lit W2 g _ _ hw2 [x1] (r_one r1) (by rw [HL1.out]; show _ + 1 * 4 ≤ 1048576; omega) #[.int .i64 x1] rfl 1 rfl)
  have HR2 := Lib.hid (hk2.blk HR.out hne)
  have HK2 := Lib.hid (HK.out.trans hk2)
  clear hw2 hk2 HP c0
  have c1 := row_cell HR2.out 1 rfl
  go_wp2_with fail
  refine HP2.out.mono ?_
  rintro e' W3 ⟨rfl, hw3, hk3⟩
  have HP3 := Lib.hid (wput_one W3 g _ _ hw3 2 (by omega) x2 r2 (by rw [HL2.out]; omega))
  have HR3 := Lib.hid (hk3.blk HR2.out hne)
  have HK3 := Lib.hid (HK2.out.trans hk3)
  clear hw3 hk3 HP2 c1
  have c2 := row_cell HR3.out 2 rfl
  go_wp2_with fail
  refine HP3.out.mono ?_
  rintro e' W4 ⟨rfl, hw4, hk4⟩
  have HR4 := Lib.hid (hk4.blk HR3.out hne)
  have HK4 := Lib.hid (HK3.out.trans hk4)
  have HP4 := Lib.hid (wints_any W4 g _ _ hw4 xra xrn xrc xr (HS1.out.keep1 HK4.out O1.out) O1.out rr (by rw [HL3.out]; omega))
  clear hw4 hk4 HP3 c2
  have c3 := row_cell HR4.out 3 rfl
  go_wp2_with fail
  refine HP4.out.mono ?_
  rintro e' W5 ⟨rfl, hw5, hk5⟩
  have HR5 := Lib.hid (hk5.blk HR4.out hne)
  have HK5 := Lib.hid (HK4.out.trans hk5)
  have HP5 := Lib.hid (wints_any W5 g _ _ hw5 xta xtn xtc xt (HS2.out.keep1 HK5.out O2.out) O2.out rt (by rw [HL4.out]; omega))
  clear hw5 hk5 HP4 c3
  have c4 := row_cell HR5.out 4 rfl
  go_wp2_with fail
  refine HP5.out.mono ?_
  rintro e' W6 ⟨rfl, hw6, hk6⟩
  have HW6 := Lib.hid hw6
  have HK6 := Lib.hid (HK5.out.trans hk6)
  clear hw6 hk6
  go_wp2_with fail
  go_end0
  exact ⟨rfl, by rw [HBY.out, HOD.out]; exact HW6.out, HK6.out⟩
end Go.Proofs.Ytbcldlbmbdfejaa
