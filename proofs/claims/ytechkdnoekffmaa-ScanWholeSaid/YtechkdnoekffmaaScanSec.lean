/- scan: a sector of the law's. No condition. -/
import Derived.Test.YtechkdnoekffmaaScanFn2
namespace Go.Proofs.Ytechkdnoekffmaa
open Go.ChangeShapes Go.WideShapes Go.ChangeAt Go.RowKit
def head6 (s : Nat) : List UInt8 := [67, 66] ++ putB s 4
def headB (s : Nat) : List UInt8 := head6 s ++ putB (crcN (head6 s)) 2
theorem head6_length (s : Nat) : (head6 s).length = 6 := by simp [head6, putB_length]
theorem headB_length (s : Nat) : (headB s).length = 8 := by simp [headB, head6_length, putB_length]
set_option maxRecDepth 100000 in
set_option maxHeartbeats 1000000 in
theorem refBytes_any (w : World) (s : Nat) (hs : s < 4294967296) : Calls Try.prog 16 #[.int .u32 s] w (OwnRet encB 5 w.heap.size w (headB s)) := by
  have kc := fun (w : World) (C : Array Value) (n c : Nat) => Lib.run_convert_bytes_const (P := Try.prog) w 24 5 C n c Try.underlying24 Try.underlying5
  go_enter Try.func16, Try.ntmps16
  go_wp2_with fail
  have H1 := Lib.hid ((Below.refl w.heap.size w).alloc (Nat.le_refl _) (Obj.cells #[.int .u8 67, .int .u8 66] 5 (2, 3)))
  have HS1 := Lib.hid (Sl.lit (enc := encB) (n := 2) (xs := [67, 66]) (heap_alloc_last w (Obj.cells #[.int .u8 67, .int .u8 66] 5 (2, 3))) rfl rfl)
  refine (refPut_any _ _ 2 2 [67, 66] s 4 HS1.out (by decide) (by omega) (by decide) (by decide)).mono ?_
  clear kc
  rintro e w2 ⟨v2, m2, rfl, hown2, hb2⟩
  rw [show [67, 66] ++ putB s 4 = head6 s from rfl] at hown2
  obtain ⟨a2, cap2, rfl, hsl2, hc2⟩ := Sl.ofOwn hown2
  have hm2 := hsl2.1
  rw [head6_length] at hm2
  subst hm2
  have H2 := Lib.hid (H1.out.trans (hb2.mono H1.out.size))
  have HS2 := Lib.hid hsl2
  clear hown2 hsl2 hb2
  go_wp2_with fail
  refine (refSum16_any _ _ _ _ (head6 s) HS2.out.bs (by decide)).mono ?_
  rw [ref_crcN]
  rintro e w3 ⟨rfl, rfl⟩
  have hcl := crcN_lt (head6 s)
  obtain ⟨c, hcc⟩ : ∃ c, c = crcN (head6 s) := ⟨_, rfl⟩
  rw [← hcc] at hcl ⊢
  have HC := Lib.hid hcc
  clear hcc
  go_wp2_with fail
  refine (refPut_any _ _ 6 cap2 (head6 s) c 2 HS2.out (by decide) (by omega) (by decide) (by decide)).mono ?_
  rintro e w4 ⟨v4, m4, rfl, hown4, hb4⟩
  rw [HC.out] at hown4
  have HO := Lib.hid (own_mono hown4 H2.out.size)
  have H4 := Lib.hid (H2.out.trans (hb4.mono H2.out.size))
  clear hown4 hb4
  go_wp2
  go_ret
  exact ⟨_, _, rfl, HO.out, H4.out⟩
/-- A header. -/
def hdB : List UInt8 := headB 3 ++ [0, 255, 255, 255]
theorem hdB_length : hdB.length = 12 := by simp [hdB, headB_length]
theorem hdB_eight : hdB.getD 8 0 ≠ 255 := by
  unfold hdB
  rw [List.getD_eq_getElem?_getD, List.getElem?_append_right (by rw [headB_length]; omega), headB_length]
  decide
set_option maxRecDepth 100000 in
set_option maxHeartbeats 2000000 in
theorem sector_own (w : World) (a : Option Addr) (n cap : Nat) (bs : List UInt8) (hs : Sl encB w a n bs) (hn : n ≤ 65536) :
    Calls Try.prog 9 #[.slice a n cap] w (fun e w' => ∃ v, e = .returned v ∧ w'.ownsRow w.heap.size 5 1 v (12 + n) ((hdB ++ bs).map encB) ∧ Below w.heap.size w w') := by
  have HS := Lib.hid hs
  have hl := hs.1
  have HL := Lib.hid hl
  clear hs hl
  go_enter Try.func9, Try.ntmps9
  go_wp2_with fail
  refine (refBytes_any w 3 (by decide)).mono ?_
  rintro e w1 ⟨v1, m1, rfl, hown1, hb1⟩
  obtain rfl : m1 = 8 := by have h := hown1.1; rw [List.length_map, headB_length] at h; omega
  have HO1 := Lib.hid hown1
  have HB1 := Lib.hid hb1
  clear hown1 hb1
  go_wp2_with (at_builtin; first
    | (refine wpList_app_lit oneB rfl _ _ rfl w.heap.size _ 8 _ rfl HO1.out _ 4 _ rfl rfl rfl (by omega) (by unfold maxLen; omega) HB1.out.size ?_; intro v2 w2 hown2 hg2 hb2; have HO2 := Lib.hid hown2; have HB2 := Lib.hid (HB1.out.trans (hb2.mono (Nat.le_refl _))); clear hown2 hg2 hb2 HO1)
    | (refine wpList_app1 oneB rfl _ _ _ rfl w.heap.size _ _ _ rfl HO2.out _ _ _ rfl ((HS.out.below HB2.out).src encB_cell Try.underlying24 _) (by omega) (by unfold maxLen; omega) HB2.out.size ?_; intro v3 w3 hown3 hg3 hb3; have HO3 := Lib.hid hown3; have HB3 := Lib.hid (HB2.out.trans hb3); clear hown3 hg3 hb3))
  go_ret
  have h3 : w3.ownsRow w.heap.size 5 1 v3 (12 + n) ((hdB ++ bs).map encB) := by
    have h := HO3.out
    unfold hdB
    rw [List.map_append, List.map_append]
    exact h
  exact ⟨v3, rfl, h3, HB3.out⟩
theorem sector_any (w : World) (a : Option Addr) (n cap : Nat) (bs : List UInt8) (hs : Sl encB w a n bs) (hn : n ≤ 65536) :
    Calls Try.prog 9 #[.slice a n cap] w (fun e w' => ∃ a' c', e = .returned (.slice a' (12 + n) c') ∧ Sl encB w' a' (12 + n) (hdB ++ bs) ∧ 12 + n ≤ c' ∧ Below w.heap.size w w') :=
  (sector_own w a n cap bs hs hn).mono fun e w' ⟨v, he, ho, hb⟩ => by
    obtain ⟨a', c', rfl, hsl, hc⟩ := Sl.ofOwn ho
    exact ⟨a', c', he, hsl, hc, hb⟩
theorem Founds.slice {w : World} {B : Nat} {v : Value} {k : Nat} {F : List FV} (h : Founds w B v k F) : ∃ a c, v = .slice a k c := by
  rcases h.own.2 with ⟨rfl, h0⟩ | ⟨g, cap, cur, rfl, _⟩
  · exact ⟨none, 0, by rw [h0]⟩
  · exact ⟨_, _, rfl⟩
end Go.Proofs.Ytechkdnoekffmaa
