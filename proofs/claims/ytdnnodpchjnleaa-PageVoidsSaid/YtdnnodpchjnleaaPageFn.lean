/- page: headers: the walks. No condition. -/
import Derived.Test.YtdnnodpchjnleaaNumFn
import Derived.Test.YtdnnodpchjnleaaCrcPlain
namespace Go.Proofs.Ytdnnodpchjnleaa
open Go.ChangeShapes Go.WideShapes Go.ChangeAt Go.RowKit

set_option maxRecDepth 100000 in
set_option maxHeartbeats 1000000 in
theorem Equal_any (w : World) (a : Option Addr) (n cap : Nat) (xs : List UInt8) (b : Option Addr) (m capb : Nat) (ys : List UInt8) (hx : Sl encB w a n xs) (hy : Sl encB w b m ys) :
    Calls Try.prog 36 #[.slice a n cap, .slice b m capb] w fun e w' => e = .returned (.bool (xs == ys)) ∧ w = w' := by
  have c1 := run_conv hx cap
  have c2 := run_conv hy capb
  clear hx hy
  go_enter Try.func36, Try.ntmps36
  go_wp2
  go_ret
  exact ⟨by simp, rfl⟩

set_option maxRecDepth 100000 in
set_option maxHeartbeats 1000000 in
theorem HasPrefix_any (w : World) (a : Option Addr) (n cap : Nat) (xs : List UInt8) (b : Option Addr) (m capb : Nat) (ys : List UInt8) (hx : Sl encB w a n xs) (hy : Sl encB w b m ys) (hc : n ≤ cap) (hm : m ≤ n) :
    Calls Try.prog 20 #[.slice a n cap, .slice b m capb] w fun e w' => e = .returned (.bool (xs.take m == ys)) ∧ w = w' := by
  have HE := Lib.hid (Equal_any w a m cap (xs.take m) b m capb ys (hx.take hm) hy)
  revert HE
  generalize (xs.take m == ys) = r
  intro HE
  have g1 : (m : Int) ≤ (cap : Int) := by omega
  have g2 : (n : Int) ≤ (cap : Int) := by omega
  clear hx hy
  go_enter Try.func20, Try.ntmps20
  go_wp2_with fail
  refine HE.out.mono ?_
  rintro e w' ⟨rfl, rfl⟩
  go_wp2
  go_ret
  exact ⟨rfl, rfl⟩

theorem info2 : (Try.prog.info? 50).map (·.size) = some 2 := by kernel_rfl
def markV : Value := .agg #[.int .u8 67, .int .u8 66]
set_option maxRecDepth 100000 in
set_option maxHeartbeats 1000000 in
theorem mark_any (w : World) : Calls Try.prog 19 #[] w fun e w' => e = .returned markV ∧ Below w.heap.size w w' := by
  go_enter Try.func19, Try.ntmps19
  go_wp2
  refine bodyPost_ret (v := markV) (results_cell_row rfl _ _ w.heap.size _ _ _ _ rfl (heap_alloc_last w _) Try.underlying50 rfl info2) rfl ⟨rfl, (Below.refl _ _).alloc (Nat.le_refl _) _⟩

/-- A header's beginning. -/
def crcN (bs : List UInt8) : Nat := (crc16 65535#16 bs).toNat
theorem crcN_lt (bs : List UInt8) : crcN bs < 65536 := (crc16 65535#16 bs).isLt
theorem up_crcN (bs : List UInt8) : bs.foldl upByte 65535 = (crcN bs : Int) := up_crc bs 65535#16
theorem ref_crcN (bs : List UInt8) : bs.foldl refByte16 65535 = (crcN bs : Int) := ref_crc16 bs 65535#16
def head6 (s : Nat) : List UInt8 := [67, 66] ++ putB s 4
def headB (s : Nat) : List UInt8 := head6 s ++ putB (crcN (head6 s)) 2
theorem head6_length (s : Nat) : (head6 s).length = 6 := by simp [head6, putB_length]
theorem headB_length (s : Nat) : (headB s).length = 8 := by simp [headB, head6_length, putB_length]

set_option maxRecDepth 100000 in
set_option maxHeartbeats 1000000 in
theorem Bytes_any (w : World) (s : Nat) (hs : s < 4294967296) : Calls Try.prog 9 #[.int .u32 s] w (OwnRet encB 5 w.heap.size w (headB s)) := by
  go_enter Try.func9, Try.ntmps9
  go_wp2_with fail
  refine (mark_any _).mono ?_
  rintro e w1 ⟨rfl, hb1⟩
  unfold markV
  go_wp2_with fail
  have H1 := Lib.hid (hb1.alloc hb1.size (Obj.cells #[.int .u8 67, .int .u8 66] 50))
  have HS1 := Lib.hid (Sl.lit (enc := encB) (n := 2) (xs := [67, 66]) (heap_alloc_last w1 (Obj.cells #[.int .u8 67, .int .u8 66] 50)) rfl rfl)
  clear hb1
  refine (Put_any _ _ 2 2 [67, 66] s 4 HS1.out (by decide) (by decide) (by omega) (by decide) (by decide)).mono ?_
  rintro e w2 ⟨v2, m2, rfl, hown2, hb2⟩
  rw [show [67, 66] ++ putB s 4 = head6 s from rfl] at hown2
  obtain ⟨a2, cap2, rfl, hsl2, hc2⟩ := Sl.ofOwn hown2
  have hm2 := hsl2.1
  rw [head6_length] at hm2
  subst hm2
  have H2 := Lib.hid (H1.out.trans (hb2.mono H1.out.size))
  have HS2 := Lib.hid hsl2
  clear hown2 hsl2 hb2
  go_wp2_with fail
  refine (Sum16_any _ _ _ _ (head6 s) HS2.out.bs (by decide)).mono ?_
  rw [up_crcN]
  rintro e w3 ⟨rfl, hb3⟩
  have hcl := crcN_lt (head6 s)
  have H3 := Lib.hid (H2.out.trans (hb3.mono H2.out.size))
  have HS3 := Lib.hid (HS2.out.below hb3)
  obtain ⟨c, hcc⟩ : ∃ c, c = crcN (head6 s) := ⟨_, rfl⟩
  rw [← hcc] at hcl ⊢
  have HC := Lib.hid hcc
  clear hb3 hcc
  go_wp2_with fail
  refine (Put_any _ _ 6 cap2 (head6 s) c 2 HS3.out (by decide) hc2 (by omega) (by decide) (by decide)).mono ?_
  rintro e w4 ⟨v4, m4, rfl, hown4, hb4⟩
  rw [HC.out] at hown4
  have HO := Lib.hid (own_mono hown4 H3.out.size)
  have H4 := Lib.hid (H3.out.trans (hb4.mono H3.out.size))
  clear hown4 hb4
  go_wp2
  go_ret
  exact ⟨_, _, rfl, HO.out, H4.out⟩

set_option maxRecDepth 100000 in
set_option maxHeartbeats 1000000 in
theorem refBytes_any (w : World) (s : Nat) (hs : s < 4294967296) : Calls Try.prog 10 #[.int .u32 s] w (OwnRet encB 5 w.heap.size w (headB s)) := by
  have kc := fun (w : World) (C : Array Value) (n c : Nat) => Lib.run_convert_bytes_const (P := Try.prog) w 23 5 C n c Try.underlying23 Try.underlying5
  go_enter Try.func10, Try.ntmps10
  go_wp2_with fail
  have H1 := Lib.hid ((Below.refl w.heap.size w).alloc (Nat.le_refl _) (Obj.cells #[.int .u8 67, .int .u8 66] 5 (2, 3)))
  have HS1 := Lib.hid (Sl.lit (enc := encB) (n := 2) (xs := [67, 66]) (heap_alloc_last w (Obj.cells #[.int .u8 67, .int .u8 66] 5 (2, 3))) rfl rfl)
  refine (refPut_any _ _ 2 2 [67, 66] s 4 HS1.out (by decide) (by omega) (by decide) (by decide)).mono ?_
  clear kc
  rintro e w2 ⟨v2, m2, rfl, hown2, hb2⟩
  rw [show [67, 66] ++ putB s 4 = head6 s from rfl] at hown2
  obtain ⟨a2, cap2, rfl, hsl2, hc2⟩ := Sl.ofOwn hown2
  have hm2 := hsl2.1
  rw [head6_length] at hm2
  subst hm2
  have H2 := Lib.hid (H1.out.trans (hb2.mono H1.out.size))
  have HS2 := Lib.hid hsl2
  clear hown2 hsl2 hb2
  go_wp2_with fail
  refine (refSum16_any _ _ _ _ (head6 s) HS2.out.bs (by decide)).mono ?_
  rw [ref_crcN]
  rintro e w3 ⟨rfl, rfl⟩
  have hcl := crcN_lt (head6 s)
  obtain ⟨c, hcc⟩ : ∃ c, c = crcN (head6 s) := ⟨_, rfl⟩
  rw [← hcc] at hcl ⊢
  have HC := Lib.hid hcc
  clear hcc
  go_wp2_with fail
  refine (refPut_any _ _ 6 cap2 (head6 s) c 2 HS2.out (by decide) (by omega) (by decide) (by decide)).mono ?_
  rintro e w4 ⟨v4, m4, rfl, hown4, hb4⟩
  rw [HC.out] at hown4
  have HO := Lib.hid (own_mono hown4 H2.out.size)
  have H4 := Lib.hid (H2.out.trans (hb4.mono H2.out.size))
  clear hown4 hb4
  go_wp2
  go_ret
  exact ⟨_, _, rfl, HO.out, H4.out⟩
end Go.Proofs.Ytdnnodpchjnleaa
