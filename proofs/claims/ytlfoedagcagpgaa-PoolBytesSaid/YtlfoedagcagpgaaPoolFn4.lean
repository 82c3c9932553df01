/- pool: leads (printed by gen/pool2.py). No condition. -/
import Derived.Test.YtlfoedagcagpgaaPoolFn3
import Derived.Test.YtlfoedagcagpgaaUtfFn2
import Derived.Test.YtlfoedagcagpgaaConv
namespace Go.Proofs.Ytlfoedagcagpgaa
open Go.ChangeShapes Go.WideShapes Go.ChangeAt Go.RowKit
def BoolRet (r : Bool) (w : World) (e : Ending) (w' : World) : Prop := e = .returned (.bool r) ∧ Below w.heap.size w w'
theorem below_1 (w : World) (A : Obj) : Below w.heap.size w (w.alloc A) := (Below.refl _ _).alloc (Nat.le_refl _) _
set_option maxRecDepth 100000 in
set_option maxHeartbeats 4000000 in
theorem lead_0 (w : World) (a : Option Addr) (n cap : Nat) (L : List KV) (i : Nat) (hs : Ks w a n L) (hn : n ≤ 65536) (hi : i < n) (ht : (kAt L i).tag = 0) : Calls Try.prog 21 #[.slice a n cap, .int .i64 i] w (BoolRet (leadOk L i) w) := by
  obtain ⟨b, off, rfl, hbl, hk⟩ := hs.at i hi
  obtain ⟨q0, q1, q2, q3, q4⟩ := hk
  rw [ht] at q0
  by_cases h0 : i = 0
  · subst h0
    have ht' : (kAt L 0).tag = 0 := ht
    rw [show leadOk L 0 = true from by unfold leadOk; simp [ht']]
    simp only [Nat.zero_mul, Nat.add_zero] at q0 q1 q2 q3 q4
    clear hs ht ht'
    go_enter Try.func21, Try.ntmps21
    go_wp2_with fail
    go_ret
    exact ⟨rfl, below_1 _ _⟩
  · obtain ⟨b', off', he, _, hk⟩ := hs.at (i - 1) (by omega)
    cases he
    have p0 := hk.c0
    have hij : ((i - 1 : Nat) : Int) = (i : Int) - 1 := by omega
    rw [show off + (i - 1) * 5 = off + (i - 1) * 5 from rfl] at p0
    have e0 : ((i : Int) == 0) = false := by simp; omega
    have i1 : (1 : Int) ≤ i := by omega
    have i2 : ((i : Int) - 1).toNat = i - 1 := by omega
    have i3 : (i : Int) - 1 < n := by omega
    rw [show leadOk L i = decide ((kAt L ((i : Int) - 1)).tag = 5) from by unfold leadOk; simp [ht, h0], ← hij]
    generalize (kAt L ((i - 1 : Nat) : Int)).tag = t1 at *
    clear hs ht hk hij h0
    generalize (kAt L i).a = ca at *
    generalize (kAt L i).b = cb at *
    generalize (kAt L i).n = cn at *
    generalize (kAt L i).s = cs at *
    by_cases h5 : t1 = 5
    · subst h5
      go_enter Try.func21, Try.ntmps21
      go_wp2_with fail
      go_ret
      exact ⟨rfl, below_1 _ _⟩
    · have e5 : (t1 == 5) = false := by simp [h5]
      rw [decide_eq_false h5]
      clear h5
      go_enter Try.func21, Try.ntmps21
      go_wp2_with fail
      go_ret
      exact ⟨rfl, below_1 _ _⟩
set_option maxRecDepth 100000 in
set_option maxHeartbeats 4000000 in
theorem lead_1 (w : World) (a : Option Addr) (n cap : Nat) (L : List KV) (i : Nat) (hs : Ks w a n L) (hn : n ≤ 65536) (hi : i < n) (ht : (kAt L i).tag = 1) (hl : (kAt L i).s.length ≤ 65536) : Calls Try.prog 21 #[.slice a n cap, .int .i64 i] w (BoolRet (leadOk L i) w) := by
  obtain ⟨b, off, rfl, hbl, hk⟩ := hs.at i hi
  obtain ⟨q0, q1, q2, q3, q4⟩ := hk
  rw [ht] at q0
  obtain ⟨r, hrr⟩ : ∃ r, r = leadOk L i := ⟨_, rfl⟩
  rw [← hrr]
  have HRR := Lib.hid (show r = ((decodeB (kAt L i).s).isSome && decide ((kAt L i).s.length ≤ 65535)) from by rw [hrr]; unfold leadOk; simp [ht])
  clear hrr
  generalize (kAt L i).a = ca at *
  generalize (kAt L i).b = cb at *
  generalize (kAt L i).n = cn at *
  generalize (kAt L i).s = cs at *
  obtain ⟨c, w1, hr, hs1, hc1, hb1, hz1⟩ := conv_bytes (w.alloc (.cells #[.int .i64 1, .int .i64 ca, .int .i64 cb, .int .i64 cn, .string ⟨cs.toArray⟩] 28)) cs
  have hz : (w.alloc (.cells #[.int .i64 1, .int .i64 ca, .int .i64 cb, .int .i64 cn, .string ⟨cs.toArray⟩] 28)).heap.size = w.heap.size + 1 := by simp
  rw [hz] at hr hs1
  clear hz
  have CL := Len_any w1 _ cs.length c cs hs1 hl hc1
  have HB1 := Lib.hid (show Below w.heap.size w w1 from (below_1 _ _).trans (hb1.mono (by simp)))
  have HK1 := Lib.hid (cellS_below hb1 (cell_of_row (w.alloc (.cells #[.int .i64 1, .int .i64 ca, .int .i64 cb, .int .i64 cn, .string ⟨cs.toArray⟩] 28)) w.heap.size 4 _ _ _ (heap_alloc_last w _)))
  have HL := Lib.hid CL
  clear CL hs hs1 hc1 hb1 ht hz1
  go_enter Try.func21, Try.ntmps21
  go_wp2_with fail
  refine HL.out.mono ?_
  rintro e w2 ⟨rfl, hb2⟩
  have HB2 := Lib.hid (HB1.out.trans (hb2.mono HB1.out.size))
  have c4 : w2.cell? ⟨w.heap.size, 4, none⟩ = some (.string ⟨cs.toArray⟩) := cellS_below hb2 HK1.out
  clear hb2 hr
  cases hd : decodeB cs with
  | none =>
    rw [hd] at HRR
    simp only [lenOf]
    clear hd
    go_wp2_with fail
    go_ret
    exact ⟨by rw [HRR.out]; rfl, HB2.out⟩
  | some us =>
    rw [hd] at HRR
    simp only [lenOf]
    clear hd
    by_cases h6 : cs.length ≤ 65535
    · have h7 : decide ((cs.length : Int) ≤ 65535) = true := by simp; omega
      have H6 := Lib.hid (show r = true by rw [HRR.out, decide_eq_true h6]; rfl)
      go_wp2_with fail
      go_ret
      exact ⟨by rw [H6.out]; rfl, HB2.out⟩
    · have h7 : decide ((cs.length : Int) ≤ 65535) = false := by simp; omega
      have H6 := Lib.hid (show r = false by rw [HRR.out, decide_eq_false h6]; rfl)
      go_wp2_with fail
      go_ret
      exact ⟨by rw [H6.out]; rfl, HB2.out⟩
set_option maxRecDepth 100000 in
set_option maxHeartbeats 4000000 in
theorem lead_3 (w : World) (a : Option Addr) (n cap : Nat) (L : List KV) (i : Nat) (hs : Ks w a n L) (hn : n ≤ 65536) (hi : i < n) (ht : (kAt L i).tag = 3) : Calls Try.prog 21 #[.slice a n cap, .int .i64 i] w (BoolRet (leadOk L i) w) := by
  obtain ⟨b, off, rfl, hbl, hk⟩ := hs.at i hi
  obtain ⟨q0, q1, q2, q3, q4⟩ := hk
  rw [ht] at q0
  rw [show leadOk L i = true from by unfold leadOk; simp [ht]]
  clear hs ht
  generalize (kAt L i).a = ca at *
  generalize (kAt L i).b = cb at *
  generalize (kAt L i).n = cn at *
  generalize (kAt L i).s = cs at *
  go_enter Try.func21, Try.ntmps21
  go_wp2_with fail
  go_ret
  exact ⟨rfl, below_1 _ _⟩
set_option maxRecDepth 100000 in
set_option maxHeartbeats 4000000 in
theorem lead_5 (w : World) (a : Option Addr) (n cap : Nat) (L : List KV) (i : Nat) (hs : Ks w a n L) (hn : n ≤ 65536) (hi : i < n) (ht : (kAt L i).tag = 5) : Calls Try.prog 21 #[.slice a n cap, .int .i64 i] w (BoolRet (leadOk L i) w) := by
  obtain ⟨b, off, rfl, hbl, hk⟩ := hs.at i hi
  obtain ⟨q0, q1, q2, q3, q4⟩ := hk
  rw [ht] at q0
  rw [show leadOk L i = (decide (i + 1 < n) && decide ((kAt L ((i : Int) + 1)).tag = 0)) from by unfold leadOk; simp [ht, hs.1]]
  by_cases h1 : i + 1 < n
  · obtain ⟨b', off', he, _, hk⟩ := hs.at (i + 1) h1
    cases he
    have p0 := hk.c0
    have hij : ((i + 1 : Nat) : Int) = (i : Int) + 1 := by omega
    rw [← hij, decide_eq_true h1, Bool.true_and]
    have e1 : decide ((i : Int) + 1 < n) = true := by simp; omega
    have i3 : (i : Int) + 1 < n := by omega
    generalize (kAt L ((i + 1 : Nat) : Int)).tag = t1 at *
    clear hs ht hk hij
    generalize (kAt L i).a = ca at *
    generalize (kAt L i).b = cb at *
    generalize (kAt L i).n = cn at *
    generalize (kAt L i).s = cs at *
    by_cases h5 : t1 = 0
    · subst h5
      go_enter Try.func21, Try.ntmps21
      go_wp2_with fail
      go_ret
      exact ⟨rfl, below_1 _ _⟩
    · have e5 : (t1 == 0) = false := by simp [h5]
      rw [decide_eq_false h5]
      clear h5
      go_enter Try.func21, Try.ntmps21
      go_wp2_with fail
      go_ret
      exact ⟨rfl, below_1 _ _⟩
  · rw [decide_eq_false h1, Bool.false_and]
    have e1 : decide ((i : Int) + 1 < n) = false := by simp; omega
    clear hs ht
    generalize (kAt L i).a = ca at *
    generalize (kAt L i).b = cb at *
    generalize (kAt L i).n = cn at *
    generalize (kAt L i).s = cs at *
    go_enter Try.func21, Try.ntmps21
    go_wp2_with fail
    go_ret
    exact ⟨rfl, below_1 _ _⟩
set_option maxRecDepth 100000 in
set_option maxHeartbeats 4000000 in
theorem lead_12 (w : World) (a : Option Addr) (n cap : Nat) (L : List KV) (i : Nat) (hs : Ks w a n L) (hn : n ≤ 65536) (hi : i < n) (ht : (kAt L i).tag = 12) : Calls Try.prog 21 #[.slice a n cap, .int .i64 i] w (BoolRet (leadOk L i) w) := by
  obtain ⟨b, off, rfl, hbl, hk⟩ := hs.at i hi
  obtain ⟨q0, q1, q2, q3, q4⟩ := hk
  rw [ht] at q0
  rw [show leadOk L i = (isT L (kAt L i).a 1 && isT L (kAt L i).b 1) from by unfold leadOk; simp [ht]]
  have C1 := Lib.hid (is_any (w.alloc (.cells #[.int .i64 12, .int .i64 (kAt L i).a, .int .i64 (kAt L i).b, .int .i64 (kAt L i).n, .string ⟨(kAt L i).s.toArray⟩] 28)) _ n cap L (kAt L i).a 1 (hs.below (below_1 _ _)) hn)
  have C2 := Lib.hid (is_any (w.alloc (.cells #[.int .i64 12, .int .i64 (kAt L i).a, .int .i64 (kAt L i).b, .int .i64 (kAt L i).n, .string ⟨(kAt L i).s.toArray⟩] 28)) _ n cap L (kAt L i).b 1 (hs.below (below_1 _ _)) hn)
  generalize isT L (kAt L i).a 1 = r1 at *
  generalize isT L (kAt L i).b 1 = r2 at *
  clear hs ht
  generalize (kAt L i).a = ca at *
  generalize (kAt L i).b = cb at *
  generalize (kAt L i).n = cn at *
  generalize (kAt L i).s = cs at *
  cases r1
  · go_enter Try.func21, Try.ntmps21
    go_wp2_with fail
    refine C1.out.mono ?_
    rintro e w' ⟨rfl, rfl⟩
    go_wp2_with fail
    go_ret
    exact ⟨rfl, below_1 _ _⟩
  · go_enter Try.func21, Try.ntmps21
    go_wp2_with fail
    refine C1.out.mono ?_
    rintro e w' ⟨rfl, rfl⟩
    go_wp2_with fail
    refine C2.out.mono ?_
    rintro e w' ⟨rfl, rfl⟩
    go_wp2_with fail
    go_ret
    exact ⟨rfl, below_1 _ _⟩
set_option maxRecDepth 100000 in
set_option maxHeartbeats 4000000 in
theorem lead_7 (w : World) (a : Option Addr) (n cap : Nat) (L : List KV) (i : Nat) (hs : Ks w a n L) (hn : n ≤ 65536) (hi : i < n) (ht : (kAt L i).tag = 7) : Calls Try.prog 21 #[.slice a n cap, .int .i64 i] w (BoolRet (leadOk L i) w) := by
  obtain ⟨b, off, rfl, hbl, hk⟩ := hs.at i hi
  obtain ⟨q0, q1, q2, q3, q4⟩ := hk
  rw [ht] at q0
  rw [show leadOk L i = isT L (kAt L i).a 1 from by unfold leadOk; simp [ht]]
  have C1 := Lib.hid (is_any (w.alloc (.cells #[.int .i64 7, .int .i64 (kAt L i).a, .int .i64 (kAt L i).b, .int .i64 (kAt L i).n, .string ⟨(kAt L i).s.toArray⟩] 28)) _ n cap L (kAt L i).a 1 (hs.below (below_1 _ _)) hn)
  generalize isT L (kAt L i).a 1 = r1 at *
  clear hs ht
  generalize (kAt L i).a = ca at *
  generalize (kAt L i).b = cb at *
  generalize (kAt L i).n = cn at *
  generalize (kAt L i).s = cs at *
  go_enter Try.func21, Try.ntmps21
  go_wp2_with fail
  refine C1.out.mono ?_
  rintro e w' ⟨rfl, rfl⟩
  go_wp2_with fail
  go_ret
  exact ⟨rfl, below_1 _ _⟩
set_option maxRecDepth 100000 in
set_option maxHeartbeats 4000000 in
theorem lead_8 (w : World) (a : Option Addr) (n cap : Nat) (L : List KV) (i : Nat) (hs : Ks w a n L) (hn : n ≤ 65536) (hi : i < n) (ht : (kAt L i).tag = 8) : Calls Try.prog 21 #[.slice a n cap, .int .i64 i] w (BoolRet (leadOk L i) w) := by
  obtain ⟨b, off, rfl, hbl, hk⟩ := hs.at i hi
  obtain ⟨q0, q1, q2, q3, q4⟩ := hk
  rw [ht] at q0
  rw [show leadOk L i = isT L (kAt L i).a 1 from by unfold leadOk; simp [ht]]
  have C1 := Lib.hid (is_any (w.alloc (.cells #[.int .i64 8, .int .i64 (kAt L i).a, .int .i64 (kAt L i).b, .int .i64 (kAt L i).n, .string ⟨(kAt L i).s.toArray⟩] 28)) _ n cap L (kAt L i).a 1 (hs.below (below_1 _ _)) hn)
  generalize isT L (kAt L i).a 1 = r1 at *
  clear hs ht
  generalize (kAt L i).a = ca at *
  generalize (kAt L i).b = cb at *
  generalize (kAt L i).n = cn at *
  generalize (kAt L i).s = cs at *
  go_enter Try.func21, Try.ntmps21
  go_wp2_with fail
  refine C1.out.mono ?_
  rintro e w' ⟨rfl, rfl⟩
  go_wp2_with fail
  go_ret
  exact ⟨rfl, below_1 _ _⟩
set_option maxRecDepth 100000 in
set_option maxHeartbeats 4000000 in
theorem lead_9 (w : World) (a : Option Addr) (n cap : Nat) (L : List KV) (i : Nat) (hs : Ks w a n L) (hn : n ≤ 65536) (hi : i < n) (ht : (kAt L i).tag = 9) : Calls Try.prog 21 #[.slice a n cap, .int .i64 i] w (BoolRet (leadOk L i) w) := by
  obtain ⟨b, off, rfl, hbl, hk⟩ := hs.at i hi
  obtain ⟨q0, q1, q2, q3, q4⟩ := hk
  rw [ht] at q0
  rw [show leadOk L i = (isT L (kAt L i).a 7 && isT L (kAt L i).b 12) from by unfold leadOk; simp [ht]]
  have C1 := Lib.hid (is_any (w.alloc (.cells #[.int .i64 9, .int .i64 (kAt L i).a, .int .i64 (kAt L i).b, .int .i64 (kAt L i).n, .string ⟨(kAt L i).s.toArray⟩] 28)) _ n cap L (kAt L i).a 7 (hs.below (below_1 _ _)) hn)
  have C2 := Lib.hid (is_any (w.alloc (.cells #[.int .i64 9, .int .i64 (kAt L i).a, .int .i64 (kAt L i).b, .int .i64 (kAt L i).n, .string ⟨(kAt L i).s.toArray⟩] 28)) _ n cap L (kAt L i).b 12 (hs.below (below_1 _ _)) hn)
  generalize isT L (kAt L i).a 7 = r1 at *
  generalize isT L (kAt L i).b 12 = r2 at *
  clear hs ht
  generalize (kAt L i).a = ca at *
  generalize (kAt L i).b = cb at *
  generalize (kAt L i).n = cn at *
  generalize (kAt L i).s = cs at *
  cases r1
  · go_enter Try.func21, Try.ntmps21
    go_wp2_with fail
    refine C1.out.mono ?_
    rintro e w' ⟨rfl, rfl⟩
    go_wp2_with fail
    go_ret
    exact ⟨rfl, below_1 _ _⟩
  · go_enter Try.func21, Try.ntmps21
    go_wp2_with fail
    refine C1.out.mono ?_
    rintro e w' ⟨rfl, rfl⟩
    go_wp2_with fail
    refine C2.out.mono ?_
    rintro e w' ⟨rfl, rfl⟩
    go_wp2_with fail
    go_ret
    exact ⟨rfl, below_1 _ _⟩
set_option maxRecDepth 100000 in
set_option maxHeartbeats 4000000 in
theorem lead_10 (w : World) (a : Option Addr) (n cap : Nat) (L : List KV) (i : Nat) (hs : Ks w a n L) (hn : n ≤ 65536) (hi : i < n) (ht : (kAt L i).tag = 10) : Calls Try.prog 21 #[.slice a n cap, .int .i64 i] w (BoolRet (leadOk L i) w) := by
  obtain ⟨b, off, rfl, hbl, hk⟩ := hs.at i hi
  obtain ⟨q0, q1, q2, q3, q4⟩ := hk
  rw [ht] at q0
  rw [show leadOk L i = (isT L (kAt L i).a 7 && isT L (kAt L i).b 12) from by unfold leadOk; simp [ht]]
  have C1 := Lib.hid (is_any (w.alloc (.cells #[.int .i64 10, .int .i64 (kAt L i).a, .int .i64 (kAt L i).b, .int .i64 (kAt L i).n, .string ⟨(kAt L i).s.toArray⟩] 28)) _ n cap L (kAt L i).a 7 (hs.below (below_1 _ _)) hn)
  have C2 := Lib.hid (is_any (w.alloc (.cells #[.int .i64 10, .int .i64 (kAt L i).a, .int .i64 (kAt L i).b, .int .i64 (kAt L i).n, .string ⟨(kAt L i).s.toArray⟩] 28)) _ n cap L (kAt L i).b 12 (hs.below (below_1 _ _)) hn)
  generalize isT L (kAt L i).a 7 = r1 at *
  generalize isT L (kAt L i).b 12 = r2 at *
  clear hs ht
  generalize (kAt L i).a = ca at *
  generalize (kAt L i).b = cb at *
  generalize (kAt L i).n = cn at *
  generalize (kAt L i).s = cs at *
  cases r1
  · go_enter Try.func21, Try.ntmps21
    go_wp2_with fail
    refine C1.out.mono ?_
    rintro e w' ⟨rfl, rfl⟩
    go_wp2_with fail
    go_ret
    exact ⟨rfl, below_1 _ _⟩
  · go_enter Try.func21, Try.ntmps21
    go_wp2_with fail
    refine C1.out.mono ?_
    rintro e w' ⟨rfl, rfl⟩
    go_wp2_with fail
    refine C2.out.mono ?_
    rintro e w' ⟨rfl, rfl⟩
    go_wp2_with fail
    go_ret
    exact ⟨rfl, below_1 _ _⟩
set_option maxRecDepth 100000 in
set_option maxHeartbeats 4000000 in
theorem lead_else (w : World) (a : Option Addr) (n cap : Nat) (L : List KV) (i : Nat) (hs : Ks w a n L) (hn : n ≤ 65536) (hi : i < n) (h0 : (kAt L i).tag ≠ 0) (h1 : (kAt L i).tag ≠ 1) (h3 : (kAt L i).tag ≠ 3) (h5 : (kAt L i).tag ≠ 5) (h12 : (kAt L i).tag ≠ 12) (h7 : (kAt L i).tag ≠ 7) (h8 : (kAt L i).tag ≠ 8) (h9 : (kAt L i).tag ≠ 9) (h10 : (kAt L i).tag ≠ 10) : Calls Try.prog 21 #[.slice a n cap, .int .i64 i] w (BoolRet (leadOk L i) w) := by
  obtain ⟨b, off, rfl, hbl, hk⟩ := hs.at i hi
  obtain ⟨q0, q1, q2, q3, q4⟩ := hk
  rw [show leadOk L i = false from by unfold leadOk; simp [h0, h1, h3, h5, h12, h7, h8, h9, h10]]
  clear hs
  generalize (kAt L i).tag = t at *
  generalize (kAt L i).a = ca at *
  generalize (kAt L i).b = cb at *
  generalize (kAt L i).n = cn at *
  generalize (kAt L i).s = cs at *
  have e0 : (t == 0) = false := by simp [h0]
  have e1 : (t == 1) = false := by simp [h1]
  have e3 : (t == 3) = false := by simp [h3]
  have e5 : (t == 5) = false := by simp [h5]
  have e12 : (t == 12) = false := by simp [h12]
  have e7 : (t == 7) = false := by simp [h7]
  have e8 : (t == 8) = false := by simp [h8]
  have e9 : (t == 9) = false := by simp [h9]
  have e10 : (t == 10) = false := by simp [h10]
  clear h0 h1 h3 h5 h12 h7 h8 h9 h10
  go_enter Try.func21, Try.ntmps21
  go_wp2_with fail
  go_ret
  exact ⟨rfl, below_1 _ _⟩
theorem leads_any (w : World) (a : Option Addr) (n cap : Nat) (L : List KV) (i : Nat) (hs : Ks w a n L) (hn : n ≤ 65536) (hi : i < n) (hl : (kAt L i).s.length ≤ 65536) : Calls Try.prog 21 #[.slice a n cap, .int .i64 i] w (BoolRet (leadOk L i) w) := by
  by_cases h0 : (kAt L i).tag = 0
  · exact lead_0 w a n cap L i hs hn hi h0
  by_cases h1 : (kAt L i).tag = 1
  · exact lead_1 w a n cap L i hs hn hi h1 hl
  by_cases h3 : (kAt L i).tag = 3
  · exact lead_3 w a n cap L i hs hn hi h3
  by_cases h5 : (kAt L i).tag = 5
  · exact lead_5 w a n cap L i hs hn hi h5
  by_cases h12 : (kAt L i).tag = 12
  · exact lead_12 w a n cap L i hs hn hi h12
  by_cases h7 : (kAt L i).tag = 7
  · exact lead_7 w a n cap L i hs hn hi h7
  by_cases h8 : (kAt L i).tag = 8
  · exact lead_8 w a n cap L i hs hn hi h8
  by_cases h9 : (kAt L i).tag = 9
  · exact lead_9 w a n cap L i hs hn hi h9
  by_cases h10 : (kAt L i).tag = 10
  · exact lead_10 w a n cap L i hs hn hi h10
  exact lead_else w a n cap L i hs hn hi h0 h1 h3 h5 h12 h7 h8 h9 h10
end Go.Proofs.Ytlfoedagcagpgaa
