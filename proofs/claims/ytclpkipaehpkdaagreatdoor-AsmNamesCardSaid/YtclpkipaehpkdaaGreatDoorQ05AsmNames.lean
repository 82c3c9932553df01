/- asm: own texts, merged (wip/merge2.py). No condition. -/
import Derived.Test.YtclpkipaehpkdaaGreatDoorQ04AsmNames
import Derived.Test.YtclpkipaehpkdaaGreatDoorQ02AsmNames
set_option linter.unusedVariables false
set_option linter.unusedSimpArgs false
namespace Go.Proofs.YtclpkipaehpkdaaGreatDoor
open Go.ChangeShapes Go.WideShapes Go.ChangeAt Go.RowKit
def BoolRet (r : Bool) (w : World) (e : Ending) (w' : World) : Prop := e = .returned (.bool r) ∧ Below w.heap.size w w'
theorem below_1 (w : World) (A : Obj) : Below w.heap.size w (w.alloc A) := (Below.refl _ _).alloc (Nat.le_refl _) _
set_option maxRecDepth 100000 in
set_option maxHeartbeats 4000000 in
theorem lead_0 (w : World) (a : Option Addr) (n cap : Nat) (L : List KV) (i : Nat) (hs : Ks w a n L) (hn : n ≤ 65536) (hi : i < n) (ht : (kAt L i).tag = 0) : Calls Tryz.prog 88 #[.slice a n cap, .int .i64 i] w (BoolRet (leadOk L i) w) := by
  obtain ⟨b, off, rfl, hbl, hk⟩ := hs.at i hi
  obtain ⟨q0, q1, q2, q3, q4⟩ := hk
  rw [ht] at q0
  by_cases h0 : i = 0
  · subst h0
    have ht' : (kAt L 0).tag = 0 := ht
    rw [show leadOk L 0 = true from by unfold leadOk; simp [ht']]
    simp only [Nat.zero_mul, Nat.add_zero] at q0 q1 q2 q3 q4
    clear hs ht ht'
    go_enter Tryz.func88, Tryz.ntmps88
    go_wp2_with fail
    go_ret
    exact ⟨rfl, below_1 _ _⟩
  · obtain ⟨b', off', he, _, hk⟩ := hs.at (i - 1) (by omega)
    cases he
    have p0 := hk.c0
    have hij : ((i - 1 : Nat) : Int) = (i : Int) - 1 := by omega
    rw [show off + (i - 1) * 5 = off + (i - 1) * 5 from rfl] at p0
    have e0 : ((i : Int) == 0) = false := by simp; omega
    have i1 : (1 : Int) ≤ i := by omega
    have i2 : ((i : Int) - 1).toNat = i - 1 := by omega
    have i3 : (i : Int) - 1 < n := by omega
    rw [show leadOk L i = decide ((kAt L ((i : Int) - 1)).tag = 5) from by unfold leadOk; simp [ht, h0], ← hij]
    generalize (kAt L ((i - 1 : Nat) : Int)).tag = t1 at *
    clear hs ht hk hij h0
    generalize (kAt L i).a = ca at *
    generalize (kAt L i).b = cb at *
    generalize (kAt L i).n = cn at *
    generalize (kAt L i).s = cs at *
    by_cases h5 : t1 = 5
    · subst h5
      go_enter Tryz.func88, Tryz.ntmps88
      go_wp2_with fail
      go_ret
      exact ⟨rfl, below_1 _ _⟩
    · have e5 : (t1 == 5) = false := by simp [h5]
      rw [decide_eq_false h5]
      clear h5
      go_enter Tryz.func88, Tryz.ntmps88
      go_wp2_with fail
      go_ret
      exact ⟨rfl, below_1 _ _⟩
set_option maxRecDepth 100000 in
set_option maxHeartbeats 4000000 in
theorem lead_1 (w : World) (a : Option Addr) (n cap : Nat) (L : List KV) (i : Nat) (hs : Ks w a n L) (hn : n ≤ 65536) (hi : i < n) (ht : (kAt L i).tag = 1) (hl : (kAt L i).s.length ≤ 65536) : Calls Tryz.prog 88 #[.slice a n cap, .int .i64 i] w (BoolRet (leadOk L i) w) := by
  obtain ⟨b, off, rfl, hbl, hk⟩ := hs.at i hi
  obtain ⟨q0, q1, q2, q3, q4⟩ := hk
  rw [ht] at q0
  obtain ⟨r, hrr⟩ : ∃ r, r = leadOk L i := ⟨_, rfl⟩
  rw [← hrr]
  have HRR := Lib.hid (show r = ((decodeB (kAt L i).s).isSome && decide ((kAt L i).s.length ≤ 65535)) from by rw [hrr]; unfold leadOk; simp [ht])
  clear hrr
  generalize (kAt L i).a = ca at *
  generalize (kAt L i).b = cb at *
  generalize (kAt L i).n = cn at *
  generalize (kAt L i).s = cs at *
  obtain ⟨c, w1, hr, hs1, hc1, hb1, hz1⟩ := conv_bytes (w.alloc (.cells #[.int .i64 1, .int .i64 ca, .int .i64 cb, .int .i64 cn, .string ⟨cs.toArray⟩] 61)) cs
  have hz : (w.alloc (.cells #[.int .i64 1, .int .i64 ca, .int .i64 cb, .int .i64 cn, .string ⟨cs.toArray⟩] 61)).heap.size = w.heap.size + 1 := by simp
  rw [hz] at hr hs1
  clear hz
  have CL := Len_any w1 _ cs.length c cs hs1 hl hc1
  have HB1 := Lib.hid (show Below w.heap.size w w1 from (below_1 _ _).trans (hb1.mono (by simp)))
  have HK1 := Lib.hid (cellS_below hb1 (cell_of_row (w.alloc (.cells #[.int .i64 1, .int .i64 ca, .int .i64 cb, .int .i64 cn, .string ⟨cs.toArray⟩] 61)) w.heap.size 4 _ _ _ (heap_alloc_last w _)))
  have HL := Lib.hid CL
  clear CL hs hs1 hc1 hb1 ht hz1
  go_enter Tryz.func88, Tryz.ntmps88
  go_wp2_with fail
  refine HL.out.mono ?_
  rintro e w2 ⟨rfl, hb2⟩
  have HB2 := Lib.hid (HB1.out.trans (hb2.mono HB1.out.size))
  have c4 : w2.cell? ⟨w.heap.size, 4, none⟩ = some (.string ⟨cs.toArray⟩) := cellS_below hb2 HK1.out
  clear hb2 hr
  cases hd : decodeB cs with
  | none =>
    rw [hd] at HRR
    simp only [lenOf]
    clear hd
    go_wp2_with fail
    go_ret
    exact ⟨by rw [HRR.out]; rfl, HB2.out⟩
  | some us =>
    rw [hd] at HRR
    simp only [lenOf]
    clear hd
    by_cases h6 : cs.length ≤ 65535
    · have h7 : decide ((cs.length : Int) ≤ 65535) = true := by simp; omega
      have H6 := Lib.hid (show r = true by rw [HRR.out, decide_eq_true h6]; rfl)
      go_wp2_with fail
      go_ret
      exact ⟨by rw [H6.out]; rfl, HB2.out⟩
    · have h7 : decide ((cs.length : Int) ≤ 65535) = false := by simp; omega
      have H6 := Lib.hid (show r = false by rw [HRR.out, decide_eq_false h6]; rfl)
      go_wp2_with fail
      go_ret
      exact ⟨by rw [H6.out]; rfl, HB2.out⟩
set_option maxRecDepth 100000 in
set_option maxHeartbeats 4000000 in
theorem lead_3 (w : World) (a : Option Addr) (n cap : Nat) (L : List KV) (i : Nat) (hs : Ks w a n L) (hn : n ≤ 65536) (hi : i < n) (ht : (kAt L i).tag = 3) : Calls Tryz.prog 88 #[.slice a n cap, .int .i64 i] w (BoolRet (leadOk L i) w) := by
  obtain ⟨b, off, rfl, hbl, hk⟩ := hs.at i hi
  obtain ⟨q0, q1, q2, q3, q4⟩ := hk
  rw [ht] at q0
  rw [show leadOk L i = true from by unfold leadOk; simp [ht]]
  clear hs ht
  generalize (kAt L i).a = ca at *
  generalize (kAt L i).b = cb at *
  generalize (kAt L i).n = cn at *
  generalize (kAt L i).s = cs at *
  go_enter Tryz.func88, Tryz.ntmps88
  go_wp2_with fail
  go_ret
  exact ⟨rfl, below_1 _ _⟩
set_option maxRecDepth 100000 in
set_option maxHeartbeats 4000000 in
theorem lead_5 (w : World) (a : Option Addr) (n cap : Nat) (L : List KV) (i : Nat) (hs : Ks w a n L) (hn : n ≤ 65536) (hi : i < n) (ht : (kAt L i).tag = 5) : Calls Tryz.prog 88 #[.slice a n cap, .int .i64 i] w (BoolRet (leadOk L i) w) := by
  obtain ⟨b, off, rfl, hbl, hk⟩ := hs.at i hi
  obtain ⟨q0, q1, q2, q3, q4⟩ := hk
  rw [ht] at q0
  rw [show leadOk L i = (decide (i + 1 < n) && decide ((kAt L ((i : Int) + 1)).tag = 0)) from by unfold leadOk; simp [ht, hs.1]]
  by_cases h1 : i + 1 < n
  · obtain ⟨b', off', he, _, hk⟩ := hs.at (i + 1) h1
    cases he
    have p0 := hk.c0
    have hij : ((i + 1 : Nat) : Int) = (i : Int) + 1 := by omega
    rw [← hij, decide_eq_true h1, Bool.true_and]
    have e1 : decide ((i : Int) + 1 < n) = true := by simp; omega
    have i3 : (i : Int) + 1 < n := by omega
    generalize (kAt L ((i + 1 : Nat) : Int)).tag = t1 at *
    clear hs ht hk hij
    generalize (kAt L i).a = ca at *
    generalize (kAt L i).b = cb at *
    generalize (kAt L i).n = cn at *
    generalize (kAt L i).s = cs at *
    by_cases h5 : t1 = 0
    · subst h5
      go_enter Tryz.func88, Tryz.ntmps88
      go_wp2_with fail
      go_ret
      exact ⟨rfl, below_1 _ _⟩
    · have e5 : (t1 == 0) = false := by simp [h5]
      rw [decide_eq_false h5]
      clear h5
      go_enter Tryz.func88, Tryz.ntmps88
      go_wp2_with fail
      go_ret
      exact ⟨rfl, below_1 _ _⟩
  · rw [decide_eq_false h1, Bool.false_and]
    have e1 : decide ((i : Int) + 1 < n) = false := by simp; omega
    clear hs ht
    generalize (kAt L i).a = ca at *
    generalize (kAt L i).b = cb at *
    generalize (kAt L i).n = cn at *
    generalize (kAt L i).s = cs at *
    go_enter Tryz.func88, Tryz.ntmps88
    go_wp2_with fail
    go_ret
    exact ⟨rfl, below_1 _ _⟩
set_option maxRecDepth 100000 in
set_option maxHeartbeats 4000000 in
theorem lead_12 (w : World) (a : Option Addr) (n cap : Nat) (L : List KV) (i : Nat) (hs : Ks w a n L) (hn : n ≤ 65536) (hi : i < n) (ht : (kAt L i).tag = 12) : Calls Tryz.prog 88 #[.slice a n cap, .int .i64 i] w (BoolRet (leadOk L i) w) := by
  obtain ⟨b, off, rfl, hbl, hk⟩ := hs.at i hi
  obtain ⟨q0, q1, q2, q3, q4⟩ := hk
  rw [ht] at q0
  rw [show leadOk L i = (isT L (kAt L i).a 1 && isT L (kAt L i).b 1) from by unfold leadOk; simp [ht]]
  have C1 := Lib.hid (is_any (w.alloc (.cells #[.int .i64 12, .int .i64 (kAt L i).a, .int .i64 (kAt L i).b, .int .i64 (kAt L i).n, .string ⟨(kAt L i).s.toArray⟩] 61)) _ n cap L (kAt L i).a 1 (hs.below (below_1 _ _)) hn)
  have C2 := Lib.hid (is_any (w.alloc (.cells #[.int .i64 12, .int .i64 (kAt L i).a, .int .i64 (kAt L i).b, .int .i64 (kAt L i).n, .string ⟨(kAt L i).s.toArray⟩] 61)) _ n cap L (kAt L i).b 1 (hs.below (below_1 _ _)) hn)
  generalize isT L (kAt L i).a 1 = r1 at *
  generalize isT L (kAt L i).b 1 = r2 at *
  clear hs ht
  generalize (kAt L i).a = ca at *
  generalize (kAt L i).b = cb at *
  generalize (kAt L i).n = cn at *
  generalize (kAt L i).s = cs at *
  cases r1
  · go_enter Tryz.func88, Tryz.ntmps88
    go_wp2_with fail
    refine C1.out.mono ?_
    rintro e w' ⟨rfl, rfl⟩
    go_wp2_with fail
    go_ret
    exact ⟨rfl, below_1 _ _⟩
  · go_enter Tryz.func88, Tryz.ntmps88
    go_wp2_with fail
    refine C1.out.mono ?_
    rintro e w' ⟨rfl, rfl⟩
    go_wp2_with fail
    refine C2.out.mono ?_
    rintro e w' ⟨rfl, rfl⟩
    go_wp2_with fail
    go_ret
    exact ⟨rfl, below_1 _ _⟩
set_option maxRecDepth 100000 in
set_option maxHeartbeats 4000000 in
theorem lead_7 (w : World) (a : Option Addr) (n cap : Nat) (L : List KV) (i : Nat) (hs : Ks w a n L) (hn : n ≤ 65536) (hi : i < n) (ht : (kAt L i).tag = 7) : Calls Tryz.prog 88 #[.slice a n cap, .int .i64 i] w (BoolRet (leadOk L i) w) := by
  obtain ⟨b, off, rfl, hbl, hk⟩ := hs.at i hi
  obtain ⟨q0, q1, q2, q3, q4⟩ := hk
  rw [ht] at q0
  rw [show leadOk L i = isT L (kAt L i).a 1 from by unfold leadOk; simp [ht]]
  have C1 := Lib.hid (is_any (w.alloc (.cells #[.int .i64 7, .int .i64 (kAt L i).a, .int .i64 (kAt L i).b, .int .i64 (kAt L i).n, .string ⟨(kAt L i).s.toArray⟩] 61)) _ n cap L (kAt L i).a 1 (hs.below (below_1 _ _)) hn)
  generalize isT L (kAt L i).a 1 = r1 at *
  clear hs ht
  generalize (kAt L i).a = ca at *
  generalize (kAt L i).b = cb at *
  generalize (kAt L i).n = cn at *
  generalize (kAt L i).s = cs at *
  go_enter Tryz.func88, Tryz.ntmps88
  go_wp2_with fail
  refine C1.out.mono ?_
  rintro e w' ⟨rfl, rfl⟩
  go_wp2_with fail
  go_ret
  exact ⟨rfl, below_1 _ _⟩
set_option maxRecDepth 100000 in
set_option maxHeartbeats 4000000 in
theorem lead_8 (w : World) (a : Option Addr) (n cap : Nat) (L : List KV) (i : Nat) (hs : Ks w a n L) (hn : n ≤ 65536) (hi : i < n) (ht : (kAt L i).tag = 8) : Calls Tryz.prog 88 #[.slice a n cap, .int .i64 i] w (BoolRet (leadOk L i) w) := by
  obtain ⟨b, off, rfl, hbl, hk⟩ := hs.at i hi
  obtain ⟨q0, q1, q2, q3, q4⟩ := hk
  rw [ht] at q0
  rw [show leadOk L i = isT L (kAt L i).a 1 from by unfold leadOk; simp [ht]]
  have C1 := Lib.hid (is_any (w.alloc (.cells #[.int .i64 8, .int .i64 (kAt L i).a, .int .i64 (kAt L i).b, .int .i64 (kAt L i).n, .string ⟨(kAt L i).s.toArray⟩] 61)) _ n cap L (kAt L i).a 1 (hs.below (below_1 _ _)) hn)
  generalize isT L (kAt L i).a 1 = r1 at *
  clear hs ht
  generalize (kAt L i).a = ca at *
  generalize (kAt L i).b = cb at *
  generalize (kAt L i).n = cn at *
  generalize (kAt L i).s = cs at *
  go_enter Tryz.func88, Tryz.ntmps88
  go_wp2_with fail
  refine C1.out.mono ?_
  rintro e w' ⟨rfl, rfl⟩
  go_wp2_with fail
  go_ret
  exact ⟨rfl, below_1 _ _⟩
set_option maxRecDepth 100000 in
set_option maxHeartbeats 4000000 in
theorem lead_9 (w : World) (a : Option Addr) (n cap : Nat) (L : List KV) (i : Nat) (hs : Ks w a n L) (hn : n ≤ 65536) (hi : i < n) (ht : (kAt L i).tag = 9) : Calls Tryz.prog 88 #[.slice a n cap, .int .i64 i] w (BoolRet (leadOk L i) w) := by
  obtain ⟨b, off, rfl, hbl, hk⟩ := hs.at i hi
  obtain ⟨q0, q1, q2, q3, q4⟩ := hk
  rw [ht] at q0
  rw [show leadOk L i = (isT L (kAt L i).a 7 && isT L (kAt L i).b 12) from by unfold leadOk; simp [ht]]
  have C1 := Lib.hid (is_any (w.alloc (.cells #[.int .i64 9, .int .i64 (kAt L i).a, .int .i64 (kAt L i).b, .int .i64 (kAt L i).n, .string ⟨(kAt L i).s.toArray⟩] 61)) _ n cap L (kAt L i).a 7 (hs.below (below_1 _ _)) hn)
  have C2 := Lib.hid (is_any (w.alloc (.cells #[.int .i64 9, .int .i64 (kAt L i).a, .int .i64 (kAt L i).b, .int .i64 (kAt L i).n, .string ⟨(kAt L i).s.toArray⟩] 61)) _ n cap L (kAt L i).b 12 (hs.below (below_1 _ _)) hn)
  generalize isT L (kAt L i).a 7 = r1 at *
  generalize isT L (kAt L i).b 12 = r2 at *
  clear hs ht
  generalize (kAt L i).a = ca at *
  generalize (kAt L i).b = cb at *
  generalize (kAt L i).n = cn at *
  generalize (kAt L i).s = cs at *
  cases r1
  · go_enter Tryz.func88, Tryz.ntmps88
    go_wp2_with fail
    refine C1.out.mono ?_
    rintro e w' ⟨rfl, rfl⟩
    go_wp2_with fail
    go_ret
    exact ⟨rfl, below_1 _ _⟩
  · go_enter Tryz.func88, Tryz.ntmps88
    go_wp2_with fail
    refine C1.out.mono ?_
    rintro e w' ⟨rfl, rfl⟩
    go_wp2_with fail
    refine C2.out.mono ?_
    rintro e w' ⟨rfl, rfl⟩
    go_wp2_with fail
    go_ret
    exact ⟨rfl, below_1 _ _⟩
set_option maxRecDepth 100000 in
set_option maxHeartbeats 4000000 in
theorem lead_10 (w : World) (a : Option Addr) (n cap : Nat) (L : List KV) (i : Nat) (hs : Ks w a n L) (hn : n ≤ 65536) (hi : i < n) (ht : (kAt L i).tag = 10) : Calls Tryz.prog 88 #[.slice a n cap, .int .i64 i] w (BoolRet (leadOk L i) w) := by
  obtain ⟨b, off, rfl, hbl, hk⟩ := hs.at i hi
  obtain ⟨q0, q1, q2, q3, q4⟩ := hk
  rw [ht] at q0
  rw [show leadOk L i = (isT L (kAt L i).a 7 && isT L (kAt L i).b 12) from by unfold leadOk; simp [ht]]
  have C1 := Lib.hid (is_any (w.alloc (.cells #[.int .i64 10, .int .i64 (kAt L i).a, .int .i64 (kAt L i).b, .int .i64 (kAt L i).n, .string ⟨(kAt L i).s.toArray⟩] 61)) _ n cap L (kAt L i).a 7 (hs.below (below_1 _ _)) hn)
  have C2 := Lib.hid (is_any (w.alloc (.cells #[.int .i64 10, .int .i64 (kAt L i).a, .int .i64 (kAt L i).b, .int .i64 (kAt L i).n, .string ⟨(kAt L i).s.toArray⟩] 61)) _ n cap L (kAt L i).b 12 (hs.below (below_1 _ _)) hn)
  generalize isT L (kAt L i).a 7 = r1 at *
  generalize isT L (kAt L i).b 12 = r2 at *
  clear hs ht
  generalize (kAt L i).a = ca at *
  generalize (kAt L i).b = cb at *
  generalize (kAt L i).n = cn at *
  generalize (kAt L i).s = cs at *
  cases r1
  · go_enter Tryz.func88, Tryz.ntmps88
    go_wp2_with fail
    refine C1.out.mono ?_
    rintro e w' ⟨rfl, rfl⟩
    go_wp2_with fail
    go_ret
    exact ⟨rfl, below_1 _ _⟩
  · go_enter Tryz.func88, Tryz.ntmps88
    go_wp2_with fail
    refine C1.out.mono ?_
    rintro e w' ⟨rfl, rfl⟩
    go_wp2_with fail
    refine C2.out.mono ?_
    rintro e w' ⟨rfl, rfl⟩
    go_wp2_with fail
    go_ret
    exact ⟨rfl, below_1 _ _⟩
set_option maxRecDepth 100000 in
set_option maxHeartbeats 4000000 in
theorem lead_else (w : World) (a : Option Addr) (n cap : Nat) (L : List KV) (i : Nat) (hs : Ks w a n L) (hn : n ≤ 65536) (hi : i < n) (h0 : (kAt L i).tag ≠ 0) (h1 : (kAt L i).tag ≠ 1) (h3 : (kAt L i).tag ≠ 3) (h5 : (kAt L i).tag ≠ 5) (h12 : (kAt L i).tag ≠ 12) (h7 : (kAt L i).tag ≠ 7) (h8 : (kAt L i).tag ≠ 8) (h9 : (kAt L i).tag ≠ 9) (h10 : (kAt L i).tag ≠ 10) : Calls Tryz.prog 88 #[.slice a n cap, .int .i64 i] w (BoolRet (leadOk L i) w) := by
  obtain ⟨b, off, rfl, hbl, hk⟩ := hs.at i hi
  obtain ⟨q0, q1, q2, q3, q4⟩ := hk
  rw [show leadOk L i = false from by unfold leadOk; simp [h0, h1, h3, h5, h12, h7, h8, h9, h10]]
  clear hs
  generalize (kAt L i).tag = t at *
  generalize (kAt L i).a = ca at *
  generalize (kAt L i).b = cb at *
  generalize (kAt L i).n = cn at *
  generalize (kAt L i).s = cs at *
  have e0 : (t == 0) = false := by simp [h0]
  have e1 : (t == 1) = false := by simp [h1]
  have e3 : (t == 3) = false := by simp [h3]
  have e5 : (t == 5) = false := by simp [h5]
  have e12 : (t == 12) = false := by simp [h12]
  have e7 : (t == 7) = false := by simp [h7]
  have e8 : (t == 8) = false := by simp [h8]
  have e9 : (t == 9) = false := by simp [h9]
  have e10 : (t == 10) = false := by simp [h10]
  clear h0 h1 h3 h5 h12 h7 h8 h9 h10
  go_enter Tryz.func88, Tryz.ntmps88
  go_wp2_with fail
  go_ret
  exact ⟨rfl, below_1 _ _⟩
theorem leads_any (w : World) (a : Option Addr) (n cap : Nat) (L : List KV) (i : Nat) (hs : Ks w a n L) (hn : n ≤ 65536) (hi : i < n) (hl : (kAt L i).s.length ≤ 65536) : Calls Tryz.prog 88 #[.slice a n cap, .int .i64 i] w (BoolRet (leadOk L i) w) := by
  by_cases h0 : (kAt L i).tag = 0
  · exact lead_0 w a n cap L i hs hn hi h0
  by_cases h1 : (kAt L i).tag = 1
  · exact lead_1 w a n cap L i hs hn hi h1 hl
  by_cases h3 : (kAt L i).tag = 3
  · exact lead_3 w a n cap L i hs hn hi h3
  by_cases h5 : (kAt L i).tag = 5
  · exact lead_5 w a n cap L i hs hn hi h5
  by_cases h12 : (kAt L i).tag = 12
  · exact lead_12 w a n cap L i hs hn hi h12
  by_cases h7 : (kAt L i).tag = 7
  · exact lead_7 w a n cap L i hs hn hi h7
  by_cases h8 : (kAt L i).tag = 8
  · exact lead_8 w a n cap L i hs hn hi h8
  by_cases h9 : (kAt L i).tag = 9
  · exact lead_9 w a n cap L i hs hn hi h9
  by_cases h10 : (kAt L i).tag = 10
  · exact lead_10 w a n cap L i hs hn hi h10
  exact lead_else w a n cap L i hs hn hi h0 h1 h3 h5 h12 h7 h8 h9 h10
end Go.Proofs.YtclpkipaehpkdaaGreatDoor

namespace Go.Proofs.YtclpkipaehpkdaaGreatDoor
open Go.RowKit
theorem wpAnyH_mono {P : Program} {md : Region.Mode} {ops : Array Oper} {Q : Exit → Act → World → Prop} {S S' : World → Prop} (hS : ∀ x, S' x → S x) :
    ∀ (fuel : Nat) (listed : Array Bool) (a : Act) (w : World), wpAnyH P md ops Q S' fuel listed a w → wpAnyH P md ops Q S fuel listed a w
  | 0, _, _, _, h => h
  | fuel + 1, _, _, _, h => ⟨h.1, fun i hi => wpOp_mono (fun a' w' h' => ⟨hS _ h'.1, wpAnyH_mono hS fuel _ a' w' h'.2⟩) (h.2 i hi)⟩
end Go.Proofs.YtclpkipaehpkdaaGreatDoor

namespace Go.Proofs.YtclpkipaehpkdaaGreatDoor
open Go.RowKit
def Stirs (P : Program) (S : World → Prop) (v : Value) : Result Next → Prop
  | .ok (.value u) w' => u = v ∧ S w'
  | .ok (.enter f args) w' => Calls P f args w' fun e w'' => e = .returned v ∧ S w''
  | _ => False
def StirsIf (P : Program) (ops : Array Oper) (S : World → Prop) (o : Oper) (v : Value) (a : Act) : Prop :=
  (Region.wanted o (yielded ops a.tmps) = true ∧ ∀ w, S w → Stirs P S v ((execOp a.eval o).run P w)) ∨
  (Region.wanted o (yielded ops a.tmps) = false ∧ v = undef)
section
variable {P : Program} {ops : Array Oper} {Q : Exit → Act → World → Prop} {md : Region.Mode} {S : World → Prop}
theorem StirsIf.of_same {o : Oper} {v : Value} {a a' : Act} (hy : StirsIf P ops S o v a) (he : execOp a'.eval o = execOp a.eval o)
    (hw : Region.wanted o (yielded ops a'.tmps) = Region.wanted o (yielded ops a.tmps)) : StirsIf P ops S o v a' := by
  unfold StirsIf at *
  rw [he, hw]
  exact hy
theorem Stirs.wp {o : Oper} {v : Value} {a : Act} {w : World} {K : Act → World → Prop} (h : Stirs P S v ((execOp a.eval o).run P w)) (hK : ∀ w', S w' → K (a.put o.dst v) w') : o.wp P a w K Q := by
  unfold Oper.wp
  generalize (execOp a.eval o).run P w = r at *
  cases r with
  | ok n w' =>
    cases n <;> simp only [Stirs, Oper.upon] at h ⊢
    case value u => obtain ⟨rfl, hs⟩ := h; exact hK _ hs
    case enter f args =>
      refine Calls.mono h fun e w'' he => ?_
      obtain ⟨rfl, hs⟩ := he
      exact hK _ hs
  | halt x w' => cases x <;> simp only [Stirs] at h
theorem StirsIf.wpOp {i : Nat} {o : Oper} {v : Value} {a : Act} (hi : ops[i]? = some o) (hy : StirsIf P ops S o v a)
    {K : Act → World → Prop} {w : World} (hS : S w) (h : ∀ w', S w' → K (a.put o.dst v) w') : wpOp P ops Q i K a w := by
  unfold Go.wpOp
  simp only [hi]
  rcases hy with ⟨hw, hv⟩ | ⟨hw, rfl⟩
  · simp only [hw, if_true]; exact .inl ((hv w hS).wp h)
  · simp only [hw, Bool.false_eq_true, if_false]; exact h w hS
def stirOp (P : Program) (ops : Array Oper) (S : World → Prop) (i : Nat) (b : Bool) (K : Act → Prop) (a : Act) : Prop :=
  match ops[i]? with
  | none => False
  | some o =>
    if Region.wanted o (yielded ops a.tmps) = true then
      (match b with
        | true => ∃ v, (∀ w', S w' → (execOp a.eval o).run P w' = .ok (.value v) w') ∧ K (a.put o.dst v)
        | false => ∃ v, (∀ w', S w' → Stirs P S v ((execOp a.eval o).run P w')) ∧ K (a.put o.dst v))
    else K (a.put o.dst undef)
def wpStir (P : Program) (ops : Array Oper) (Q : Exit → Act → World → Prop) (S : World → Prop) : List (Nat × Bool) → Act → Prop
  | [], a => ∀ w, S w → Q .normal a w
  | (i, b) :: l, a => stirOp P ops S i b (wpStir P ops Q S l) a
def wpStir1 (P : Program) (ops : Array Oper) (Q : Exit → Act → World → Prop) (S : World → Prop) : List Nat → Act → Prop
  | [], a => ∀ w, S w → Q .normal a w
  | i :: l, a => ∃ o v, ops[i]? = some o ∧ StirsIf P ops S o v a ∧ wpStir1 P ops Q S l (a.put o.dst v)
theorem wpStir_1 : ∀ (l : List (Nat × Bool)) (a : Act), wpStir P ops Q S l a → wpStir1 P ops Q S (l.map (·.1)) a := by
  intro l
  induction l with
  | nil => exact fun a h => h
  | cons p l ih =>
    obtain ⟨i, b⟩ := p
    intro a h
    change stirOp P ops S i b (wpStir P ops Q S l) a at h
    unfold stirOp at h
    cases ho : ops[i]? with
    | none => rw [ho] at h; exact h.elim
    | some o =>
      rw [ho] at h
      simp only at h
      by_cases hw : Region.wanted o (yielded ops a.tmps) = true
      · rw [if_pos hw] at h
        cases b with
        | true =>
          obtain ⟨v, h1, h2⟩ := h
          exact ⟨o, v, ho, .inl ⟨hw, fun w hs => by rw [h1 w hs]; exact ⟨rfl, hs⟩⟩, ih _ h2⟩
        | false =>
          obtain ⟨v, h1, h2⟩ := h
          exact ⟨o, v, ho, .inl ⟨hw, h1⟩, ih _ h2⟩
      · rw [if_neg hw] at h
        exact ⟨o, undef, ho, .inr ⟨by simpa using hw, rfl⟩, ih _ h⟩
def FreeP (ops : Array Oper) (listed : Array Bool) (i : Nat) : Prop :=
  ∀ oi, ops[i]? = some oi → ∀ j oj, ops[j]? = some oj → j ≠ i → listed.getD j true = false → (∀ e ∈ oj.after, Region.binds .any e = true → e.on ≠ i) → oi.apart ops oj = true
def CheckS (ops : Array Oper) : Array Bool → List Nat → Prop
  | listed, [] => Region.ready .any ops listed = []
  | listed, i :: l => i ∈ Region.ready .any ops listed ∧ FreeP ops listed i ∧ CheckS ops (listed.setIfInBounds i true) l
theorem FreeP.mono {listed : Array Bool} {i j : Nat} (h : FreeP ops listed i) : FreeP ops (listed.setIfInBounds j true) i := by
  intro oi hi k ok hk hki hun hno
  refine h oi hi k ok hk hki ?_ hno
  by_cases hjk : j = k
  · subst hjk
    by_cases hl : j < listed.size
    · simp [hl] at hun
    · rw [Array.setIfInBounds_eq_of_size_le (by omega)] at hun; exact hun
  · rw [getD_set_ne true hjk] at hun; exact hun
theorem stir_move (hs : Region.noSelect ops = true) : ∀ (l : List Nat) (listed : Array Bool) (j : Nat), CheckS ops listed l → j ∈ Region.ready .any ops listed →
    j ∈ l ∧ CheckS ops (listed.setIfInBounds j true) (l.erase j) ∧ ∀ a, wpStir1 P ops Q S l a → wpStir1 P ops Q S (j :: l.erase j) a := by
  intro l
  induction l with
  | nil => intro listed j hc hj; rw [show Region.ready .any ops listed = [] from hc] at hj; cases hj
  | cons i l ih =>
    intro listed j hc hj
    obtain ⟨hr, hf, hc'⟩ := hc
    by_cases hji : j = i
    · subst hji
      simp only [List.erase_cons_head]
      exact ⟨by simp, hc', fun a h => h⟩
    · obtain ⟨hjl, hcj, hmv⟩ := ih _ j hc' (ready_mono hj hji)
      have hij : (i == j) = false := by simp [Ne.symm hji]
      rw [List.erase_cons_tail (by rw [hij]; decide)]
      refine ⟨by simp [hjl], ⟨ready_mono hr (Ne.symm hji), hf.mono, ?_⟩, fun a h => ?_⟩
      · rw [Array.setIfInBounds_comm _ _ hji]; exact hcj
      · obtain ⟨oi, v, hoi, hyi, hrest⟩ := h
        obtain ⟨oj, u, hoj, hyj, hrest'⟩ := hmv _ hrest
        obtain ⟨hjun, oj', hoj', hall⟩ := mem_ready.1 hj
        obtain rfl : oj' = oj := by rw [hoj] at hoj'; exact (Option.some.inj hoj').symm
        have hnot : ∀ e ∈ oj'.after, Region.binds .any e = true → e.on ≠ i := fun e he hb heq => by
          have h1 := hall e he hb
          have h0 := (mem_ready.1 hr).1
          rw [heq] at h1
          rcases Nat.lt_or_ge i listed.size with h' | h'
          · simp [h'] at h0 h1; rw [h0] at h1; cases h1
          · simp [Array.getElem?_eq_none h'] at h1
        have hap := hf oi hoi j oj' hoj hji hjun hnot
        obtain ⟨h1, h2, h3⟩ := Oper.apart_spec hap
        have hsi : ∀ cs b, oi.op ≠ .select cs b := fun cs b => Region.noSelect_spec hs i oi cs b hoi
        have hsj : ∀ cs b, oj'.op ≠ .select cs b := fun cs b => Region.noSelect_spec hs j oj' cs b hoj
        have hyj' : StirsIf P ops S oj' u a := hyj.of_same (execOp_put oj' hsj a oi.dst v h1).symm (wanted_put oj' a oi.dst v h1).symm
        refine ⟨oj', u, hoj, hyj', oi, v, hoi, hyi.of_same (execOp_put oi hsi a oj'.dst u h3) (wanted_put oi a oj'.dst u h3), ?_⟩
        rw [← Act.put_comm a v u h2]
        exact hrest'
theorem stir_sound (hs : Region.noSelect ops = true) : ∀ (n : Nat) (l : List Nat) (listed : Array Bool) (a : Act), l.length = n → CheckS ops listed l → wpStir1 P ops Q S l a →
    ∀ w, S w → wpAnyH P .any ops Q S n listed a w := by
  intro n
  induction n with
  | zero =>
    intro l listed a hl hc h w hS
    obtain rfl := List.eq_nil_of_length_eq_zero hl
    exact ⟨hc, h w hS⟩
  | succ n ih =>
    intro l listed a hl hc h w hS
    refine ⟨fun h0 => ?_, fun j hj => ?_⟩
    · cases l with
      | nil => simp at hl
      | cons i l => obtain ⟨hr, _⟩ := hc; rw [h0] at hr; cases hr
    · obtain ⟨hjl, hcj, hmv⟩ := stir_move (P := P) (Q := Q) (S := S) hs l listed j hc hj
      obtain ⟨o, v, ho, hy, hrest⟩ := hmv a h
      refine hy.wpOp ho hS fun w' hs' => ⟨hs', ?_⟩
      exact ih (l.erase j) _ _ (by rw [List.length_erase_of_mem hjl]; omega) hcj hrest w' hs'
inductive LexS where
  | stir : List (Nat × Bool) → LexS
  | step : Nat → Bool → LexS → LexS
  | fork : Nat → LexS → Nat → LexS → LexS
  | fork3 : Nat → LexS → Nat → LexS → Nat → LexS → LexS
def wpLexS (P : Program) (ops : Array Oper) (Q : Exit → Act → World → Prop) : LexS → (World → Prop) → Act → World → Prop
  | .stir l, S, a, w => ∃ S' : World → Prop, (∀ x, S' x → S x) ∧ S' w ∧ wpStir P ops Q S' l a
  | .step i b l, S, a, w => ∃ S' : World → Prop, (∀ x, S' x → S x) ∧ lexOp P ops Q S' i b (wpLexS P ops Q l S') a w
  | .fork i l j m, S, a, w => ∃ S' : World → Prop, (∀ x, S' x → S x) ∧ lexOp P ops Q S' i false (wpLexS P ops Q l S') a w ∧ lexOp P ops Q S' j false (wpLexS P ops Q m S') a w
  | .fork3 i l j m k r, S, a, w => ∃ S' : World → Prop, (∀ x, S' x → S x) ∧ lexOp P ops Q S' i false (wpLexS P ops Q l S') a w ∧ lexOp P ops Q S' j false (wpLexS P ops Q m S') a w ∧ lexOp P ops Q S' k false (wpLexS P ops Q r S') a w
def checkStir (ops : Array Oper) : Array Bool → List (Nat × Bool) → Bool
  | listed, [] => (Region.ready .any ops listed).isEmpty
  | listed, (i, _) :: l => Region.free .any ops listed i && (Region.ready .any ops listed).contains i && checkStir ops (listed.setIfInBounds i true) l
def checkS (ops : Array Oper) : Nat → Array Bool → LexS → Bool
  | n, listed, .stir l => (l.length == n) && checkStir ops listed l
  | n + 1, listed, .step i b l => (if b then Region.free .any ops listed i && (Region.ready .any ops listed).contains i else Region.ready .any ops listed == [i]) && checkS ops n (listed.setIfInBounds i true) l
  | n + 1, listed, .fork i l j m => (Region.ready .any ops listed == [i, j]) && checkS ops n (listed.setIfInBounds i true) l && checkS ops n (listed.setIfInBounds j true) m
  | n + 1, listed, .fork3 i l j m k r => (Region.ready .any ops listed == [i, j, k]) && checkS ops n (listed.setIfInBounds i true) l && checkS ops n (listed.setIfInBounds j true) m && checkS ops n (listed.setIfInBounds k true) r
  | _, _, _ => false
theorem checkStir_P : ∀ (l : List (Nat × Bool)) (listed : Array Bool), checkStir ops listed l = true → CheckS ops listed (l.map (·.1)) := by
  intro l
  induction l with
  | nil => intro listed h; show Region.ready .any ops listed = []; simpa [checkStir] using h
  | cons p l ih =>
    obtain ⟨i, b⟩ := p
    intro listed h
    simp only [checkStir, Bool.and_eq_true] at h
    obtain ⟨⟨hf, hr⟩, hc⟩ := h
    exact ⟨by simpa using hr, fun oi hoi => Region.free_spec hoi hf, ih _ hc⟩
theorem lexS_sound (hs : Region.noSelect ops = true) (hQ : ∀ c a d v w, Q (.panic c) (a.put d v) w → Q (.panic c) a w) :
    ∀ (l : LexS) (S : World → Prop) (n : Nat) (listed : Array Bool) (a : Act) (w : World), checkS ops n listed l = true → wpLexS P ops Q l S a w → wpAnyH P .any ops Q S n listed a w := by
  intro l
  induction l with
  | stir l =>
    intro S n listed a w hc h
    have hc' : ((l.length == n) && checkStir ops listed l) = true := by cases n <;> exact hc
    simp only [Bool.and_eq_true, beq_iff_eq] at hc'
    obtain ⟨hl, hk⟩ := hc'
    obtain ⟨S', hSS, hw, h⟩ := h
    exact wpAnyH_mono hSS _ _ _ _ (stir_sound hs n (l.map (·.1)) listed a (by simpa using hl) (checkStir_P _ _ hk) (wpStir_1 _ _ h) w hw)
  | step i b l ih =>
    intro S n listed a w hc h
    cases n with
    | zero => simp [checkS] at hc
    | succ n =>
    simp only [checkS, Bool.and_eq_true] at hc
    obtain ⟨hc1, hc2⟩ := hc
    obtain ⟨S', hSS, h⟩ := h
    refine wpAnyH_mono hSS _ _ _ _ ?_
    unfold lexOp at h
    cases ho : ops[i]? with
    | none => rw [ho] at h; exact h.elim
    | some o =>
      rw [ho] at h
      simp only at h
      cases b with
      | true =>
        simp only [if_true, Bool.and_eq_true] at hc1
        obtain ⟨hf, hr⟩ := hc1
        by_cases hw : Region.wanted o (yielded ops a.tmps) = true
        · rw [if_pos hw] at h
          obtain ⟨v, h1, h2, h3⟩ := h
          exact wpAnyH_take ho hs hf hr (fun c a w => hQ c a _ _ w) (.inl ⟨hw, h1⟩) h2 (ih _ _ _ _ _ hc2 h3)
        · rw [if_neg hw] at h
          exact wpAnyH_take ho hs hf hr (fun c a w => hQ c a _ _ w) (.inr ⟨by simpa using hw, rfl⟩) h.1 (ih _ _ _ _ _ hc2 h.2)
      | false =>
        simp only [Bool.false_eq_true, if_false] at hc1
        have hr : Region.ready .any ops listed = [i] := by simpa using hc1
        refine wpAnyH_all hr (by simp) (fun j hj => ?_)
        obtain rfl : j = i := by simpa using hj
        unfold wpOp
        rw [ho]
        simp only
        by_cases hw : Region.wanted o (yielded ops a.tmps) = true
        · rw [if_pos hw] at h
          simp only [hw, if_true]
          exact .inl (Oper.wp_mono (fun a' w' h' => ⟨h'.1, ih _ _ _ _ _ hc2 h'.2⟩) h)
        · rw [if_neg hw] at h
          simp only [hw]
          exact ⟨h.1, ih _ _ _ _ _ hc2 h.2⟩
  | fork i l j m ih1 ih2 =>
    intro S n listed a w hc h
    cases n with
    | zero => simp [checkS] at hc
    | succ n =>
    simp only [checkS, Bool.and_eq_true] at hc
    obtain ⟨⟨hc1, hc2⟩, hc3⟩ := hc
    have hr : Region.ready .any ops listed = [i, j] := by simpa using hc1
    obtain ⟨S', hSS, h1, h2⟩ := h
    refine wpAnyH_mono hSS _ _ _ _ ?_
    refine wpAnyH_all hr (by simp) (fun k hk => ?_)
    have hk' : k = i ∨ k = j := by simpa using hk
    rcases hk' with rfl | rfl
    · unfold lexOp at h1
      cases ho : ops[k]? with
      | none => rw [ho] at h1; exact h1.elim
      | some o =>
        rw [ho] at h1
        simp only at h1
        unfold wpOp
        rw [ho]
        simp only
        by_cases hw : Region.wanted o (yielded ops a.tmps) = true
        · rw [if_pos hw] at h1
          simp only [hw, if_true]
          exact .inl (Oper.wp_mono (fun a' w' h' => ⟨h'.1, ih1 _ _ _ _ _ hc2 h'.2⟩) h1)
        · rw [if_neg hw] at h1
          simp only [hw]
          exact ⟨h1.1, ih1 _ _ _ _ _ hc2 h1.2⟩
    · unfold lexOp at h2
      cases ho : ops[k]? with
      | none => rw [ho] at h2; exact h2.elim
      | some o =>
        rw [ho] at h2
        simp only at h2
        unfold wpOp
        rw [ho]
        simp only
        by_cases hw : Region.wanted o (yielded ops a.tmps) = true
        · rw [if_pos hw] at h2
          simp only [hw, if_true]
          exact .inl (Oper.wp_mono (fun a' w' h' => ⟨h'.1, ih2 _ _ _ _ _ hc3 h'.2⟩) h2)
        · rw [if_neg hw] at h2
          simp only [hw]
          exact ⟨h2.1, ih2 _ _ _ _ _ hc3 h2.2⟩
  | fork3 i l j m k r ih1 ih2 ih3 =>
    intro S n listed a w hc h
    cases n with
    | zero => simp [checkS] at hc
    | succ n =>
    simp only [checkS, Bool.and_eq_true] at hc
    obtain ⟨⟨⟨hc1, hc2⟩, hc3⟩, hc4⟩ := hc
    have hr : Region.ready .any ops listed = [i, j, k] := by simpa using hc1
    obtain ⟨S', hSS, h1, h2, h3⟩ := h
    refine wpAnyH_mono hSS _ _ _ _ ?_
    have one : ∀ (x : Nat) (y : LexS), (∀ (a : Act) (w : World), wpLexS P ops Q y S' a w → wpAnyH P .any ops Q S' n (listed.setIfInBounds x true) a w) → lexOp P ops Q S' x false (wpLexS P ops Q y S') a w →
        wpOp P ops Q x (fun a' w' => S' w' ∧ wpAnyH P .any ops Q S' n (listed.setIfInBounds x true) a' w') a w := by
      intro x y ih h1
      unfold lexOp at h1
      cases ho : ops[x]? with
      | none => rw [ho] at h1; exact h1.elim
      | some o =>
        rw [ho] at h1
        simp only at h1
        unfold wpOp
        rw [ho]
        simp only
        by_cases hw : Region.wanted o (yielded ops a.tmps) = true
        · rw [if_pos hw] at h1
          simp only [hw, if_true]
          exact .inl (Oper.wp_mono (fun a' w' h' => ⟨h'.1, ih _ _ h'.2⟩) h1)
        · rw [if_neg hw] at h1
          simp only [hw]
          exact ⟨h1.1, ih _ _ h1.2⟩
    refine wpAnyH_all hr (by simp) (fun x hx => ?_)
    have hx' : x = i ∨ x = j ∨ x = k := by simpa using hx
    rcases hx' with rfl | rfl | rfl
    · exact one _ l (fun a w h => ih1 _ _ _ _ _ hc2 h) h1
    · exact one _ m (fun a w h => ih2 _ _ _ _ _ hc3 h) h2
    · exact one _ r (fun a w h => ih3 _ _ _ _ _ hc4 h) h3
def LexS.of : List (Nat × Bool) → LexS → LexS
  | [], t => t
  | (i, b) :: l, t => .step i b (LexS.of l t)
theorem wp_region_lexS {id : Nat} {a : Act} {w : World} (S : World → Prop) (l : LexS) (hm : P.follows .mixedOrders = true)
    (hc : (Region.noSelect ops && checkS ops ops.size (Array.replicate ops.size false) l) = true) (hQ : ∀ c a d v w, Q (.panic c) (a.put d v) w → Q (.panic c) a w)
    (h : wpLexS P ops Q l S a w.drew) : (Code.region id ops true).wp P Q a w := by
  simp only [Bool.and_eq_true] at hc
  obtain ⟨hs, hk⟩ := hc
  exact wp_region_held hm (lexS_sound (P := P) (Q := Q) hs hQ l S _ _ a _ hk h)
theorem lexS_step {i : Nat} {b : Bool} {l : LexS} {a : Act} {w : World}
    (h : ∀ K : Act → World → Prop, (∀ a w, wpLexS P ops Q l S a w → K a w) → lexOp P ops Q S i b K a w) : wpLexS P ops Q (.step i b l) S a w := ⟨S, fun _ h => h, h _ (fun _ _ h => h)⟩
theorem lexS_fork {i j : Nat} {l m : LexS} {a : Act} {w : World}
    (h1 : ∀ K : Act → World → Prop, (∀ a w, wpLexS P ops Q l S a w → K a w) → lexOp P ops Q S i false K a w) (h2 : ∀ K : Act → World → Prop, (∀ a w, wpLexS P ops Q m S a w → K a w) → lexOp P ops Q S j false K a w) : wpLexS P ops Q (.fork i l j m) S a w :=
  ⟨S, fun _ h => h, h1 _ (fun _ _ h => h), h2 _ (fun _ _ h => h)⟩
theorem lexS_stir {l : List (Nat × Bool)} {a : Act} {w : World} (S' : World → Prop) (hSS : ∀ x, S' x → S x) (hS : S' w) (h : wpStir P ops Q S' l a) : wpLexS P ops Q (.stir l) S a w := ⟨S', hSS, hS, h⟩
theorem stir_step {i : Nat} {b : Bool} {l : List (Nat × Bool)} {a : Act}
    (h : ∀ K : Act → Prop, (∀ a, wpStir P ops Q S l a → K a) → stirOp P ops S i b K a) : wpStir P ops Q S ((i, b) :: l) a := h _ (fun _ h => h)
theorem stir_nil {a : Act} (h : ∀ w, S w → Q .normal a w) : wpStir P ops Q S [] a := h
theorem Stirs.call {v : Value} {f : FuncId} {args : Array Value} {w' : World} (h : Calls P f args w' fun e w'' => e = .returned v ∧ S w'') : Stirs P S v (.ok (.enter f args) w') := h
end
end Go.Proofs.YtclpkipaehpkdaaGreatDoor

