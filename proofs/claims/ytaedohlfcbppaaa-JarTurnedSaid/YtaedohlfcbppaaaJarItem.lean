/- jar: the reader's number and item. No condition. -/
import Derived.Test.YtaedohlfcbppaaaJarRead
import Derived.Test.YtaedohlfcbppaaaClone
import Derived.Maps.OwnSet
import Derived.StringKeys
namespace Go.Proofs.Ytaedohlfcbppaaa
open Go.ChangeShapes Go.WideShapes Go.ChangeAt Go.RowKit
open Go.Maps (Keyed string_keyed)
def takeS (bs : List UInt8) (e : Int) (m : Nat) : List UInt8 × List UInt8 × Int := if e ≠ 0 then ([], bs, e) else if bs.length < m then ([], bs, 6) else (bs.take m, bs.drop m, 0)
def numS (bs : List UInt8) (e : Int) (m : Nat) : Nat × List UInt8 × Int := if e ≠ 0 then (0, bs, e) else if bs.length < m then (0, bs, 6) else (getN (bs.take m), bs.drop m, 0)
theorem takeS_len (bs : List UInt8) (e : Int) (m : Nat) : (takeS bs e m).1.length ≤ bs.length ∧ (takeS bs e m).2.1.length ≤ bs.length := by
  unfold takeS
  split
  · simp
  split
  · simp
  · simp; omega
theorem numS_len (bs : List UInt8) (e : Int) (m : Nat) : (numS bs e m).2.1.length ≤ bs.length := by
  unfold numS
  split
  · simp
  split
  · simp
  · simp
theorem numS_lt (bs : List UInt8) (e : Int) (m : Nat) (hm : m ≤ 4) : (numS bs e m).1 < 4294967296 := by
  unfold numS
  split
  · exact Nat.zero_lt_succ _
  split
  · exact Nat.zero_lt_succ _
  · have h1 := getN_lt (bs.take m)
    have h2 : 256 ^ (bs.take m).length ≤ 256 ^ 4 := Nat.pow_le_pow_right (by decide) (by simp; omega)
    simp only
    omega
/-- What take answers. -/
def TakeR (B : Nat) (g : Nat) (S : List UInt8 × List UInt8 × Int) (w : World) (en : Ending) (w' : World) : Prop :=
  ∃ a1 l c1, en = .returned (.slice a1 l c1) ∧ Sl encB w' a1 l S.1 ∧ l ≤ c1 ∧ RS B w' g S.2.1 S.2.2 ∧ w.grownBy w' (some g)
theorem take_s {B : Nat} (w : World) (g : Nat) (bs : List UInt8) (e : Int) (m : Nat) (h : RS B w g bs e) (hb : bs.length ≤ 1048576) (hm : m ≤ 4294967296) :
    Calls Try.prog 17 #[.pointer (some ⟨g, 0, none⟩), .int .i64 (m : Nat)] w (TakeR B g (takeS bs e m) w) := by
  refine (takeJ_any w g bs e m h hb hm).mono ?_
  rintro en w' ⟨hg, ⟨rfl, hl, a1, rfl, hs, hr⟩ | ⟨hn, rfl, hr⟩⟩
  · rw [show takeS bs 0 m = (bs.take m, bs.drop m, 0) from by unfold takeS; rw [if_neg (by simp), if_neg (by omega)]]
    exact ⟨a1, m, m, rfl, hs, Nat.le_refl _, hr, hg⟩
  · by_cases he : e = 0
    · subst he
      rcases hn with hn | hn
      · exact absurd rfl hn
      rw [show takeS bs 0 m = ([], bs, 6) from by unfold takeS; rw [if_neg (by simp), if_pos hn]]
      exact ⟨none, 0, 0, rfl, Sl.nil _ _, Nat.le_refl _, hr, hg⟩
    · rw [if_neg he] at hr
      rw [show takeS bs e m = ([], bs, e) from by unfold takeS; rw [if_pos he]]
      exact ⟨none, 0, 0, rfl, Sl.nil _ _, Nat.le_refl _, hr, hg⟩
def NumRJ (B : Nat) (g : Nat) (S : Nat × List UInt8 × Int) (w : World) (en : Ending) (w' : World) : Prop :=
  en = .returned (.int .i64 (S.1 : Nat)) ∧ RS B w' g S.2.1 S.2.2 ∧ w.grownBy w' (some g)
theorem getR_short (m : Nat) (h1 : 1 ≤ m) (h8 : m ≤ 8) : (getR [] 0 (m : Nat)).1 = 0 := by
  unfold getR
  rw [if_neg (by omega), if_pos (by simp; omega)]
theorem numS_get (bs : List UInt8) (e : Int) (m : Nat) (h1 : 1 ≤ m) (h8 : m ≤ 8) : ((getR (takeS bs e m).1 0 m).1 = ((numS bs e m).1 : Nat)) ∧ (takeS bs e m).2 = (numS bs e m).2 := by
  unfold takeS numS
  by_cases he : e = 0
  · subst he
    simp only [ne_eq, not_true_eq_false, if_false]
    by_cases hl : bs.length < m
    · simp only [if_pos hl]
      exact ⟨getR_short m h1 h8, trivial⟩
    · simp only [if_neg hl]
      refine ⟨?_, trivial⟩
      unfold getR
      rw [if_neg (by omega), if_neg (by simp; omega)]
      simp [List.take_take]
  · simp only [ne_eq, he, not_false_eq_true, if_true]
    exact ⟨getR_short m h1 h8, trivial⟩
set_option maxRecDepth 100000 in
set_option maxHeartbeats 4000000 in
theorem num_s {B : Nat} (w : World) (g : Nat) (bs : List UInt8) (e : Int) (m : Nat) (h : RS B w g bs e) (hb : bs.length ≤ 1048576) (h1 : 1 ≤ m) (h4 : m ≤ 4) :
    Calls Try.prog 18 #[.pointer (some ⟨g, 0, none⟩), .int .i64 (m : Nat)] w (NumRJ B g (numS bs e m) w) := by
  have HT := Lib.hid (take_s w g bs e m h hb (by omega))
  obtain ⟨q1, q2⟩ := numS_get bs e m h1 (by omega)
  have hlen := (takeS_len bs e m).1
  have hlt := numS_lt bs e m h4
  have HQ1 := Lib.hid q1
  have HQ2 := Lib.hid q2
  generalize takeS bs e m = T at *
  generalize numS bs e m = N at *
  obtain ⟨t1, t2⟩ := T
  obtain ⟨v, t3⟩ := N
  simp only at HQ1 HQ2 hlen hlt
  have HEQ := Lib.hid (HQ2.out)
  have wv : IntKind.i64.wrap (v : Int) = (v : Int) := by rw [IntKind.wrap_i64]; omega
  clear h q1 q2
  go_enter Try.func18, Try.ntmps18
  go_wp2_with fail
  refine HT.out.mono ?_
  rintro en w1 ⟨a1, l, c1, rfl, hs1, hc1, hr1, hg1⟩
  have HR1 := Lib.hid hr1
  have HG1 := Lib.hid hg1
  have hll := hs1.1
  have HC := Lib.hid (Get_any w1 a1 l c1 t1 0 m hs1 (by simp only at hll; omega) hc1 (by unfold IntR; omega) (by unfold IntR; omega))
  rw [HQ1.out] at HC
  generalize (getR t1 0 m).2 = e2 at *
  clear hr1 hg1 hs1
  go_wp2_with fail
  refine HC.out.mono ?_
  rintro en w' ⟨rfl, rfl⟩
  go_wp2_with fail
  go_ret
  exact ⟨rfl, by rw [← HEQ.out]; exact HR1.out, HG1.out⟩
/-- Which names there are. -/
def namesD (L : List (List UInt8)) : DataW Unit := L.foldl (fun D s => D.put (.string s) (.lit (.bool true))) (.map [])
theorem fold_names (L : List (List UInt8)) (D : DataW Unit) (hD : Maps.IsMap D) (s : List UInt8) (z : DataW Unit) :
    (L.foldl (fun D s => D.put (.string s) (.lit (.bool true))) D).atKey (.string s) z = if s ∈ L then .lit (.bool true) else D.atKey (.string s) z := by
  induction L generalizing D with
  | nil => simp
  | cons r L ih =>
    rw [List.foldl_cons, ih _ (hD.put _ _)]
    by_cases h1 : s ∈ L
    · simp [h1]
    · by_cases h2 : r = s
      · subst h2
        rw [Maps.atKey_put_same hD (by trivial)]
        simp
      · rw [Maps.atKey_put_other (by intro h; cases h; exact h2 rfl)]
        simp [h1, Ne.symm h2]
theorem names_at (L : List (List UInt8)) (s : List UInt8) : (namesD L).atKey (.string s) (.lit (.bool false)) = .lit (.bool (decide (s ∈ L))) := by
  unfold namesD
  rw [fold_names L _ Maps.isMap_empty]
  by_cases h : s ∈ L
  · simp [h]
  · simp [h]; rfl
theorem plainElem_bool_invJ {H : Type} {P : Program} {e : TypeId} (he : P.underlying e = some .bool) {v : Value} {z : DataW H × List MemPlace} (h : plainElem P e v = some z) : ∃ x, v = .bool x ∧ z = (.lit (.bool x), []) := by
  unfold plainElem at h
  rw [he] at h
  cases v <;> simp at h
  exact ⟨_, rfl, h.symm⟩
theorem zeroBoolJ (w : World) : (zeroValue 4).run Try.prog w = .ok (.bool false) w := by kernel_rfl
/-- The map of the names, in block b. -/
def NamesM (w : World) (b k : Nat) (L : List (List UInt8)) : Prop := w.ownsMap Try.prog 9 (plainElem (H := Unit) Try.prog 4) b k (namesD L)
theorem str_key (s : List UInt8) (hs : s.length ≤ maxLen) : keyOf Try.prog 9 (.string ⟨s.toArray⟩) = some (.string s) := by
  have h := Go.WideMaps.keyOf_string_mk (P := Try.prog) (k := 9) Try.underlying9 (s := ⟨s.toArray⟩) (by simpa [ByteArray.size] using hs)
  simpa using h
theorem look_name {w : World} {b k : Nat} {L : List (List UInt8)} (h : NamesM w b k L) (s : List UInt8) (hs : s.length ≤ maxLen) :
    (Instr.lookup 50 (.map (some b)) (.string ⟨s.toArray⟩) false).run Try.prog w = .ok (.bool (decide (s ∈ L))) w := by
  obtain ⟨v, ps, hrun, hv⟩ := h.lookup (string_keyed Try.underlying9) Try.underlying50 (zeroBoolJ w) (plainElem_bool Try.underlying4 false) (str_key s hs)
  obtain ⟨x, rfl, hx⟩ := plainElem_bool_invJ Try.underlying4 hv
  rw [names_at] at hx
  simp at hx
  rw [hrun, hx.1]
theorem put_name {w : World} {b k : Nat} {L : List (List UInt8)} (h : NamesM w b k L) (s : List UInt8) (hs : s.length ≤ maxLen) (hk : k < maxLen) :
    ∃ w', (Instr.mapUpdate 50 (.map (some b)) (.string ⟨s.toArray⟩) (.bool true)).run Try.prog w = .ok () w' ∧ NamesM w' b (k + 1) (L ++ [s]) ∧ w.grownBy w' (some b) := by
  obtain ⟨w', hrun, hown, hturn⟩ := h.store (string_keyed Try.underlying9) Try.underlying50 hk (val := .bool true) (str_key s hs) (plainElem_bool Try.underlying4 true)
  refine ⟨w', hrun, ?_, hturn.grown⟩
  unfold NamesM namesD
  rw [List.foldl_append]
  exact hown
/-- All but two blocks stay. -/
structure K2 (g mb : Nat) (w w' : World) : Prop where
  os : w'.os = w.os
  tape : w'.tape = w.tape
  output : w'.output = w.output
  size : w.heap.size ≤ w'.heap.size
  block : ∀ k < w.heap.size, k ≠ g → k ≠ mb → w'.heap[k]? = w.heap[k]?
theorem K2.refl (g mb : Nat) (w : World) : K2 g mb w w := ⟨rfl, rfl, rfl, Nat.le_refl _, fun _ _ _ _ => rfl⟩
theorem K2.trans {g mb : Nat} {w w1 w2 : World} (h : K2 g mb w w1) (h' : K2 g mb w1 w2) : K2 g mb w w2 :=
  ⟨h'.os.trans h.os, h'.tape.trans h.tape, h'.output.trans h.output, Nat.le_trans h.size h'.size, fun k hk h1 h2 => (h'.block k (Nat.lt_of_lt_of_le hk h.size) h1 h2).trans (h.block k hk h1 h2)⟩
theorem K2.ofG {g mb : Nat} {w w' : World} (h : w.grownBy w' (some g)) : K2 g mb w w' := ⟨h.os, h.tape, h.output, h.size, fun k hk h1 _ => h.block k hk (fun e => h1 (by cases e; rfl))⟩
theorem K2.ofM {g mb : Nat} {w w' : World} (h : w.grownBy w' (some mb)) : K2 g mb w w' := ⟨h.os, h.tape, h.output, h.size, fun k hk _ h2 => h.block k hk (fun e => h2 (by cases e; rfl))⟩
theorem K2.ofB {g mb : Nat} {w w' : World} (h : Below w.heap.size w w') : K2 g mb w w' := ⟨h.os, h.tape, h.output, h.size, fun k hk _ _ => h.block k hk⟩
theorem K2.drew {g mb : Nat} {w w' : World} (h : K2 g mb w w') : K2 g mb w w'.drew := ⟨h.os, h.tape, h.output, h.size, h.block⟩
end Go.Proofs.Ytaedohlfcbppaaa
