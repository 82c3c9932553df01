/- A region that draws its order, walked once, where what is known of the worlds grows on the way. Over any program. -/
import Derived.Test.YtechkdnoekffmaaQ02ScanTorn
import Derived.Test.YtechkdnoekffmaaQ01ScanTorn
import Derived.Deep.AppendSrc
namespace Go.Proofs.Ytechkdnoekffmaa
open Go.RowKit
theorem wpAnyH_mono {P : Program} {md : Region.Mode} {ops : Array Oper} {Q : Exit → Act → World → Prop} {S S' : World → Prop} (hS : ∀ x, S' x → S x) :
    ∀ (fuel : Nat) (listed : Array Bool) (a : Act) (w : World), wpAnyH P md ops Q S' fuel listed a w → wpAnyH P md ops Q S fuel listed a w
  | 0, _, _, _, h => h
  | fuel + 1, _, _, _, h => ⟨h.1, fun i hi => wpOp_mono (fun a' w' h' => ⟨hS _ h'.1, wpAnyH_mono hS fuel _ a' w' h'.2⟩) (h.2 i hi)⟩
def wpLex2 (P : Program) (ops : Array Oper) (Q : Exit → Act → World → Prop) : List (Nat × Bool) → (World → Prop) → Act → World → Prop
  | [], _, a, w => Q .normal a w
  | (i, b) :: l, S, a, w => ∃ S' : World → Prop, (∀ x, S' x → S x) ∧ lexOp P ops Q S' i b (wpLex2 P ops Q l S') a w
theorem lex2_sound {P : Program} {ops : Array Oper} {Q : Exit → Act → World → Prop} (hs : Region.noSelect ops = true) (hQ : ∀ c a d v w, Q (.panic c) (a.put d v) w → Q (.panic c) a w) :
    ∀ (l : List (Nat × Bool)) (S : World → Prop) (listed : Array Bool) (a : Act) (w : World), checkLex ops listed l = true → wpLex2 P ops Q l S a w → wpAnyH P .any ops Q S l.length listed a w := by
  intro l
  induction l with
  | nil =>
    intro S listed a w hc h
    exact ⟨by simpa [checkLex] using hc, h⟩
  | cons p l ih =>
    obtain ⟨i, b⟩ := p
    intro S listed a w hc h
    obtain ⟨S', hSS, h⟩ := h
    refine wpAnyH_mono hSS _ _ _ _ ?_
    simp only [checkLex, Bool.and_eq_true] at hc
    obtain ⟨hc1, hc2⟩ := hc
    unfold lexOp at h
    cases ho : ops[i]? with
    | none => rw [ho] at h; exact h.elim
    | some o =>
      rw [ho] at h
      simp only at h
      cases b with
      | true =>
        simp only [if_true, Bool.and_eq_true] at hc1
        obtain ⟨hf, hr⟩ := hc1
        by_cases hw : Region.wanted o (yielded ops a.tmps) = true
        · rw [if_pos hw] at h
          obtain ⟨v, h1, h2, h3⟩ := h
          exact wpAnyH_take ho hs hf hr (fun c a w => hQ c a _ _ w) (.inl ⟨hw, h1⟩) h2 (ih _ _ _ _ hc2 h3)
        · rw [if_neg hw] at h
          exact wpAnyH_take ho hs hf hr (fun c a w => hQ c a _ _ w) (.inr ⟨by simpa using hw, rfl⟩) h.1 (ih _ _ _ _ hc2 h.2)
      | false =>
        simp only [Bool.false_eq_true, if_false] at hc1
        have hr : Region.ready .any ops listed = [i] := by simpa using hc1
        refine wpAnyH_all hr (by simp) (fun j hj => ?_)
        obtain rfl : j = i := by simpa using hj
        unfold wpOp
        rw [ho]
        simp only
        by_cases hw : Region.wanted o (yielded ops a.tmps) = true
        · rw [if_pos hw] at h
          simp only [hw, if_true]
          exact .inl (Oper.wp_mono (fun a' w' h' => ⟨h'.1, ih _ _ _ _ hc2 h'.2⟩) h)
        · rw [if_neg hw] at h
          simp only [hw]
          exact ⟨h.1, ih _ _ _ _ hc2 h.2⟩
theorem wp_region_lex2 {P : Program} {id : Nat} {ops : Array Oper} {Q : Exit → Act → World → Prop} {a : Act} {w : World} (S : World → Prop) (l : List (Nat × Bool)) (hm : P.follows .mixedOrders = true)
    (hc : (Region.noSelect ops && (l.length == ops.size) && checkLex ops (Array.replicate ops.size false) l) = true) (hQ : ∀ c a d v w, Q (.panic c) (a.put d v) w → Q (.panic c) a w)
    (h : wpLex2 P ops Q l S a w.drew) : (Code.region id ops true).wp P Q a w := by
  simp only [Bool.and_eq_true, beq_iff_eq] at hc
  obtain ⟨⟨hs, hl⟩, hk⟩ := hc
  have := lex2_sound (P := P) (Q := Q) hs hQ l S _ a _ hk h
  rw [hl] at this
  exact wp_region_held hm this
theorem lex2_step {P : Program} {ops : Array Oper} {Q : Exit → Act → World → Prop} {S : World → Prop} {i : Nat} {b : Bool} {l : List (Nat × Bool)} {a : Act} {w : World}
    (h : ∀ K : Act → World → Prop, (∀ a w, wpLex2 P ops Q l S a w → K a w) → lexOp P ops Q S i b K a w) : wpLex2 P ops Q ((i, b) :: l) S a w := ⟨S, fun _ h => h, h _ (fun _ _ h => h)⟩
/-- From here on more is known of the worlds. -/
theorem lex2_strong {P : Program} {ops : Array Oper} {Q : Exit → Act → World → Prop} {S : World → Prop} {l : List (Nat × Bool)} {a : Act} {w : World} (S' : World → Prop) (hS : ∀ x, S' x → S x) (h : wpLex2 P ops Q l S' a w) : wpLex2 P ops Q l S a w := by
  cases l with
  | nil => exact h
  | cons p l =>
    obtain ⟨i, b⟩ := p
    obtain ⟨S2, h2, h3⟩ := h
    exact ⟨S2, fun x hx => hS x (h2 x hx), h3⟩
theorem lex2_nil {P : Program} {ops : Array Oper} {Q : Exit → Act → World → Prop} {S : World → Prop} {a : Act} {w : World} (h : Q .normal a w) : wpLex2 P ops Q [] S a w := h
end Go.Proofs.Ytechkdnoekffmaa
/- slices.Clone of bytes. No condition. -/
namespace Go.Proofs.Ytechkdnoekffmaa
open Go.ChangeShapes Go.WideShapes Go.ChangeAt Go.RowKit
theorem oneB : OneE 24 5 (.int .u8 0) 1 := ⟨by kernel_rfl, by kernel_rfl, rfl⟩
theorem run_eqlInNil {P : Program} (w : World) (d : Nat) (t e : TypeId) (a : Option Addr) (l c : Nat) (h : P.underlying t = some (.slice e)) : (Op.equalIn (d + 1) t (.slice a l c) (.slice none 0 0)).run P w = .ok a.isNone w := by
  cases a <;> simp [Op.equalIn, run_underlying h]
theorem run_equalNil {P : Program} (w : World) (t e : TypeId) (a : Option Addr) (l c : Nat) (h : P.underlying t = some (.slice e)) : (Op.equal t (.slice a l c) (.slice none 0 0)).run P w = .ok a.isNone w := run_eqlInNil w 9999 t e a l c h
theorem run_eqlNil {P : Program} (w : World) (t e : TypeId) (a : Option Addr) (l c : Nat) (h : P.underlying t = some (.slice e)) : (binOp .eql t (.slice a l c) (.slice none 0 0)).run P w = .ok (.bool a.isNone) w := by
  simp [binOp, run_equalNil w t e a l c h]
set_option maxRecDepth 100000 in
set_option maxHeartbeats 1000000 in
theorem Clone_any (w : World) (a : Option Addr) (n cap : Nat) (bs : List UInt8) (hs : Sl encB w a n bs) (hn : n ≤ 16777216) :
    Calls Try.prog 28 #[.slice a n cap] w (OwnRet encB 5 w.heap.size w bs) := by
  have HS := Lib.hid hs
  cases a with
  | none =>
    have h0 : bs = [] := by
      obtain ⟨hl, hc⟩ := hs
      rcases Nat.eq_zero_or_pos n with h | h
      · exact List.eq_nil_of_length_eq_zero (by omega)
      · obtain ⟨b, off, ha, _⟩ := hc h; cases ha
    subst h0
    clear hs
    have hq := fun w' : World => run_eqlNil (P := Try.prog) w' 24 5 none n cap Try.underlying24
    go_enter Try.func28, Try.ntmps28
    go_wp2_with fail
    go_ret
    exact ⟨_, 0, rfl, World.ownsRow_nil _ _ _ _, Below.refl _ _⟩
  | some x =>
    clear hs
    have hq := fun w' : World => run_eqlNil (P := Try.prog) w' 24 5 (some x) n cap Try.underlying24
    have HO0 := Lib.hid (own_empty w w.heap.size 5 (Nat.le_refl _))
    have HB0 := Lib.hid ((Below.refl w.heap.size w).alloc (Nat.le_refl _) (.cells #[] 5))
    go_enter Try.func28, Try.ntmps28
    go_wp2_with (at_builtin; first
      | (refine wpList_app1 oneB rfl _ _ _ rfl w.heap.size _ _ _ rfl HO0.out _ _ _ rfl ((HS.out.below HB0.out).src encB_cell Try.underlying24 _) (by omega) (by unfold maxLen; omega) HB0.out.size ?_; intro v2 w2 hown2 hg2 hb2; have HO2 := Lib.hid hown2; have HB2 := Lib.hid (HB0.out.trans hb2); clear hown2 hg2 hb2))
    go_ret
    exact ⟨_, _, rfl, by simpa using HO2.out, HB2.out⟩
end Go.Proofs.Ytechkdnoekffmaa
/- Bytes of which the first k are turned in their lowest bit. No condition. -/
namespace Go.Proofs.Ytechkdnoekffmaa
open Go.ChangeShapes Go.WideShapes Go.ChangeAt Go.RowKit
def flip1 (x : UInt8) : UInt8 := UInt8.ofNat (x.toNat ^^^ 1)
theorem flip1_lt (x : UInt8) : x.toNat ^^^ 1 < 256 := Nat.xor_lt_two_pow (n := 8) x.toNat_lt (by decide)
theorem flip1_nat (x : UInt8) : (flip1 x).toNat = x.toNat ^^^ 1 := UInt8.toNat_ofNat_of_lt' (flip1_lt x)
theorem flip1_flip1 (x : UInt8) : flip1 (flip1 x) = x := by
  apply UInt8.toNat_inj.1
  rw [flip1_nat, flip1_nat, Nat.xor_assoc, Nat.xor_self, Nat.xor_zero]
theorem flip1_bits (x : UInt8) : bits .xor .u8 (x.toNat : Int) 1 = ((flip1 x).toNat : Int) := by
  have hx := x.toNat_lt
  have e : ∀ n : Nat, n < 256 → bits .xor .u8 (n : Int) 1 = ((n ^^^ 1 : Nat) : Int) := by decide +kernel
  rw [e _ hx, flip1_nat]
def flipTo (xs : List UInt8) (k : Nat) : List UInt8 := (xs.take k).map flip1 ++ xs.drop k
theorem flipTo_0 (xs : List UInt8) : flipTo xs 0 = xs := by simp [flipTo]
theorem flipTo_all (xs : List UInt8) (k : Nat) (h : xs.length ≤ k) : flipTo xs k = xs.map flip1 := by
  unfold flipTo; rw [List.take_of_length_le h, List.drop_of_length_le h, List.append_nil]
theorem flipTo_length (xs : List UInt8) (k : Nat) : (flipTo xs k).length = xs.length := by
  unfold flipTo; simp; omega
theorem flipTo_get (xs : List UInt8) (k : Nat) (h : k < xs.length) : (flipTo xs k)[k]'(by rw [flipTo_length]; exact h) = xs[k] := by
  have hl : ((xs.take k).map flip1).length = k := by simp; omega
  unfold flipTo
  rw [List.getElem_append_right (by omega)]
  simp only [hl, Nat.sub_self, List.getElem_drop, Nat.add_zero]
theorem flipTo_set (xs : List UInt8) (k : Nat) (h : k < xs.length) : (flipTo xs k).set k (flip1 xs[k]) = flipTo xs (k + 1) := by
  have hl : ((xs.take k).map flip1).length = k := by simp; omega
  unfold flipTo
  rw [List.set_append_right _ _ (by omega), hl, Nat.sub_self, List.drop_eq_getElem_cons h, List.set_cons_zero, List.take_succ_eq_append_getElem h, List.map_append, List.append_assoc]
  rfl
theorem flip_flip (xs : List UInt8) : (xs.map flip1).map flip1 = xs := by
  rw [List.map_map]
  exact (List.map_congr_left (fun x _ => flip1_flip1 x)).trans (List.map_id xs)
end Go.Proofs.Ytechkdnoekffmaa
/- rec: which records may be; their sizes; which are the same. No condition. -/
namespace Go.Proofs.Ytechkdnoekffmaa
open Go.ChangeShapes Go.WideShapes Go.ChangeAt Go.RowKit
abbrev recV (k t : Int) (key : ByteArray) (a : Option Addr) (n cap : Nat) (c : Int) : Value := .agg #[.int .i64 k, .int .u32 t, .string key, .slice a n cap, .int .i64 c]
/-- May a record be? -/
def recOk (k t : Int) (key blob : Nat) (c : Int) : Bool :=
  decide (1 ≤ t ∧ (k = 1 ∧ 1 ≤ key ∧ key ≤ 64 ∧ blob ≤ 4096 ∧ c = 0 ∨ k = 2 ∧ 1 ≤ key ∧ key ≤ 64 ∧ blob = 0 ∧ c = 0 ∨ k = 3 ∧ key = 0 ∧ blob = 0 ∧ 0 ≤ c ∧ c ≤ 16))
theorem ret_no {p : Prop} [Decidable p] (h : ¬ p) : Ending.returned (.bool (decide p)) = .returned (.bool false) := by rw [decide_eq_false h]
theorem ret_yes {p : Prop} [Decidable p] (h : p) : Ending.returned (.bool (decide p)) = .returned (.bool true) := by rw [decide_eq_true h]
theorem eqi_no {a b : Int} (h : ¬ a = b) : (a == b) = false := by simp [h]
theorem eqi_yes {a b : Int} (h : a = b) : (a == b) = true := by simp [h]
set_option maxRecDepth 100000 in
set_option maxHeartbeats 4000000 in
theorem right5_any (w : World) (k t : Int) (ks : ByteArray) (a : Option Addr) (n cap : Nat) (c : Int) (key blob : Nat) (hk : IntR k) (ht : 0 ≤ t) (hc : IntR c) (h1 : key ≤ 1048576) (h2 : blob ≤ 1048576) :
    Calls Try.prog 26 #[recV k t ks a n cap c, .int .i64 key, .int .i64 blob] w fun e w' => e = .returned (.bool (recOk k t key blob c)) ∧ Below w.heap.size w w' := by
  obtain ⟨k1, k2⟩ := hk
  obtain ⟨c1, c2⟩ := hc
  by_cases k0 : t < 1
  · obtain rfl : t = 0 := by omega
    rw [show recOk k 0 key blob c = false from decide_eq_false (by omega)]
    go_enter Try.func26, Try.ntmps26
    go_wp2_with fail
    all_goals (go_ret; first | exact ⟨rfl, (Below.refl _ _).alloc (Nat.le_refl _) _⟩ | exact ⟨ret_no (by omega), (Below.refl _ _).alloc (Nat.le_refl _) _⟩ | exact ⟨ret_yes (by omega), (Below.refl _ _).alloc (Nat.le_refl _) _⟩)
  have e0 : (t == 0) = false := eqi_no (by omega)
  by_cases d1 : k = 1
  · subst d1
    by_cases q1 : key < 1
    · rw [show recOk 1 t key blob c = false from decide_eq_false (by omega)]
      go_enter Try.func26, Try.ntmps26
      go_wp2_with fail
      all_goals (go_ret; first | exact ⟨rfl, (Below.refl _ _).alloc (Nat.le_refl _) _⟩ | exact ⟨ret_no (by omega), (Below.refl _ _).alloc (Nat.le_refl _) _⟩ | exact ⟨ret_yes (by omega), (Below.refl _ _).alloc (Nat.le_refl _) _⟩)
    by_cases q2 : 64 < key
    · rw [show recOk 1 t key blob c = false from decide_eq_false (by omega)]
      go_enter Try.func26, Try.ntmps26
      go_wp2_with fail
      all_goals (go_ret; first | exact ⟨rfl, (Below.refl _ _).alloc (Nat.le_refl _) _⟩ | exact ⟨ret_no (by omega), (Below.refl _ _).alloc (Nat.le_refl _) _⟩ | exact ⟨ret_yes (by omega), (Below.refl _ _).alloc (Nat.le_refl _) _⟩)
    by_cases q3 : 4096 < blob
    · rw [show recOk 1 t key blob c = false from decide_eq_false (by omega)]
      go_enter Try.func26, Try.ntmps26
      go_wp2_with fail
      all_goals (go_ret; first | exact ⟨rfl, (Below.refl _ _).alloc (Nat.le_refl _) _⟩ | exact ⟨ret_no (by omega), (Below.refl _ _).alloc (Nat.le_refl _) _⟩ | exact ⟨ret_yes (by omega), (Below.refl _ _).alloc (Nat.le_refl _) _⟩)
    by_cases q4 : ¬ c = 0
    · rw [show recOk 1 t key blob c = false from decide_eq_false (by omega)]
      have e4 : (c == 0) = false := eqi_no q4
      go_enter Try.func26, Try.ntmps26
      go_wp2_with fail
      all_goals (go_ret; first | exact ⟨rfl, (Below.refl _ _).alloc (Nat.le_refl _) _⟩ | exact ⟨ret_no (by omega), (Below.refl _ _).alloc (Nat.le_refl _) _⟩ | exact ⟨ret_yes (by omega), (Below.refl _ _).alloc (Nat.le_refl _) _⟩)
    obtain rfl : c = 0 := by omega
    rw [show recOk 1 t key blob 0 = true from decide_eq_true (by omega)]
    go_enter Try.func26, Try.ntmps26
    go_wp2_with fail
    all_goals (go_ret; first | exact ⟨rfl, (Below.refl _ _).alloc (Nat.le_refl _) _⟩ | exact ⟨ret_no (by omega), (Below.refl _ _).alloc (Nat.le_refl _) _⟩ | exact ⟨ret_yes (by omega), (Below.refl _ _).alloc (Nat.le_refl _) _⟩)
  by_cases d2 : k = 2
  · subst d2
    by_cases q1 : key < 1
    · rw [show recOk 2 t key blob c = false from decide_eq_false (by omega)]
      go_enter Try.func26, Try.ntmps26
      go_wp2_with fail
      all_goals (go_ret; first | exact ⟨rfl, (Below.refl _ _).alloc (Nat.le_refl _) _⟩ | exact ⟨ret_no (by omega), (Below.refl _ _).alloc (Nat.le_refl _) _⟩ | exact ⟨ret_yes (by omega), (Below.refl _ _).alloc (Nat.le_refl _) _⟩)
    by_cases q2 : 64 < key
    · rw [show recOk 2 t key blob c = false from decide_eq_false (by omega)]
      go_enter Try.func26, Try.ntmps26
      go_wp2_with fail
      all_goals (go_ret; first | exact ⟨rfl, (Below.refl _ _).alloc (Nat.le_refl _) _⟩ | exact ⟨ret_no (by omega), (Below.refl _ _).alloc (Nat.le_refl _) _⟩ | exact ⟨ret_yes (by omega), (Below.refl _ _).alloc (Nat.le_refl _) _⟩)
    by_cases q3 : ¬ blob = 0
    · rw [show recOk 2 t key blob c = false from decide_eq_false (by omega)]
      have e3 : ((blob : Int) == 0) = false := eqi_no (by omega)
      go_enter Try.func26, Try.ntmps26
      go_wp2_with fail
      all_goals (go_ret; first | exact ⟨rfl, (Below.refl _ _).alloc (Nat.le_refl _) _⟩ | exact ⟨ret_no (by omega), (Below.refl _ _).alloc (Nat.le_refl _) _⟩ | exact ⟨ret_yes (by omega), (Below.refl _ _).alloc (Nat.le_refl _) _⟩)
    by_cases q4 : ¬ c = 0
    · rw [show recOk 2 t key blob c = false from decide_eq_false (by omega)]
      have e4 : (c == 0) = false := eqi_no q4
      go_enter Try.func26, Try.ntmps26
      go_wp2_with fail
      all_goals (go_ret; first | exact ⟨rfl, (Below.refl _ _).alloc (Nat.le_refl _) _⟩ | exact ⟨ret_no (by omega), (Below.refl _ _).alloc (Nat.le_refl _) _⟩ | exact ⟨ret_yes (by omega), (Below.refl _ _).alloc (Nat.le_refl _) _⟩)
    obtain rfl : c = 0 := by omega
    obtain rfl : blob = 0 := by omega
    rw [show recOk 2 t key 0 0 = true from decide_eq_true (by omega)]
    go_enter Try.func26, Try.ntmps26
    go_wp2_with fail
    all_goals (go_ret; first | exact ⟨rfl, (Below.refl _ _).alloc (Nat.le_refl _) _⟩ | exact ⟨ret_no (by omega), (Below.refl _ _).alloc (Nat.le_refl _) _⟩ | exact ⟨ret_yes (by omega), (Below.refl _ _).alloc (Nat.le_refl _) _⟩)
  by_cases d3 : k = 3
  · subst d3
    by_cases q1 : ¬ key = 0
    · rw [show recOk 3 t key blob c = false from decide_eq_false (by omega)]
      have e1 : ((key : Int) == 0) = false := eqi_no (by omega)
      go_enter Try.func26, Try.ntmps26
      go_wp2_with fail
      all_goals (go_ret; first | exact ⟨rfl, (Below.refl _ _).alloc (Nat.le_refl _) _⟩ | exact ⟨ret_no (by omega), (Below.refl _ _).alloc (Nat.le_refl _) _⟩ | exact ⟨ret_yes (by omega), (Below.refl _ _).alloc (Nat.le_refl _) _⟩)
    by_cases q2 : ¬ blob = 0
    · rw [show recOk 3 t key blob c = false from decide_eq_false (by omega)]
      have e2 : ((blob : Int) == 0) = false := eqi_no (by omega)
      go_enter Try.func26, Try.ntmps26
      go_wp2_with fail
      all_goals (go_ret; first | exact ⟨rfl, (Below.refl _ _).alloc (Nat.le_refl _) _⟩ | exact ⟨ret_no (by omega), (Below.refl _ _).alloc (Nat.le_refl _) _⟩ | exact ⟨ret_yes (by omega), (Below.refl _ _).alloc (Nat.le_refl _) _⟩)
    by_cases q3 : c < 0
    · rw [show recOk 3 t key blob c = false from decide_eq_false (by omega)]
      go_enter Try.func26, Try.ntmps26
      go_wp2_with fail
      all_goals (go_ret; first | exact ⟨rfl, (Below.refl _ _).alloc (Nat.le_refl _) _⟩ | exact ⟨ret_no (by omega), (Below.refl _ _).alloc (Nat.le_refl _) _⟩ | exact ⟨ret_yes (by omega), (Below.refl _ _).alloc (Nat.le_refl _) _⟩)
    by_cases q4 : 16 < c
    · rw [show recOk 3 t key blob c = false from decide_eq_false (by omega)]
      go_enter Try.func26, Try.ntmps26
      go_wp2_with fail
      all_goals (go_ret; first | exact ⟨rfl, (Below.refl _ _).alloc (Nat.le_refl _) _⟩ | exact ⟨ret_no (by omega), (Below.refl _ _).alloc (Nat.le_refl _) _⟩ | exact ⟨ret_yes (by omega), (Below.refl _ _).alloc (Nat.le_refl _) _⟩)
    obtain rfl : key = 0 := by omega
    obtain rfl : blob = 0 := by omega
    rw [show recOk 3 t 0 0 c = true from decide_eq_true (by omega)]
    go_enter Try.func26, Try.ntmps26
    go_wp2_with fail
    all_goals (go_ret; first | exact ⟨rfl, (Below.refl _ _).alloc (Nat.le_refl _) _⟩ | exact ⟨ret_no (by omega), (Below.refl _ _).alloc (Nat.le_refl _) _⟩ | exact ⟨ret_yes (by omega), (Below.refl _ _).alloc (Nat.le_refl _) _⟩)
  have e1 : (k == 1) = false := eqi_no d1
  have e2 : (k == 2) = false := eqi_no d2
  have e3 : (k == 3) = false := eqi_no d3
  rw [show recOk k t key blob c = false from decide_eq_false (by omega)]
  go_enter Try.func26, Try.ntmps26
  go_wp2_with fail
  all_goals (go_ret; first | exact ⟨rfl, (Below.refl _ _).alloc (Nat.le_refl _) _⟩ | exact ⟨ret_no (by omega), (Below.refl _ _).alloc (Nat.le_refl _) _⟩ | exact ⟨ret_yes (by omega), (Below.refl _ _).alloc (Nat.le_refl _) _⟩)
end Go.Proofs.Ytechkdnoekffmaa
/- rec: the reference's Right; sizes; which records are the same. No condition. -/
namespace Go.Proofs.Ytechkdnoekffmaa
open Go.ChangeShapes Go.WideShapes Go.ChangeAt Go.RowKit
abbrev recL (k t : Int) (kb : List UInt8) (a : Option Addr) (n cap : Nat) (c : Int) : Value := recV k t ⟨kb.toArray⟩ a n cap c
set_option maxRecDepth 100000 in
set_option maxHeartbeats 4000000 in
theorem refRight5_any (w : World) (k t : Int) (kb : List UInt8) (a : Option Addr) (n cap : Nat) (c : Int) (hk : IntR k) (ht : 0 ≤ t) (hc : IntR c) (h1 : kb.length ≤ 1048576) (h2 : n ≤ 1048576) :
    Calls Try.prog 6 #[recL k t kb a n cap c] w fun e w' => e = .returned (.bool (recOk k t kb.length n c)) ∧ Below w.heap.size w w' := by
  obtain ⟨k1, k2⟩ := hk
  obtain ⟨c1, c2⟩ := hc
  by_cases k0 : t < 1
  · rw [show recOk k t kb.length n c = false from decide_eq_false (by omega)]
    go_enter Try.func6, Try.ntmps6
    go_wp2_with fail
    all_goals (go_ret; first | exact ⟨rfl, (Below.refl _ _).alloc (Nat.le_refl _) _⟩ | exact ⟨ret_no (by omega), (Below.refl _ _).alloc (Nat.le_refl _) _⟩ | exact ⟨ret_yes (by omega), (Below.refl _ _).alloc (Nat.le_refl _) _⟩)
  by_cases d1 : k = 1
  · subst d1
    by_cases q1 : kb.length < 1
    · rw [show recOk 1 t kb.length n c = false from decide_eq_false (by omega)]
      go_enter Try.func6, Try.ntmps6
      go_wp2_with fail
      all_goals (go_ret; first | exact ⟨rfl, (Below.refl _ _).alloc (Nat.le_refl _) _⟩ | exact ⟨ret_no (by omega), (Below.refl _ _).alloc (Nat.le_refl _) _⟩ | exact ⟨ret_yes (by omega), (Below.refl _ _).alloc (Nat.le_refl _) _⟩)
    by_cases q2 : 64 < kb.length
    · rw [show recOk 1 t kb.length n c = false from decide_eq_false (by omega)]
      go_enter Try.func6, Try.ntmps6
      go_wp2_with fail
      all_goals (go_ret; first | exact ⟨rfl, (Below.refl _ _).alloc (Nat.le_refl _) _⟩ | exact ⟨ret_no (by omega), (Below.refl _ _).alloc (Nat.le_refl _) _⟩ | exact ⟨ret_yes (by omega), (Below.refl _ _).alloc (Nat.le_refl _) _⟩)
    by_cases q3 : 4096 < n
    · rw [show recOk 1 t kb.length n c = false from decide_eq_false (by omega)]
      go_enter Try.func6, Try.ntmps6
      go_wp2_with fail
      all_goals (go_ret; first | exact ⟨rfl, (Below.refl _ _).alloc (Nat.le_refl _) _⟩ | exact ⟨ret_no (by omega), (Below.refl _ _).alloc (Nat.le_refl _) _⟩ | exact ⟨ret_yes (by omega), (Below.refl _ _).alloc (Nat.le_refl _) _⟩)
    by_cases q4 : ¬ c = 0
    · rw [show recOk 1 t kb.length n c = false from decide_eq_false (by omega)]
      have e4 : (c == 0) = false := eqi_no q4
      go_enter Try.func6, Try.ntmps6
      go_wp2_with fail
      all_goals (go_ret; first | exact ⟨rfl, (Below.refl _ _).alloc (Nat.le_refl _) _⟩ | exact ⟨ret_no (by omega), (Below.refl _ _).alloc (Nat.le_refl _) _⟩ | exact ⟨ret_yes (by omega), (Below.refl _ _).alloc (Nat.le_refl _) _⟩)
    obtain rfl : c = 0 := by omega
    rw [show recOk 1 t kb.length n 0 = true from decide_eq_true (by omega)]
    go_enter Try.func6, Try.ntmps6
    go_wp2_with fail
    all_goals (go_ret; first | exact ⟨rfl, (Below.refl _ _).alloc (Nat.le_refl _) _⟩ | exact ⟨ret_no (by omega), (Below.refl _ _).alloc (Nat.le_refl _) _⟩ | exact ⟨ret_yes (by omega), (Below.refl _ _).alloc (Nat.le_refl _) _⟩)
  by_cases d2 : k = 2
  · subst d2
    by_cases q1 : kb.length < 1
    · rw [show recOk 2 t kb.length n c = false from decide_eq_false (by omega)]
      go_enter Try.func6, Try.ntmps6
      go_wp2_with fail
      all_goals (go_ret; first | exact ⟨rfl, (Below.refl _ _).alloc (Nat.le_refl _) _⟩ | exact ⟨ret_no (by omega), (Below.refl _ _).alloc (Nat.le_refl _) _⟩ | exact ⟨ret_yes (by omega), (Below.refl _ _).alloc (Nat.le_refl _) _⟩)
    by_cases q2 : 64 < kb.length
    · rw [show recOk 2 t kb.length n c = false from decide_eq_false (by omega)]
      go_enter Try.func6, Try.ntmps6
      go_wp2_with fail
      all_goals (go_ret; first | exact ⟨rfl, (Below.refl _ _).alloc (Nat.le_refl _) _⟩ | exact ⟨ret_no (by omega), (Below.refl _ _).alloc (Nat.le_refl _) _⟩ | exact ⟨ret_yes (by omega), (Below.refl _ _).alloc (Nat.le_refl _) _⟩)
    by_cases q3 : ¬ n = 0
    · rw [show recOk 2 t kb.length n c = false from decide_eq_false (by omega)]
      have e3 : ((n : Int) == 0) = false := eqi_no (by omega)
      go_enter Try.func6, Try.ntmps6
      go_wp2_with fail
      all_goals (go_ret; first | exact ⟨rfl, (Below.refl _ _).alloc (Nat.le_refl _) _⟩ | exact ⟨ret_no (by omega), (Below.refl _ _).alloc (Nat.le_refl _) _⟩ | exact ⟨ret_yes (by omega), (Below.refl _ _).alloc (Nat.le_refl _) _⟩)
    by_cases q4 : ¬ c = 0
    · rw [show recOk 2 t kb.length n c = false from decide_eq_false (by omega)]
      have e4 : (c == 0) = false := eqi_no q4
      go_enter Try.func6, Try.ntmps6
      go_wp2_with fail
      all_goals (go_ret; first | exact ⟨rfl, (Below.refl _ _).alloc (Nat.le_refl _) _⟩ | exact ⟨ret_no (by omega), (Below.refl _ _).alloc (Nat.le_refl _) _⟩ | exact ⟨ret_yes (by omega), (Below.refl _ _).alloc (Nat.le_refl _) _⟩)
    obtain rfl : c = 0 := by omega
    obtain rfl : n = 0 := by omega
    rw [show recOk 2 t kb.length 0 0 = true from decide_eq_true (by omega)]
    go_enter Try.func6, Try.ntmps6
    go_wp2_with fail
    all_goals (go_ret; first | exact ⟨rfl, (Below.refl _ _).alloc (Nat.le_refl _) _⟩ | exact ⟨ret_no (by omega), (Below.refl _ _).alloc (Nat.le_refl _) _⟩ | exact ⟨ret_yes (by omega), (Below.refl _ _).alloc (Nat.le_refl _) _⟩)
  by_cases d3 : k = 3
  · subst d3
    by_cases q1 : ¬ kb = []
    · have hl : kb.length ≠ 0 := fun h => q1 (List.eq_nil_of_length_eq_zero h)
      have e1 : (kb == []) = false := by simpa using q1
      rw [show recOk 3 t kb.length n c = false from decide_eq_false (by omega)]
      go_enter Try.func6, Try.ntmps6
      go_wp2_with fail
      all_goals (go_ret; first | exact ⟨rfl, (Below.refl _ _).alloc (Nat.le_refl _) _⟩ | exact ⟨ret_no (by omega), (Below.refl _ _).alloc (Nat.le_refl _) _⟩ | exact ⟨ret_yes (by omega), (Below.refl _ _).alloc (Nat.le_refl _) _⟩)
    obtain rfl : kb = [] := Classical.not_not.1 q1
    by_cases q2 : ¬ n = 0
    · rw [show recOk 3 t ([] : List UInt8).length n c = false from decide_eq_false (by have hz : ([] : List UInt8).length = 0 := rfl; omega)]
      have e2 : ((n : Int) == 0) = false := eqi_no (by omega)
      go_enter Try.func6, Try.ntmps6
      go_wp2_with fail
      all_goals (go_ret; first | exact ⟨rfl, (Below.refl _ _).alloc (Nat.le_refl _) _⟩ | exact ⟨ret_no (by omega), (Below.refl _ _).alloc (Nat.le_refl _) _⟩ | exact ⟨ret_yes (by omega), (Below.refl _ _).alloc (Nat.le_refl _) _⟩)
    by_cases q3 : c < 0
    · rw [show recOk 3 t ([] : List UInt8).length n c = false from decide_eq_false (by have hz : ([] : List UInt8).length = 0 := rfl; omega)]
      go_enter Try.func6, Try.ntmps6
      go_wp2_with fail
      all_goals (go_ret; first | exact ⟨rfl, (Below.refl _ _).alloc (Nat.le_refl _) _⟩ | exact ⟨ret_no (by omega), (Below.refl _ _).alloc (Nat.le_refl _) _⟩ | exact ⟨ret_yes (by omega), (Below.refl _ _).alloc (Nat.le_refl _) _⟩)
    by_cases q4 : 16 < c
    · rw [show recOk 3 t ([] : List UInt8).length n c = false from decide_eq_false (by have hz : ([] : List UInt8).length = 0 := rfl; omega)]
      go_enter Try.func6, Try.ntmps6
      go_wp2_with fail
      all_goals (go_ret; first | exact ⟨rfl, (Below.refl _ _).alloc (Nat.le_refl _) _⟩ | exact ⟨ret_no (by omega), (Below.refl _ _).alloc (Nat.le_refl _) _⟩ | exact ⟨ret_yes (by omega), (Below.refl _ _).alloc (Nat.le_refl _) _⟩)
    obtain rfl : n = 0 := by omega
    rw [show recOk 3 t ([] : List UInt8).length 0 c = true from decide_eq_true (by have hz : ([] : List UInt8).length = 0 := rfl; omega)]
    go_enter Try.func6, Try.ntmps6
    go_wp2_with fail
    all_goals (go_ret; first | exact ⟨rfl, (Below.refl _ _).alloc (Nat.le_refl _) _⟩ | exact ⟨ret_no (by omega), (Below.refl _ _).alloc (Nat.le_refl _) _⟩ | exact ⟨ret_yes (by omega), (Below.refl _ _).alloc (Nat.le_refl _) _⟩)
  have e1 : (k == 1) = false := eqi_no d1
  have e2 : (k == 2) = false := eqi_no d2
  have e3 : (k == 3) = false := eqi_no d3
  rw [show recOk k t kb.length n c = false from decide_eq_false (by omega)]
  go_enter Try.func6, Try.ntmps6
  go_wp2_with fail
  all_goals (go_ret; first | exact ⟨rfl, (Below.refl _ _).alloc (Nat.le_refl _) _⟩ | exact ⟨ret_no (by omega), (Below.refl _ _).alloc (Nat.le_refl _) _⟩ | exact ⟨ret_yes (by omega), (Below.refl _ _).alloc (Nat.le_refl _) _⟩)
set_option maxRecDepth 100000 in
set_option maxHeartbeats 1000000 in
theorem Same5_yes (w : World) (k t : Int) (kb : List UInt8) (a : Option Addr) (n cap : Nat) (c : Int) (bs : List UInt8) (a2 : Option Addr) (n2 cap2 : Nat) (h1 : Sl encB w a n bs) (h2 : Sl encB w a2 n2 bs) :
    Calls Try.prog 17 #[recL k t kb a n cap c, recL k t kb a2 n2 cap2 c] w fun e w' => e = .returned (.bool true) ∧ Below w.heap.size w w' := by
  have hb := ((Below.refl w.heap.size w).alloc (Nat.le_refl _) (.cells #[.int .i64 k, .int .u32 t, .string ⟨kb.toArray⟩, .slice a n cap, .int .i64 c] 28)).alloc (by simp) (.cells #[.int .i64 k, .int .u32 t, .string ⟨kb.toArray⟩, .slice a2 n2 cap2, .int .i64 c] 28)
  have q1 := run_conv (h1.below hb) cap
  have q2 := run_conv (h2.below hb) cap2
  have HB := Lib.hid hb
  clear hb h1 h2
  go_enter Try.func17, Try.ntmps17
  go_wp2_with fail
  go_ret
  exact ⟨rfl, HB.out⟩
end Go.Proofs.Ytechkdnoekffmaa
/- num: Put and Get are each other's back. No program in sight. -/
namespace Go.Proofs.Ytechkdnoekffmaa
theorem putB_succ (v n : Nat) : putB v (n + 1) = putB (v / 256) n ++ [UInt8.ofNat (v % 256)] := by
  unfold putB
  rw [List.range_succ, List.map_append]
  congr 1
  · apply List.map_congr_left
    intro i hi
    have hi := List.mem_range.1 hi
    rw [show n + 1 - 1 - i = (n - 1 - i) + 1 by omega, Nat.pow_succ, Nat.mul_comm, ← Nat.div_div_eq_div_mul]
  · simp
theorem put_get (cs : List UInt8) : putB (getN cs) cs.length = cs := by
  generalize hn : cs.length = n
  induction n generalizing cs with
  | zero => rw [List.length_eq_zero_iff.1 hn]; rfl
  | succ n ih =>
    have h1 : cs ≠ [] := by intro h; rw [h] at hn; simp at hn
    obtain ⟨ds, c, rfl⟩ : ∃ ds c, cs = ds ++ [c] := ⟨cs.dropLast, cs.getLast h1, (List.dropLast_concat_getLast h1).symm⟩
    have hl : ds.length = n := by simpa using hn
    have hc := c.toNat_lt
    rw [putB_succ, getN_snoc, show (getN ds * 256 + c.toNat) / 256 = getN ds by omega, show (getN ds * 256 + c.toNat) % 256 = c.toNat by omega, ih ds hl]
    simp
theorem get_put (v n : Nat) : getN (putB v n) = v % 256 ^ n := by
  induction n generalizing v with
  | zero => simp [putB, getN, Nat.mod_one]
  | succ n ih =>
    rw [putB_succ, getN_snoc, ih, UInt8.toNat_ofNat_of_lt' (by show v % 256 < 256; omega), Nat.pow_succ, Nat.mul_comm (256 ^ n) 256, Nat.mod_mul]
    omega
end Go.Proofs.Ytechkdnoekffmaa
/- rec: a record's bytes. No condition. -/
namespace Go.Proofs.Ytechkdnoekffmaa
open Go.ChangeShapes Go.WideShapes Go.ChangeAt Go.RowKit
def crcN (bs : List UInt8) : Nat := (crc16 65535#16 bs).toNat
theorem crcN_lt (bs : List UInt8) : crcN bs < 65536 := (crc16 65535#16 bs).isLt
theorem up_crcN (bs : List UInt8) : bs.foldl upByte 65535 = (crcN bs : Int) := up_crc bs 65535#16
theorem ref_crcN (bs : List UInt8) : bs.foldl refByte16 65535 = (crcN bs : Int) := ref_crc16 bs 65535#16
def sumN (bs : List UInt8) : Nat := (bits .xor .u32 (bs.foldl refByte32 4294967295) 4294967295).toNat
theorem sumN_int (bs : List UInt8) : bits .xor .u32 (bs.foldl refByte32 4294967295) 4294967295 = (sumN bs : Int) := by
  have := bits_u32 .xor (bs.foldl refByte32 4294967295) 4294967295
  unfold sumN; omega
theorem sumN_lt (bs : List UInt8) : sumN bs < 4294967296 := by
  have := bits_u32 .xor (bs.foldl refByte32 4294967295) 4294967295
  unfold sumN; omega
theorem up_sumN (bs : List UInt8) : not32 (bs.foldl downByte 4294967295) = (sumN bs : Int) := by
  rw [← sumN_int, same32 bs _ (by omega) (by omega), not32, show IntKind.u32.max = 4294967295 by decide, bits32_xor, bits32_xor, BitVec.xor_comm]
theorem Sum16_n (w : World) (a : Option Addr) (n cap : Nat) (bs : List UInt8) (hb : Bs w a n bs) (hn : n ≤ 65536) :
    Calls Try.prog 24 #[.slice a n cap] w fun e w' => e = .returned (.int .u16 (crcN bs : Int)) ∧ Below w.heap.size w w' := by
  have h := Sum16_any w a n cap bs hb hn
  rwa [up_crcN] at h
theorem refSum16_n (w : World) (a : Option Addr) (n cap : Nat) (bs : List UInt8) (hb : Bs w a n bs) (hn : n ≤ 65536) :
    Calls Try.prog 13 #[.slice a n cap] w fun e w' => e = .returned (.int .u16 (crcN bs : Int)) ∧ w = w' := by
  have h := refSum16_any w a n cap bs hb hn
  rwa [ref_crcN] at h
theorem Sum32_n (w : World) (a : Option Addr) (n cap : Nat) (bs : List UInt8) (hb : Bs w a n bs) (hn : n ≤ 65536) :
    Calls Try.prog 29 #[.slice a n cap] w fun e w' => e = .returned (.int .u32 (sumN bs : Int)) ∧ Below w.heap.size w w' := by
  have h := Sum32_any w a n cap bs hb hn
  rwa [up_sumN] at h
theorem refSum32_n (w : World) (a : Option Addr) (n cap : Nat) (bs : List UInt8) (hb : Bs w a n bs) (hn : n ≤ 65536) :
    Calls Try.prog 14 #[.slice a n cap] w fun e w' => e = .returned (.int .u32 (sumN bs : Int)) ∧ w = w' := by
  have h := refSum32_any w a n cap bs hb hn
  rwa [sumN_int] at h
theorem strSrc (w : World) (kb : List UInt8) : Src Try.prog 1 9 (.string ⟨kb.toArray⟩) kb.length (kb.map encB) w := by
  have h := Src.ofString (P := Try.prog) (w := w) (tx := 9) Try.underlying9 ⟨kb.toArray⟩
  have h1 : (⟨kb.toArray⟩ : ByteArray).size = kb.length := by simp [ByteArray.size]
  have h2 : byteCells ⟨kb.toArray⟩ = kb.map encB := by simp [byteCells, encB]
  rwa [h1, h2] at h
theorem wp_app1 {t e : TypeId} {z : Value} {bytes : Nat} (hO : OneE t e z bytes) {w : World} {ops : Array Oper} {o : Oper} {a : Act} {K : Act → World → Prop} {Q : Exit → Act → World → Prop} (hgd : Region.wanted o (yielded ops a.tmps) = true) (s x : Operand) (tx : TypeId)
    (ho : o.op = .call { callee := .builtin .append, args := #[s, x], argTypes := #[t, tx] })
    (base : Nat) (v : Value) (n : Nat) (xs : List Value) (hv : a.eval s = v) (hown : w.ownsRow base e 1 v n xs)
    (y : Value) (m : Nat) (news : List Value) (hy : a.eval x = y) (hs : Src Try.prog 1 tx y m news w) (hlen : (n + m) * bytes ≤ 140737488355328) (hm : n + m ≤ maxLen) (hbase : base ≤ w.heap.size)
    (h : ∀ v' w', w'.ownsRow base e 1 v' (n + m) (xs ++ news) → w.grownBy w' v.ownBlock → Below base w w' → K (a.put o.dst v') w') : Oper.wp Try.prog o a w K Q := by
  have h1 := step_app1 (E := True) (ops := ops) (Q := Q) hO hgd s x tx ho base v n xs hv hown y m news hy hs hlen hm hbase h
  rwa [if_pos hgd] at h1
/-- The nine bytes that a record begins with. -/
def recHd (u : UInt8) (t key blob c : Nat) : List UInt8 := [u] ++ putB t 4 ++ putB key 1 ++ putB blob 2 ++ putB c 1
theorem recHd_length (u : UInt8) (t key blob c : Nat) : (recHd u t key blob c).length = 9 := by simp [recHd, putB_length]
/-- All but its sum of 32 bits and the last byte. -/
def recBody (u : UInt8) (t : Nat) (kb : List UInt8) (bs : List UInt8) (c : Nat) : List UInt8 :=
  recHd u t kb.length bs.length c ++ putB (crcN (recHd u t kb.length bs.length c)) 2 ++ kb ++ bs
def recB (u : UInt8) (t : Nat) (kb : List UInt8) (bs : List UInt8) (c : Nat) : List UInt8 := recBody u t kb bs c ++ putB (sumN (recBody u t kb bs c)) 4
/-- A block of five cells behind a walk. -/
def Blk5 (w : World) (g : Nat) (x y z u v : Value) (t : TypeId) : Prop := w.heap[g]? = some (.cells #[x, y, z, u, v] t)
theorem Blk5.belowB {w w1 : World} {B g : Nat} {x y z u v : Value} {t : TypeId} (h : Blk5 w g x y z u v t) (hb : Below B w w1) (hlt : g < B) : Blk5 w1 g x y z u v t := by
  unfold Blk5
  rw [hb.block _ hlt]; exact h
theorem Blk5.lt {w : World} {g : Nat} {x y z u v : Value} {t : TypeId} (h : Blk5 w g x y z u v t) : g < w.heap.size := (Array.getElem?_eq_some_iff.1 h).1
theorem Blk5.below {w w1 : World} {g : Nat} {x y z u v : Value} {t : TypeId} (h : Blk5 w g x y z u v t) (hb : Below w.heap.size w w1) : Blk5 w1 g x y z u v t := h.belowB hb h.lt
structure Box5 (w : World) (g : Nat) (x y z u v : Value) : Prop where
  c0 : w.cell? ⟨g, 0, none⟩ = some x
  c1 : w.cell? ⟨g, 1, none⟩ = some y
  c2 : w.cell? ⟨g, 2, none⟩ = some z
  c3 : w.cell? ⟨g, 3, none⟩ = some u
  c4 : w.cell? ⟨g, 4, none⟩ = some v
  f0 : w.frozen? ⟨g, 0, none⟩ = false
  f1 : w.frozen? ⟨g, 1, none⟩ = false
  f2 : w.frozen? ⟨g, 2, none⟩ = false
  f3 : w.frozen? ⟨g, 3, none⟩ = false
  f4 : w.frozen? ⟨g, 4, none⟩ = false
  lt : g < w.heap.size
theorem Blk5.box {w : World} {g : Nat} {x y z u v : Value} {t : TypeId} (hg : Blk5 w g x y z u v t) : Box5 w g x y z u v := by
  refine ⟨?_, ?_, ?_, ?_, ?_, ?_, ?_, ?_, ?_, ?_, hg.lt⟩
  · rw [cell_of_row w _ 0 _ _ _ hg]; rfl
  · rw [cell_of_row w _ 1 _ _ _ hg]; rfl
  · rw [cell_of_row w _ 2 _ _ _ hg]; rfl
  · rw [cell_of_row w _ 3 _ _ _ hg]; rfl
  · rw [cell_of_row w _ 4 _ _ _ hg]; rfl
  all_goals (unfold World.frozen?; rw [show w.heap[g]? = _ from hg]; rfl)
end Go.Proofs.Ytechkdnoekffmaa
/- A region that draws its order, walked along a tree: where two operations may come up that both turn the world, both orders are walked. Over any program. -/
namespace Go.Proofs.Ytechkdnoekffmaa
open Go.RowKit
inductive LexT where
  | nil : LexT
  | step : Nat → Bool → LexT → LexT
  | fork : Nat → LexT → Nat → LexT → LexT
def wpLexT (P : Program) (ops : Array Oper) (Q : Exit → Act → World → Prop) (S : World → Prop) : LexT → Act → World → Prop
  | .nil, a, w => Q .normal a w
  | .step i b l, a, w => lexOp P ops Q S i b (wpLexT P ops Q S l) a w
  | .fork i l j m, a, w => lexOp P ops Q S i false (wpLexT P ops Q S l) a w ∧ lexOp P ops Q S j false (wpLexT P ops Q S m) a w
def checkT (ops : Array Oper) : Nat → Array Bool → LexT → Bool
  | 0, listed, .nil => (Region.ready .any ops listed).isEmpty
  | n + 1, listed, .step i b l => (if b then Region.free .any ops listed i && (Region.ready .any ops listed).contains i else Region.ready .any ops listed == [i]) && checkT ops n (listed.setIfInBounds i true) l
  | n + 1, listed, .fork i l j m => (Region.ready .any ops listed == [i, j]) && checkT ops n (listed.setIfInBounds i true) l && checkT ops n (listed.setIfInBounds j true) m
  | _, _, _ => false
theorem lexT_sound {P : Program} {ops : Array Oper} {Q : Exit → Act → World → Prop} {S : World → Prop} (hs : Region.noSelect ops = true) (hQ : ∀ c a d v w, Q (.panic c) (a.put d v) w → Q (.panic c) a w) :
    ∀ (l : LexT) (n : Nat) (listed : Array Bool) (a : Act) (w : World), checkT ops n listed l = true → wpLexT P ops Q S l a w → wpAnyH P .any ops Q S n listed a w := by
  intro l
  induction l with
  | nil =>
    intro n listed a w hc h
    cases n with
    | zero => exact ⟨by simpa [checkT] using hc, h⟩
    | succ n => simp [checkT] at hc
  | step i b l ih =>
    intro n listed a w hc h
    cases n with
    | zero => simp [checkT] at hc
    | succ n =>
    simp only [checkT, Bool.and_eq_true] at hc
    obtain ⟨hc1, hc2⟩ := hc
    change lexOp P ops Q S i b (wpLexT P ops Q S l) a w at h
    unfold lexOp at h
    cases ho : ops[i]? with
    | none => rw [ho] at h; exact h.elim
    | some o =>
      rw [ho] at h
      simp only at h
      cases b with
      | true =>
        simp only [if_true, Bool.and_eq_true] at hc1
        obtain ⟨hf, hr⟩ := hc1
        by_cases hw : Region.wanted o (yielded ops a.tmps) = true
        · rw [if_pos hw] at h
          obtain ⟨v, h1, h2, h3⟩ := h
          exact wpAnyH_take ho hs hf hr (fun c a w => hQ c a _ _ w) (.inl ⟨hw, h1⟩) h2 (ih _ _ _ _ hc2 h3)
        · rw [if_neg hw] at h
          exact wpAnyH_take ho hs hf hr (fun c a w => hQ c a _ _ w) (.inr ⟨by simpa using hw, rfl⟩) h.1 (ih _ _ _ _ hc2 h.2)
      | false =>
        simp only [Bool.false_eq_true, if_false] at hc1
        have hr : Region.ready .any ops listed = [i] := by simpa using hc1
        refine wpAnyH_all hr (by simp) (fun j hj => ?_)
        obtain rfl : j = i := by simpa using hj
        unfold wpOp
        rw [ho]
        simp only
        by_cases hw : Region.wanted o (yielded ops a.tmps) = true
        · rw [if_pos hw] at h
          simp only [hw, if_true]
          exact .inl (Oper.wp_mono (fun a' w' h' => ⟨h'.1, ih _ _ _ _ hc2 h'.2⟩) h)
        · rw [if_neg hw] at h
          simp only [hw]
          exact ⟨h.1, ih _ _ _ _ hc2 h.2⟩
  | fork i l j m ih1 ih2 =>
    intro n listed a w hc h
    cases n with
    | zero => simp [checkT] at hc
    | succ n =>
    simp only [checkT, Bool.and_eq_true] at hc
    obtain ⟨⟨hc1, hc2⟩, hc3⟩ := hc
    have hr : Region.ready .any ops listed = [i, j] := by simpa using hc1
    obtain ⟨h1, h2⟩ := h
    refine wpAnyH_all hr (by simp) (fun k hk => ?_)
    have hk' : k = i ∨ k = j := by simpa using hk
    rcases hk' with rfl | rfl
    · unfold lexOp at h1
      cases ho : ops[k]? with
      | none => rw [ho] at h1; exact h1.elim
      | some o =>
        rw [ho] at h1
        simp only at h1
        unfold wpOp
        rw [ho]
        simp only
        by_cases hw : Region.wanted o (yielded ops a.tmps) = true
        · rw [if_pos hw] at h1
          simp only [hw, if_true]
          exact .inl (Oper.wp_mono (fun a' w' h' => ⟨h'.1, ih1 _ _ _ _ hc2 h'.2⟩) h1)
        · rw [if_neg hw] at h1
          simp only [hw]
          exact ⟨h1.1, ih1 _ _ _ _ hc2 h1.2⟩
    · unfold lexOp at h2
      cases ho : ops[k]? with
      | none => rw [ho] at h2; exact h2.elim
      | some o =>
        rw [ho] at h2
        simp only at h2
        unfold wpOp
        rw [ho]
        simp only
        by_cases hw : Region.wanted o (yielded ops a.tmps) = true
        · rw [if_pos hw] at h2
          simp only [hw, if_true]
          exact .inl (Oper.wp_mono (fun a' w' h' => ⟨h'.1, ih2 _ _ _ _ hc3 h'.2⟩) h2)
        · rw [if_neg hw] at h2
          simp only [hw]
          exact ⟨h2.1, ih2 _ _ _ _ hc3 h2.2⟩
def LexT.of : List (Nat × Bool) → LexT → LexT
  | [], t => t
  | (i, b) :: l, t => .step i b (LexT.of l t)
theorem wp_region_lexT {P : Program} {id : Nat} {ops : Array Oper} {Q : Exit → Act → World → Prop} {a : Act} {w : World} (S : World → Prop) (l : LexT) (hm : P.follows .mixedOrders = true)
    (hc : (Region.noSelect ops && checkT ops ops.size (Array.replicate ops.size false) l) = true) (hQ : ∀ c a d v w, Q (.panic c) (a.put d v) w → Q (.panic c) a w)
    (h : wpLexT P ops Q S l a w.drew) : (Code.region id ops true).wp P Q a w := by
  simp only [Bool.and_eq_true] at hc
  obtain ⟨hs, hk⟩ := hc
  exact wp_region_held hm (lexT_sound (P := P) (Q := Q) (S := S) hs hQ l _ _ a _ hk h)
theorem lexT_step {P : Program} {ops : Array Oper} {Q : Exit → Act → World → Prop} {S : World → Prop} {i : Nat} {b : Bool} {l : LexT} {a : Act} {w : World}
    (h : ∀ K : Act → World → Prop, (∀ a w, wpLexT P ops Q S l a w → K a w) → lexOp P ops Q S i b K a w) : wpLexT P ops Q S (.step i b l) a w := h _ (fun _ _ h => h)
theorem lexT_fork {P : Program} {ops : Array Oper} {Q : Exit → Act → World → Prop} {S : World → Prop} {i j : Nat} {l m : LexT} {a : Act} {w : World}
    (h1 : wpLexT P ops Q S (.step i false l) a w) (h2 : wpLexT P ops Q S (.step j false m) a w) : wpLexT P ops Q S (.fork i l j m) a w := ⟨h1, h2⟩
theorem lexT_nil {P : Program} {ops : Array Oper} {Q : Exit → Act → World → Prop} {S : World → Prop} {a : Act} {w : World} (h : Q .normal a w) : wpLexT P ops Q S .nil a w := h
end Go.Proofs.Ytechkdnoekffmaa
