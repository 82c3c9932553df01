/- utf: what the calls compute. No program in sight. -/
import Derived.Test.YtlfoedagcagpgaaLib2
namespace Go.Proofs.Ytlfoedagcagpgaa
/-- A unit's bytes. -/
def unitB (v : Nat) : List UInt8 :=
  if 1 ≤ v ∧ v < 128 then [UInt8.ofNat v]
  else if v < 2048 then [UInt8.ofNat (192 + v / 64), UInt8.ofNat (128 + v % 64)]
  else [UInt8.ofNat (224 + v / 4096), UInt8.ofNat (128 + v / 64 % 64), UInt8.ofNat (128 + v % 64)]
def encU (x : UInt16) : Value := .int .u16 (x.toNat : Int)
theorem encU_cell (x : UInt16) : (encU x).oneCell' = true := rfl
/-- A text's bytes. -/
def encodeB (us : List UInt16) : List UInt8 := us.flatMap fun u => unitB u.toNat
theorem unitB_length (v : Nat) : 1 ≤ (unitB v).length ∧ (unitB v).length ≤ 3 := by
  unfold unitB
  split
  · simp
  · split <;> simp
theorem unitB_one {v : Nat} (h : 1 ≤ v) (h' : v < 128) : (unitB v).map encB = [.int .u8 (v : Int)] := by
  unfold unitB; rw [if_pos ⟨h, h'⟩]; simp only [List.map_cons, List.map_nil]; rw [encB_of (by omega) (by omega)]; rfl
theorem unitB_two {v : Nat} (h : ¬ (1 ≤ v ∧ v < 128)) (h' : v < 2048) : (unitB v).map encB = [.int .u8 (192 + (v : Int) / 64), .int .u8 (128 + (v : Int) % 64)] := by
  unfold unitB; rw [if_neg h, if_pos h']; simp only [List.map_cons, List.map_nil]; rw [encB_of (by omega) (by omega), encB_of (by omega) (by omega)]; rfl
theorem unitB_three {v : Nat} (h' : ¬ v < 2048) (h : v < 65536) : (unitB v).map encB = [.int .u8 (224 + (v : Int) / 4096), .int .u8 (128 + (v : Int) / 64 % 64), .int .u8 (128 + (v : Int) % 64)] := by
  unfold unitB; rw [if_neg (by omega), if_neg h']; simp only [List.map_cons, List.map_nil]; rw [encB_of (by omega) (by omega), encB_of (by omega) (by omega), encB_of (by omega) (by omega)]; rfl
theorem encodeB_take (us : List UInt16) (k : Nat) (h : k < us.length) : encodeB (us.take (k + 1)) = encodeB (us.take k) ++ unitB us[k].toNat := by
  unfold encodeB
  rw [List.take_succ_eq_append_getElem h, List.flatMap_append]
  simp
theorem encodeB_length (us : List UInt16) : (encodeB us).length ≤ 3 * us.length := by
  induction us with
  | nil => simp [encodeB]
  | cons u us ih =>
    have := unitB_length u.toNat
    simp only [encodeB, List.flatMap_cons, List.length_append, List.length_cons] at *
    omega
/-- Six bits of a byte that goes on. -/
def tailN (bs : List UInt8) (i : Nat) : Nat × Bool :=
  match bs[i]? with
  | some c => if c.toNat / 64 = 2 then (c.toNat % 64, true) else (0, false)
  | none => (0, false)
theorem tailN_lt (bs : List UInt8) (i : Nat) : (tailN bs i).1 < 64 := by
  unfold tailN
  split
  · split
    · exact Nat.mod_lt _ (by decide)
    · decide
  · decide
/-- The unit with which bytes begin, and how many it has; 0: none. -/
def takeOf (c : Nat) (x : Nat) (one : Bool) (y : Nat) (both : Bool) : Nat × Nat :=
  if c ≠ 0 ∧ c < 128 then (c, 1)
  else if c / 32 = 6 ∧ one = true then (if c % 32 * 64 + x = 0 ∨ 128 ≤ c % 32 * 64 + x then (c % 32 * 64 + x, 2) else (0, 0))
  else if c / 16 = 14 ∧ one = true ∧ both = true then (if 2048 ≤ c % 16 * 4096 + x * 64 + y then (c % 16 * 4096 + x * 64 + y, 3) else (0, 0))
  else (0, 0)
def takeN (bs : List UInt8) : Nat × Nat := takeOf ((bs[0]?).getD 0).toNat (tailN bs 1).1 (tailN bs 1).2 (tailN bs 2).1 (tailN bs 2).2
theorem or16_join {x y : Nat} (i : Nat) (hx : x % 2 ^ i = 0) (hy : y < 2 ^ i) (h : x + y < 65536) : bits .or .u16 (x : Int) (y : Int) = (x : Int) + y := by
  rw [u16_or_nat x y (by omega) (by omega), nat_join i x y hx hy]
  push_cast; rfl
def decodeF : Nat → List UInt8 → Option (List UInt16)
  | _, [] => some []
  | 0, _ => none
  | f + 1, c :: t => if (takeN (c :: t)).2 = 0 then none else (decodeF f ((c :: t).drop (takeN (c :: t)).2)).map (UInt16.ofNat (takeN (c :: t)).1 :: ·)
/-- The text of bytes. -/
def decodeB (bs : List UInt8) : Option (List UInt16) := decodeF bs.length bs
theorem tailN_some {bs : List UInt8} {i : Nat} (h : (tailN bs i).2 = true) : i < bs.length := by
  unfold tailN at h
  split at h
  · rename_i c hc
    exact (List.getElem?_eq_some_iff.1 hc).1
  · simp at h
theorem takeN_le {bs : List UInt8} (h : bs ≠ []) : (takeN bs).2 ≤ bs.length ∧ (takeN bs).1 < 65536 := by
  have hl : 0 < bs.length := List.length_pos_iff.2 h
  have hx := tailN_lt bs 1
  have hy := tailN_lt bs 2
  have hc := (bs[0]?.getD 0).toNat_lt
  unfold takeN takeOf
  split
  · exact ⟨hl, by simp only; omega⟩
  split
  · rename_i h1
    have := tailN_some h1.2
    split
    · exact ⟨this, by simp only; omega⟩
    · exact ⟨by simp, by simp⟩
  split
  · rename_i h1
    have := tailN_some h1.2.2
    split
    · exact ⟨this, by simp only; omega⟩
    · exact ⟨by simp, by simp⟩
  · exact ⟨by simp, by simp⟩
theorem decodeF_step {f : Nat} {bs : List UInt8} (hf : bs.length ≤ f + 1) (h : bs ≠ []) : decodeF (f + 1) bs = if (takeN bs).2 = 0 then none else (decodeF f (bs.drop (takeN bs).2)).map (UInt16.ofNat (takeN bs).1 :: ·) := by
  cases bs with
  | nil => exact absurd rfl h
  | cons c t => rw [decodeF]

/-! The reference's Decode: what the beginning may be. -/
def refOf (c : Nat) (l : Nat) (x y : Nat) : Int × Nat :=
  if 192 ≤ c ∧ c < 224 ∧ 1 < l then (((c : Int) - 192) * 64 + x - 128, 2)
  else if 224 ≤ c ∧ c < 240 ∧ 2 < l then (((c : Int) - 224) * 4096 + ((x : Int) - 128) * 64 + y - 128, 3)
  else (c, 1)
def refN (bs : List UInt8) : Int × Nat := refOf (bs[0]?.getD 0).toNat bs.length (bs[1]?.getD 0).toNat (bs[2]?.getD 0).toNat
theorem u8_eq {n : Nat} {c : UInt8} (h : n < 256) : UInt8.ofNat n = c ↔ n = c.toNat := by
  constructor
  · intro e; rw [← e, UInt8.toNat_ofNat_of_lt' h]
  · intro e; rw [e]; simp
theorem unit_is1 {v : Nat} (hv : v < 65536) (c : UInt8) : unitB v = [c] ↔ 1 ≤ v ∧ v < 128 ∧ v = c.toNat := by
  unfold unitB
  split
  · rename_i h; rw [List.cons.injEq, u8_eq (by omega)]; simp; omega
  · rename_i h; split <;> simp <;> omega
theorem unit_is2 {v : Nat} (hv : v < 65536) (c x : UInt8) : unitB v = [c, x] ↔ ¬ (1 ≤ v ∧ v < 128) ∧ v < 2048 ∧ 192 + v / 64 = c.toNat ∧ 128 + v % 64 = x.toNat := by
  unfold unitB
  split
  · rename_i h; simp; omega
  · rename_i h
    split
    · rename_i h2; rw [List.cons.injEq, List.cons.injEq, u8_eq (by omega), u8_eq (by omega)]; simp; omega
    · rename_i h2; simp; omega
theorem unit_is3 {v : Nat} (hv : v < 65536) (c x y : UInt8) : unitB v = [c, x, y] ↔ 2048 ≤ v ∧ 224 + v / 4096 = c.toNat ∧ 128 + v / 64 % 64 = x.toNat ∧ 128 + v % 64 = y.toNat := by
  unfold unitB
  split
  · rename_i h; simp; omega
  · rename_i h
    split
    · rename_i h2; simp; omega
    · rename_i h2; rw [List.cons.injEq, List.cons.injEq, List.cons.injEq, u8_eq (by omega), u8_eq (by omega), u8_eq (by omega)]; simp; omega
theorem tailN_at (bs : List UInt8) (i : Nat) (c : UInt8) (h : bs[i]? = some c) : tailN bs i = if c.toNat / 64 = 2 then (c.toNat % 64, true) else (0, false) := by
  unfold tailN; rw [h]
theorem tailN_off (bs : List UInt8) (i : Nat) (h : bs[i]? = none) : tailN bs i = (0, false) := by
  unfold tailN; rw [h]
/-- Both ways of reading the beginning tell the same. -/
theorem ref_take (bs : List UInt8) (h : bs ≠ []) :
    (0 ≤ (refN bs).1 ∧ (refN bs).1 ≤ 65535 ∧ unitB (refN bs).1.toNat = bs.take (refN bs).2 → takeN bs = ((refN bs).1.toNat, (refN bs).2)) ∧
    (¬ (0 ≤ (refN bs).1 ∧ (refN bs).1 ≤ 65535 ∧ unitB (refN bs).1.toNat = bs.take (refN bs).2) → (takeN bs).2 = 0) := by
  rcases bs with _ | ⟨c, t⟩
  · exact absurd rfl h
  have hc := c.toNat_lt
  by_cases c2 : 192 ≤ c.toNat ∧ c.toNat < 224 ∧ 1 < (c :: t).length
  · rcases t with _ | ⟨x, t⟩
    · simp at c2
    have hx := x.toNat_lt
    have e1 : refN (c :: x :: t) = (((c.toNat : Int) - 192) * 64 + x.toNat - 128, 2) := by
      show refOf c.toNat (c :: x :: t).length x.toNat _ = _
      unfold refOf; rw [if_pos c2]
    have e2 : takeN (c :: x :: t) = if x.toNat / 64 = 2 then (if c.toNat % 32 * 64 + x.toNat % 64 = 0 ∨ 128 ≤ c.toNat % 32 * 64 + x.toNat % 64 then (c.toNat % 32 * 64 + x.toNat % 64, 2) else (0, 0)) else (0, 0) := by
      unfold takeN
      rw [tailN_at (c :: x :: t) 1 x rfl]
      show takeOf c.toNat _ _ _ _ = _
      by_cases h1 : x.toNat / 64 = 2
      · rw [if_pos h1, if_pos h1]
        unfold takeOf
        rw [if_neg (by omega), if_pos ⟨by omega, rfl⟩]
      · rw [if_neg h1, if_neg h1]
        unfold takeOf
        rw [if_neg (by omega), if_neg (by simp), if_neg (by simp)]
    rw [e1, e2]
    simp only [List.take_succ_cons, List.take_zero]
    refine ⟨fun ⟨p1, p2, p3⟩ => ?_, fun hP => ?_⟩
    · have q := (unit_is2 (by omega) c x).1 p3
      rw [if_pos (by omega), if_pos (by omega)]
      simp; omega
    · by_cases h1 : x.toNat / 64 = 2
      · rw [if_pos h1]
        by_cases h2 : c.toNat % 32 * 64 + x.toNat % 64 = 0 ∨ 128 ≤ c.toNat % 32 * 64 + x.toNat % 64
        · exact (hP ⟨by omega, by omega, (unit_is2 (by omega) c x).2 (by omega)⟩).elim
        · rw [if_neg h2]
      · rw [if_neg h1]
  by_cases c3 : 224 ≤ c.toNat ∧ c.toNat < 240 ∧ 2 < (c :: t).length
  · rcases t with _ | ⟨x, _ | ⟨y, t⟩⟩
    · simp at c3
    · simp at c3
    have hx := x.toNat_lt
    have hy := y.toNat_lt
    have e1 : refN (c :: x :: y :: t) = (((c.toNat : Int) - 224) * 4096 + ((x.toNat : Int) - 128) * 64 + y.toNat - 128, 3) := by
      show refOf c.toNat (c :: x :: y :: t).length x.toNat y.toNat = _
      unfold refOf; rw [if_neg c2, if_pos c3]
    have e2 : takeN (c :: x :: y :: t) = if x.toNat / 64 = 2 ∧ y.toNat / 64 = 2 then (if 2048 ≤ c.toNat % 16 * 4096 + x.toNat % 64 * 64 + y.toNat % 64 then (c.toNat % 16 * 4096 + x.toNat % 64 * 64 + y.toNat % 64, 3) else (0, 0)) else (0, 0) := by
      unfold takeN
      rw [tailN_at (c :: x :: y :: t) 1 x rfl, tailN_at (c :: x :: y :: t) 2 y rfl]
      show takeOf c.toNat _ _ _ _ = _
      by_cases h1 : x.toNat / 64 = 2
      · by_cases h2 : y.toNat / 64 = 2
        · rw [if_pos h1, if_pos h2, if_pos ⟨h1, h2⟩]
          unfold takeOf
          rw [if_neg (by omega), if_neg (by omega), if_pos ⟨by omega, rfl, rfl⟩]
        · rw [if_neg h2, if_neg (by omega : ¬ (x.toNat / 64 = 2 ∧ y.toNat / 64 = 2))]
          unfold takeOf
          rw [if_neg (by omega), if_neg (by omega), if_neg (by simp)]
      · rw [if_neg h1, if_neg (by omega : ¬ (x.toNat / 64 = 2 ∧ y.toNat / 64 = 2))]
        unfold takeOf
        rw [if_neg (by omega), if_neg (by omega), if_neg (by simp)]
    rw [e1, e2]
    simp only [List.take_succ_cons, List.take_zero]
    refine ⟨fun ⟨p1, p2, p3⟩ => ?_, fun hP => ?_⟩
    · have q := (unit_is3 (by omega) c x y).1 p3
      rw [if_pos (by omega), if_pos (by omega)]
      simp; omega
    · by_cases h1 : x.toNat / 64 = 2 ∧ y.toNat / 64 = 2
      · rw [if_pos h1]
        by_cases h2 : 2048 ≤ c.toNat % 16 * 4096 + x.toNat % 64 * 64 + y.toNat % 64
        · exact (hP ⟨by omega, by omega, (unit_is3 (by omega) c x y).2 (by omega)⟩).elim
        · rw [if_neg h2]
      · rw [if_neg h1]
  · have e1 : refN (c :: t) = ((c.toNat : Int), 1) := by
      show refOf c.toNat (c :: t).length _ _ = _
      unfold refOf
      rw [if_neg c2, if_neg c3]
    rw [e1]
    simp only [List.take_succ_cons, List.take_zero]
    have e2 : takeN (c :: t) = if c.toNat ≠ 0 ∧ c.toNat < 128 then (c.toNat, 1) else (0, 0) := by
      unfold takeN
      show takeOf c.toNat _ _ _ _ = _
      by_cases h1 : c.toNat ≠ 0 ∧ c.toNat < 128
      · unfold takeOf
        rw [if_pos h1, if_pos h1]
      · rw [if_neg h1]
        unfold takeOf
        rw [if_neg h1, if_neg, if_neg]
        · rintro ⟨h2, h3, h4⟩
          have := tailN_some h4
          exact c3 ⟨by omega, by omega, this⟩
        · rintro ⟨h2, h3⟩
          have := tailN_some h3
          exact c2 ⟨by omega, by omega, this⟩
    rw [e2]
    refine ⟨fun ⟨p1, p2, p3⟩ => ?_, fun hP => ?_⟩
    · have q := (unit_is1 (by omega) c).1 p3
      rw [if_pos (by omega)]
      simp
    · by_cases h1 : c.toNat ≠ 0 ∧ c.toNat < 128
      · exact (hP ⟨by omega, by omega, (unit_is1 (by omega) c).2 (by omega)⟩).elim
      · rw [if_neg h1]
theorem unitB_vals (v : Nat) (h : v < 65536) : (1 ≤ v ∧ v < 128 ∧ (unitB v).map UInt8.toNat = [v]) ∨ (¬ (1 ≤ v ∧ v < 128) ∧ v < 2048 ∧ (unitB v).map UInt8.toNat = [192 + v / 64, 128 + v % 64]) ∨
    (2048 ≤ v ∧ (unitB v).map UInt8.toNat = [224 + v / 4096, 128 + v / 64 % 64, 128 + v % 64]) := by
  have e : ∀ n, n < 256 → (UInt8.ofNat n).toNat = n := fun n hn => UInt8.toNat_ofNat_of_lt' hn
  unfold unitB
  split
  · rename_i h1; exact .inl ⟨h1.1, h1.2, by simp only [List.map_cons, List.map_nil]; rw [e _ (by omega)]⟩
  · rename_i h1
    split
    · rename_i h2; exact .inr (.inl ⟨h1, h2, by simp only [List.map_cons, List.map_nil]; rw [e _ (by omega), e _ (by omega)]⟩)
    · rename_i h2; exact .inr (.inr ⟨by omega, by simp only [List.map_cons, List.map_nil]; rw [e _ (by omega), e _ (by omega), e _ (by omega)]⟩)
/-- No unit's bytes are a beginning of another one's. -/
theorem unitB_apart {a b : Nat} (ha : a < 65536) (hb : b < 65536) (hne : a ≠ b) (hl : (unitB a).length ≤ (unitB b).length) : (unitB b).take (unitB a).length ≠ unitB a := by
  intro he
  have h1 : ((unitB b).map UInt8.toNat).take ((unitB a).map UInt8.toNat).length = (unitB a).map UInt8.toNat := by
    rw [List.length_map, ← List.map_take, he]
  have h2 : ((unitB a).map UInt8.toNat).length ≤ ((unitB b).map UInt8.toNat).length := by simpa using hl
  rcases unitB_vals a ha with ⟨a1, a2, a3⟩ | ⟨a1, a2, a3⟩ | ⟨a1, a3⟩ <;> rcases unitB_vals b hb with ⟨b1, b2, b3⟩ | ⟨b1, b2, b3⟩ | ⟨b1, b3⟩ <;> rw [a3, b3] at h1 h2 <;> simp at h1 h2 <;> omega
theorem unitB_inj {a b : Nat} (ha : a < 65536) (hb : b < 65536) (h : unitB a = unitB b) : a = b := by
  by_cases hne : a = b
  · exact hne
  · exact (unitB_apart ha hb hne (by rw [h]; exact Nat.le_refl _) (by rw [h, List.take_length])).elim
/-- What is encoded is decoded. -/
theorem takeN_unit (v : Nat) (h : v < 65536) (t : List UInt8) : takeN (unitB v ++ t) = (v, (unitB v).length) := by
  have hne : unitB v ++ t ≠ [] := by
    have h1 := (unitB_length v).1
    intro h0
    rw [(List.append_eq_nil_iff.1 h0).1] at h1
    simp at h1
  have hr := ref_take (unitB v ++ t) hne
  have key : refN (unitB v ++ t) = ((v : Int), (unitB v).length) := by
    have hv := unitB_vals v h
    unfold refN
    rcases hu : unitB v with _ | ⟨c, _ | ⟨x, _ | ⟨y, z⟩⟩⟩
    · have := (unitB_length v).1; rw [hu] at this; simp at this
    · rw [hu] at hv; simp at hv
      simp only [List.cons_append, List.nil_append, List.getElem?_cons_zero, Option.getD_some, List.length_cons]
      unfold refOf; rw [if_neg (by omega), if_neg (by omega)]; simp; omega
    · rw [hu] at hv; simp at hv
      simp only [List.cons_append, List.nil_append, List.getElem?_cons_zero, List.getElem?_cons_succ, Option.getD_some, List.length_cons]
      unfold refOf; rw [if_pos ⟨by omega, by omega, by omega⟩]; simp; omega
    · rw [hu] at hv; simp at hv
      obtain ⟨h1, h2, h3, h4, h5⟩ := hv
      subst h5
      simp only [List.cons_append, List.nil_append, List.getElem?_cons_zero, List.getElem?_cons_succ, Option.getD_some, List.length_cons]
      unfold refOf; rw [if_neg (by omega), if_pos ⟨by omega, by omega, by omega⟩]; simp; omega
  rw [key] at hr
  exact hr.1 ⟨by simp only; omega, by simp only; omega, by simp⟩
theorem decode_encodeF (us : List UInt16) (f : Nat) (hf : (encodeB us).length ≤ f) : decodeF f (encodeB us) = some us := by
  induction us generalizing f with
  | nil => cases f <;> rfl
  | cons u us ih =>
    have hu := u.toNat_lt
    have hl := unitB_length u.toNat
    have he : encodeB (u :: us) = unitB u.toNat ++ encodeB us := by simp [encodeB]
    rw [he] at hf ⊢
    rw [List.length_append] at hf
    obtain ⟨f, rfl⟩ : ∃ f', f = f' + 1 := ⟨f - 1, by omega⟩
    have hne : unitB u.toNat ++ encodeB us ≠ [] := by
      intro h0
      rw [(List.append_eq_nil_iff.1 h0).1] at hl
      simp at hl
    rw [decodeF_step (by rw [List.length_append]; omega) hne, takeN_unit u.toNat hu, if_neg (by omega), List.drop_left, ih f (by omega)]
    simp
theorem decode_encode (us : List UInt16) : decodeB (encodeB us) = some us := decode_encodeF us _ (Nat.le_refl _)
end Go.Proofs.Ytlfoedagcagpgaa
