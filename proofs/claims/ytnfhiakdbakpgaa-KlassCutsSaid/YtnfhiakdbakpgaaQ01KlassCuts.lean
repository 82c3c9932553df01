/- Slices of structs whose fields take one cell each. No condition. -/
import Derived.Test.YtnfhiakdbakpgaaQ00KlassCuts
namespace Go.Proofs.Ytnfhiakdbakpgaa
open Go.ChangeShapes Go.WideShapes Go.ChangeAt Go.RowKit
/-- The slice at a, of n structs of z cells each, reads as xs. -/
def Ss {α : Type} (z : Nat) (enc : α → List Value) (w : World) (a : Option Addr) (n : Nat) (xs : List α) : Prop :=
  xs.length = n ∧ (0 < n → ∃ b off, a = some ⟨b, off, none⟩ ∧ b < w.heap.size ∧ ∀ i (_ : i < xs.length) j, j < z → w.cell? ⟨b, off + i * z + j, none⟩ = (enc xs[i])[j]?)
theorem addr_add (b o k : Nat) : (⟨b, o, none⟩ : Addr).add k = ⟨b, o + k, none⟩ := by unfold Addr.add; split <;> simp_all
theorem cellS_below {w w' : World} (h : Below w.heap.size w w') {a : Addr} {v : Value} (hc : w.cell? a = some v) : w'.cell? a = some v := by
  have hlt : a.block < w.heap.size := by
    unfold World.cell? at hc
    cases hb : w.heap[a.block]? with
    | none => rw [hb] at hc; simp at hc
    | some o => exact (Array.getElem?_eq_some_iff.1 hb).1
  rw [h.cell hlt]
  exact hc
section
variable {α : Type} {z : Nat} {enc : α → List Value}
theorem Ss.below {w w' : World} {a : Option Addr} {n : Nat} {xs : List α} (h : Ss z enc w a n xs) (hb : Below w.heap.size w w') : Ss z enc w' a n xs := by
  refine ⟨h.1, fun hn => ?_⟩
  obtain ⟨b, off, ha, hlt, hc⟩ := h.2 hn
  exact ⟨b, off, ha, Nat.lt_of_lt_of_le hlt hb.size, fun i hi j hj => by rw [hb.cell (by simpa using hlt)]; exact hc i hi j hj⟩
theorem Ss.nil (w : World) (a : Option Addr) : Ss z enc w a 0 [] := ⟨rfl, fun h => by omega⟩
theorem flat_len (hz : ∀ x, (enc x).length = z) (xs : List α) : (xs.flatMap enc).length = xs.length * z := by
  induction xs with
  | nil => simp
  | cons x xs ih => rw [List.flatMap_cons, List.length_append, hz, ih, List.length_cons, Nat.add_mul, Nat.one_mul, Nat.add_comm]
theorem flat_at (hz : ∀ x, (enc x).length = z) (xs : List α) (i : Nat) (hi : i < xs.length) (j : Nat) (hj : j < z) : (xs.flatMap enc)[i * z + j]? = (enc xs[i])[j]? := by
  induction xs generalizing i with
  | nil => simp at hi
  | cons x xs ih =>
    rw [List.flatMap_cons]
    cases i with
    | zero => rw [Nat.zero_mul, Nat.zero_add, List.getElem?_append_left (by rw [hz]; exact hj)]; simp
    | succ i =>
      rw [List.getElem?_append_right (by rw [hz, Nat.add_mul]; omega), hz, show (i + 1) * z + j - z = i * z + j by rw [Nat.add_mul]; omega, ih i (by simpa using hi)]
      simp
theorem Ss.ofOwn (hz : ∀ x, (enc x).length = z) (z0 : 0 < z) {w : World} {base : Nat} {e : TypeId} {v : Value} {n : Nat} {xs : List α} (h : w.ownsRow base e z v n (xs.flatMap enc)) : ∃ a cap, v = .slice a n cap ∧ Ss z enc w a n xs ∧ n ≤ cap := by
  have hl : xs.length = n := by
    have h1 := h.1
    rw [flat_len hz] at h1
    exact Nat.eq_of_mul_eq_mul_right z0 h1
  rcases h.2 with ⟨rfl, rfl⟩ | ⟨g, cap, cur, rfl, hb, hg, hnc, _, _, ht⟩
  · exact ⟨none, 0, rfl, ⟨hl, fun h => by omega⟩, Nat.le_refl _⟩
  · refine ⟨_, cap, rfl, ⟨hl, fun _ => ⟨g, 0, rfl, (Array.getElem?_eq_some_iff.1 hg).1, fun i hi j hj => ?_⟩⟩, hnc⟩
    have hlt : i * z + j < n * z := by
      have : (i + 1) * z ≤ n * z := Nat.mul_le_mul_right _ (by omega)
      rw [Nat.add_mul] at this
      omega
    rw [Nat.zero_add, h.cellAt (i * z + j) hlt, flat_at hz xs i hi j hj]
theorem Ss.take {w : World} {a : Option Addr} {n j : Nat} {xs : List α} (h : Ss z enc w a n xs) (hj : j ≤ n) : Ss z enc w a j (xs.take j) := by
  refine ⟨by simp [h.1]; omega, fun hn => ?_⟩
  obtain ⟨b, off, ha, hlt, hc⟩ := h.2 (by omega)
  refine ⟨b, off, ha, hlt, fun i hi k hk => ?_⟩
  rw [hc i (by simp at hi; omega) k hk]
  simp
theorem Ss.src {P : Program} (hz : ∀ x, (enc x).length = z) (z0 : 0 < z) (h1 : ∀ x : α, ∀ u ∈ enc x, u.oneCell' = true) {w : World} {a : Option Addr} {n : Nat} {xs : List α} (h : Ss z enc w a n xs) {tx e' : TypeId} (hk : P.underlying tx = some (.slice e')) (cap : Nat) : Src P z tx (.slice a n cap) n (xs.flatMap enc) w := by
  obtain ⟨hl, hc⟩ := h
  have hone : ∀ u ∈ xs.flatMap enc, u.oneCell' = true := by
    intro u hu
    obtain ⟨x, _, hx⟩ := List.mem_flatMap.1 hu
    exact h1 x u hx
  by_cases hn : 0 < n
  · obtain ⟨b, off, rfl, _, hcell⟩ := hc hn
    refine Src.ofSlice w hk ⟨b, off, none⟩ n cap _ (by rw [flat_len hz, hl]) (fun j u hu => ?_) hone
    have hj : j < xs.length * z := by
      rw [← flat_len hz]
      rcases Nat.lt_or_ge j (xs.flatMap enc).length with h | h
      · exact h
      · rw [List.getElem?_eq_none h] at hu; cases hu
    have hjd : j / z < xs.length := Nat.div_lt_of_lt_mul (by rw [Nat.mul_comm]; exact hj)
    have hjm : j % z < z := Nat.mod_lt _ z0
    have hje : j / z * z + j % z = j := by rw [Nat.mul_comm]; exact Nat.div_add_mod j z
    have hf := flat_at hz xs (j / z) hjd (j % z) hjm
    rw [hje, hu] at hf
    rw [addr_add, ← hje, ← Nat.add_assoc, hcell (j / z) hjd (j % z) hjm, ← hf]
  · have h0 : n = 0 := by omega
    subst h0
    have hb : xs = [] := List.eq_nil_of_length_eq_zero hl
    subst hb
    cases a with
    | none => exact Src.ofNil w hk cap
    | some ad => exact Src.ofSlice w hk ad 0 cap [] (by simp) (fun j u hu => by simp at hu) (fun u hu => by cases hu)
end
/-- A slice type t whose elements e take z cells. -/
def StE (t e : TypeId) (z0 : Value) (z bytes : Nat) : Prop := Try.prog.underlying t = some (.slice e) ∧ (Try.prog.info? e).map (fun i => (i.zero, i.size, i.bytes)) = some (some z0, z, bytes) ∧ z0.cells.size = z
theorem wpList_appS {t e : TypeId} {z0 : Value} {z bytes : Nat} (hO : StE t e z0 z bytes) {w : World} {ops : Array Oper} {rest : List Oper} {o : Oper} {a : Act} {Q : Exit → Act → World → Prop} (hgd : Region.wanted o (yielded ops a.tmps) = true) (s x : Operand) (tx : TypeId)
    (ho : o.op = .call { callee := .builtin .append, args := #[s, x], argTypes := #[t, tx] })
    (base : Nat) (v : Value) (n : Nat) (xs : List Value) (hv : a.eval s = v) (hown : w.ownsRow base e z v n xs)
    (y : Value) (m : Nat) (news : List Value) (hy : a.eval x = y) (hs : Src Try.prog z tx y m news w) (hlen : (n + m) * bytes ≤ 140737488355328) (hm : n + m ≤ maxLen) (hbase : base ≤ w.heap.size)
    (h : ∀ v' w', w'.ownsRow base e z v' (n + m) (xs ++ news) → w.grownBy w' v.ownBlock → Below base w w' → wpList Try.prog ops Q rest (a.put o.dst v') w') : wpList Try.prog ops Q (o :: rest) a w := by
  obtain ⟨ht, hinf, hz⟩ := hO
  obtain ⟨i0, hi, hz0, hz1, hz2⟩ := info_parts hinf
  exact wpList_append_src hgd s x t tx ho base e i0 z0 z bytes ht hi hz0 hz1 hz2 hz v n xs hv hown y m news hy hs hm hlen hbase (fun v' w' h1 h2 _ => h v' w' h1 h2 (below_app (Below.refl _ _) hbase hown h2))
theorem Src.litS {P : Program} {w : World} {z m c : Nat} {C : Array Value} {e tx e' : TypeId} (hm : C.size = m * z) (hone : C.toList.all (·.oneCell') = true) (hk : P.underlying tx = some (.slice e')) :
    Src P z tx (.slice (some ⟨w.heap.size, 0, none⟩) m c) m C.toList (w.alloc (.cells C e)) := by
  refine Src.ofSlice _ hk ⟨w.heap.size, 0, none⟩ m c _ (by simpa using hm) (fun j u hu => ?_) (fun u hu => List.all_eq_true.1 hone u hu)
  rw [addr_add, Nat.zero_add, cell_of_row _ w.heap.size j _ _ _ (heap_alloc_last w _)]
  simpa using hu
/-- append(v, x1, .., xm) of structs: what is appended lies in a block of its own, made last. -/
theorem wpList_appS_lit {t e : TypeId} {z0 : Value} {z bytes : Nat} (hO : StE t e z0 z bytes) {w : World} {ops : Array Oper} {rest : List Oper} {o : Oper} {a : Act} {Q : Exit → Act → World → Prop} (hgd : Region.wanted o (yielded ops a.tmps) = true) (s x : Operand)
    (ho : o.op = .call { callee := .builtin .append, args := #[s, x], argTypes := #[t, t] })
    (base : Nat) (v : Value) (n : Nat) (xs : List Value) (hv : a.eval s = v) (hown : w.ownsRow base e z v n xs)
    (C : Array Value) (m c sz : Nat) (hy : a.eval x = .slice (some ⟨sz, 0, none⟩) m c) (hsz : w.heap.size = sz) (hC : C.size = m * z) (hone : C.toList.all (·.oneCell') = true) (hlen : (n + m) * bytes ≤ 140737488355328) (hm : n + m ≤ maxLen) (hbase : base ≤ w.heap.size)
    (h : ∀ v' w', w'.ownsRow base e z v' (n + m) (xs ++ C.toList) → (w.alloc (.cells C e)).grownBy w' v.ownBlock → Below base w w' → wpList Try.prog ops Q rest (a.put o.dst v') w') : wpList Try.prog ops Q (o :: rest) a (w.alloc (.cells C e)) := by
  subst hsz
  exact wpList_appS hO hgd s x t ho base v n xs hv (hown.alloc _) _ m _ hy (Src.litS hC hone hO.1) hlen hm (by simp; omega)
    (fun v' w' h1 h2 h3 => h v' w' h1 h2 (((Below.refl _ _).alloc hbase _).trans h3))
/-- wpList_app_lit, the place of what is appended named. -/
theorem wpList_app_lit2 {t e : TypeId} {z : Value} {bytes : Nat} (hO : OneE t e z bytes) {w : World} {ops : Array Oper} {rest : List Oper} {o : Oper} {a : Act} {Q : Exit → Act → World → Prop} (hgd : Region.wanted o (yielded ops a.tmps) = true) (s x : Operand)
    (ho : o.op = .call { callee := .builtin .append, args := #[s, x], argTypes := #[t, t] })
    (base : Nat) (v : Value) (n : Nat) (xs : List Value) (hv : a.eval s = v) (hown : w.ownsRow base e 1 v n xs)
    (C : Array Value) (m c sz : Nat) (hy : a.eval x = .slice (some ⟨sz, 0, none⟩) m c) (hsz : w.heap.size = sz) (hC : C.size = m) (hone : C.toList.all (·.oneCell') = true) (hlen : (n + m) * bytes ≤ 140737488355328) (hm : n + m ≤ maxLen) (hbase : base ≤ w.heap.size)
    (h : ∀ v' w', w'.ownsRow base e 1 v' (n + m) (xs ++ C.toList) → (w.alloc (.cells C e)).grownBy w' v.ownBlock → Below base w w' → wpList Try.prog ops Q rest (a.put o.dst v') w') : wpList Try.prog ops Q (o :: rest) a (w.alloc (.cells C e)) := by
  subst hsz
  exact wpList_app_lit hO hgd s x ho base v n xs hv hown C m c hy hC hone hlen hm hbase h
end Go.Proofs.Ytnfhiakdbakpgaa
/- utf: what the calls compute. No program in sight. -/
namespace Go.Proofs.Ytnfhiakdbakpgaa
/-- A unit's bytes. -/
def unitB (v : Nat) : List UInt8 :=
  if 1 ≤ v ∧ v < 128 then [UInt8.ofNat v]
  else if v < 2048 then [UInt8.ofNat (192 + v / 64), UInt8.ofNat (128 + v % 64)]
  else [UInt8.ofNat (224 + v / 4096), UInt8.ofNat (128 + v / 64 % 64), UInt8.ofNat (128 + v % 64)]
def encU (x : UInt16) : Value := .int .u16 (x.toNat : Int)
theorem encU_cell (x : UInt16) : (encU x).oneCell' = true := rfl
/-- A text's bytes. -/
def encodeB (us : List UInt16) : List UInt8 := us.flatMap fun u => unitB u.toNat
theorem unitB_length (v : Nat) : 1 ≤ (unitB v).length ∧ (unitB v).length ≤ 3 := by
  unfold unitB
  split
  · simp
  · split <;> simp
theorem unitB_one {v : Nat} (h : 1 ≤ v) (h' : v < 128) : (unitB v).map encB = [.int .u8 (v : Int)] := by
  unfold unitB; rw [if_pos ⟨h, h'⟩]; simp only [List.map_cons, List.map_nil]; rw [encB_of (by omega) (by omega)]; rfl
theorem unitB_two {v : Nat} (h : ¬ (1 ≤ v ∧ v < 128)) (h' : v < 2048) : (unitB v).map encB = [.int .u8 (192 + (v : Int) / 64), .int .u8 (128 + (v : Int) % 64)] := by
  unfold unitB; rw [if_neg h, if_pos h']; simp only [List.map_cons, List.map_nil]; rw [encB_of (by omega) (by omega), encB_of (by omega) (by omega)]; rfl
theorem unitB_three {v : Nat} (h' : ¬ v < 2048) (h : v < 65536) : (unitB v).map encB = [.int .u8 (224 + (v : Int) / 4096), .int .u8 (128 + (v : Int) / 64 % 64), .int .u8 (128 + (v : Int) % 64)] := by
  unfold unitB; rw [if_neg (by omega), if_neg h']; simp only [List.map_cons, List.map_nil]; rw [encB_of (by omega) (by omega), encB_of (by omega) (by omega), encB_of (by omega) (by omega)]; rfl
theorem encodeB_take (us : List UInt16) (k : Nat) (h : k < us.length) : encodeB (us.take (k + 1)) = encodeB (us.take k) ++ unitB us[k].toNat := by
  unfold encodeB
  rw [List.take_succ_eq_append_getElem h, List.flatMap_append]
  simp
theorem encodeB_length (us : List UInt16) : (encodeB us).length ≤ 3 * us.length := by
  induction us with
  | nil => simp [encodeB]
  | cons u us ih =>
    have := unitB_length u.toNat
    simp only [encodeB, List.flatMap_cons, List.length_append, List.length_cons] at *
    omega
/-- Six bits of a byte that goes on. -/
def tailN (bs : List UInt8) (i : Nat) : Nat × Bool :=
  match bs[i]? with
  | some c => if c.toNat / 64 = 2 then (c.toNat % 64, true) else (0, false)
  | none => (0, false)
theorem tailN_lt (bs : List UInt8) (i : Nat) : (tailN bs i).1 < 64 := by
  unfold tailN
  split
  · split
    · exact Nat.mod_lt _ (by decide)
    · decide
  · decide
/-- The unit with which bytes begin, and how many it has; 0: none. -/
def takeOf (c : Nat) (x : Nat) (one : Bool) (y : Nat) (both : Bool) : Nat × Nat :=
  if c ≠ 0 ∧ c < 128 then (c, 1)
  else if c / 32 = 6 ∧ one = true then (if c % 32 * 64 + x = 0 ∨ 128 ≤ c % 32 * 64 + x then (c % 32 * 64 + x, 2) else (0, 0))
  else if c / 16 = 14 ∧ one = true ∧ both = true then (if 2048 ≤ c % 16 * 4096 + x * 64 + y then (c % 16 * 4096 + x * 64 + y, 3) else (0, 0))
  else (0, 0)
def takeN (bs : List UInt8) : Nat × Nat := takeOf ((bs[0]?).getD 0).toNat (tailN bs 1).1 (tailN bs 1).2 (tailN bs 2).1 (tailN bs 2).2
theorem or16_join {x y : Nat} (i : Nat) (hx : x % 2 ^ i = 0) (hy : y < 2 ^ i) (h : x + y < 65536) : bits .or .u16 (x : Int) (y : Int) = (x : Int) + y := by
  rw [u16_or_nat x y (by omega) (by omega), nat_join i x y hx hy]
  push_cast; rfl
def decodeF : Nat → List UInt8 → Option (List UInt16)
  | _, [] => some []
  | 0, _ => none
  | f + 1, c :: t => if (takeN (c :: t)).2 = 0 then none else (decodeF f ((c :: t).drop (takeN (c :: t)).2)).map (UInt16.ofNat (takeN (c :: t)).1 :: ·)
/-- The text of bytes. -/
def decodeB (bs : List UInt8) : Option (List UInt16) := decodeF bs.length bs
theorem tailN_some {bs : List UInt8} {i : Nat} (h : (tailN bs i).2 = true) : i < bs.length := by
  unfold tailN at h
  split at h
  · rename_i c hc
    exact (List.getElem?_eq_some_iff.1 hc).1
  · simp at h
theorem takeN_le {bs : List UInt8} (h : bs ≠ []) : (takeN bs).2 ≤ bs.length ∧ (takeN bs).1 < 65536 := by
  have hl : 0 < bs.length := List.length_pos_iff.2 h
  have hx := tailN_lt bs 1
  have hy := tailN_lt bs 2
  have hc := (bs[0]?.getD 0).toNat_lt
  unfold takeN takeOf
  split
  · exact ⟨hl, by simp only; omega⟩
  split
  · rename_i h1
    have := tailN_some h1.2
    split
    · exact ⟨this, by simp only; omega⟩
    · exact ⟨by simp, by simp⟩
  split
  · rename_i h1
    have := tailN_some h1.2.2
    split
    · exact ⟨this, by simp only; omega⟩
    · exact ⟨by simp, by simp⟩
  · exact ⟨by simp, by simp⟩
theorem decodeF_step {f : Nat} {bs : List UInt8} (hf : bs.length ≤ f + 1) (h : bs ≠ []) : decodeF (f + 1) bs = if (takeN bs).2 = 0 then none else (decodeF f (bs.drop (takeN bs).2)).map (UInt16.ofNat (takeN bs).1 :: ·) := by
  cases bs with
  | nil => exact absurd rfl h
  | cons c t => rw [decodeF]

/-! The reference's Decode: what the beginning may be. -/
def refOf (c : Nat) (l : Nat) (x y : Nat) : Int × Nat :=
  if 192 ≤ c ∧ c < 224 ∧ 1 < l then (((c : Int) - 192) * 64 + x - 128, 2)
  else if 224 ≤ c ∧ c < 240 ∧ 2 < l then (((c : Int) - 224) * 4096 + ((x : Int) - 128) * 64 + y - 128, 3)
  else (c, 1)
def refN (bs : List UInt8) : Int × Nat := refOf (bs[0]?.getD 0).toNat bs.length (bs[1]?.getD 0).toNat (bs[2]?.getD 0).toNat
theorem u8_eq {n : Nat} {c : UInt8} (h : n < 256) : UInt8.ofNat n = c ↔ n = c.toNat := by
  constructor
  · intro e; rw [← e, UInt8.toNat_ofNat_of_lt' h]
  · intro e; rw [e]; simp
theorem unit_is1 {v : Nat} (hv : v < 65536) (c : UInt8) : unitB v = [c] ↔ 1 ≤ v ∧ v < 128 ∧ v = c.toNat := by
  unfold unitB
  split
  · rename_i h; rw [List.cons.injEq, u8_eq (by omega)]; simp; omega
  · rename_i h; split <;> simp <;> omega
theorem unit_is2 {v : Nat} (hv : v < 65536) (c x : UInt8) : unitB v = [c, x] ↔ ¬ (1 ≤ v ∧ v < 128) ∧ v < 2048 ∧ 192 + v / 64 = c.toNat ∧ 128 + v % 64 = x.toNat := by
  unfold unitB
  split
  · rename_i h; simp; omega
  · rename_i h
    split
    · rename_i h2; rw [List.cons.injEq, List.cons.injEq, u8_eq (by omega), u8_eq (by omega)]; simp; omega
    · rename_i h2; simp; omega
theorem unit_is3 {v : Nat} (hv : v < 65536) (c x y : UInt8) : unitB v = [c, x, y] ↔ 2048 ≤ v ∧ 224 + v / 4096 = c.toNat ∧ 128 + v / 64 % 64 = x.toNat ∧ 128 + v % 64 = y.toNat := by
  unfold unitB
  split
  · rename_i h; simp; omega
  · rename_i h
    split
    · rename_i h2; simp; omega
    · rename_i h2; rw [List.cons.injEq, List.cons.injEq, List.cons.injEq, u8_eq (by omega), u8_eq (by omega), u8_eq (by omega)]; simp; omega
theorem tailN_at (bs : List UInt8) (i : Nat) (c : UInt8) (h : bs[i]? = some c) : tailN bs i = if c.toNat / 64 = 2 then (c.toNat % 64, true) else (0, false) := by
  unfold tailN; rw [h]
theorem tailN_off (bs : List UInt8) (i : Nat) (h : bs[i]? = none) : tailN bs i = (0, false) := by
  unfold tailN; rw [h]
/-- Both ways of reading the beginning tell the same. -/
theorem ref_take (bs : List UInt8) (h : bs ≠ []) :
    (0 ≤ (refN bs).1 ∧ (refN bs).1 ≤ 65535 ∧ unitB (refN bs).1.toNat = bs.take (refN bs).2 → takeN bs = ((refN bs).1.toNat, (refN bs).2)) ∧
    (¬ (0 ≤ (refN bs).1 ∧ (refN bs).1 ≤ 65535 ∧ unitB (refN bs).1.toNat = bs.take (refN bs).2) → (takeN bs).2 = 0) := by
  rcases bs with _ | ⟨c, t⟩
  · exact absurd rfl h
  have hc := c.toNat_lt
  by_cases c2 : 192 ≤ c.toNat ∧ c.toNat < 224 ∧ 1 < (c :: t).length
  · rcases t with _ | ⟨x, t⟩
    · simp at c2
    have hx := x.toNat_lt
    have e1 : refN (c :: x :: t) = (((c.toNat : Int) - 192) * 64 + x.toNat - 128, 2) := by
      show refOf c.toNat (c :: x :: t).length x.toNat _ = _
      unfold refOf; rw [if_pos c2]
    have e2 : takeN (c :: x :: t) = if x.toNat / 64 = 2 then (if c.toNat % 32 * 64 + x.toNat % 64 = 0 ∨ 128 ≤ c.toNat % 32 * 64 + x.toNat % 64 then (c.toNat % 32 * 64 + x.toNat % 64, 2) else (0, 0)) else (0, 0) := by
      unfold takeN
      rw [tailN_at (c :: x :: t) 1 x rfl]
      show takeOf c.toNat _ _ _ _ = _
      by_cases h1 : x.toNat / 64 = 2
      · rw [if_pos h1, if_pos h1]
        unfold takeOf
        rw [if_neg (by omega), if_pos ⟨by omega, rfl⟩]
      · rw [if_neg h1, if_neg h1]
        unfold takeOf
        rw [if_neg (by omega), if_neg (by simp), if_neg (by simp)]
    rw [e1, e2]
    simp only [List.take_succ_cons, List.take_zero]
    refine ⟨fun ⟨p1, p2, p3⟩ => ?_, fun hP => ?_⟩
    · have q := (unit_is2 (by omega) c x).1 p3
      rw [if_pos (by omega), if_pos (by omega)]
      simp; omega
    · by_cases h1 : x.toNat / 64 = 2
      · rw [if_pos h1]
        by_cases h2 : c.toNat % 32 * 64 + x.toNat % 64 = 0 ∨ 128 ≤ c.toNat % 32 * 64 + x.toNat % 64
        · exact (hP ⟨by omega, by omega, (unit_is2 (by omega) c x).2 (by omega)⟩).elim
        · rw [if_neg h2]
      · rw [if_neg h1]
  by_cases c3 : 224 ≤ c.toNat ∧ c.toNat < 240 ∧ 2 < (c :: t).length
  · rcases t with _ | ⟨x, _ | ⟨y, t⟩⟩
    · simp at c3
    · simp at c3
    have hx := x.toNat_lt
    have hy := y.toNat_lt
    have e1 : refN (c :: x :: y :: t) = (((c.toNat : Int) - 224) * 4096 + ((x.toNat : Int) - 128) * 64 + y.toNat - 128, 3) := by
      show refOf c.toNat (c :: x :: y :: t).length x.toNat y.toNat = _
      unfold refOf; rw [if_neg c2, if_pos c3]
    have e2 : takeN (c :: x :: y :: t) = if x.toNat / 64 = 2 ∧ y.toNat / 64 = 2 then (if 2048 ≤ c.toNat % 16 * 4096 + x.toNat % 64 * 64 + y.toNat % 64 then (c.toNat % 16 * 4096 + x.toNat % 64 * 64 + y.toNat % 64, 3) else (0, 0)) else (0, 0) := by
      unfold takeN
      rw [tailN_at (c :: x :: y :: t) 1 x rfl, tailN_at (c :: x :: y :: t) 2 y rfl]
      show takeOf c.toNat _ _ _ _ = _
      by_cases h1 : x.toNat / 64 = 2
      · by_cases h2 : y.toNat / 64 = 2
        · rw [if_pos h1, if_pos h2, if_pos ⟨h1, h2⟩]
          unfold takeOf
          rw [if_neg (by omega), if_neg (by omega), if_pos ⟨by omega, rfl, rfl⟩]
        · rw [if_neg h2, if_neg (by omega : ¬ (x.toNat / 64 = 2 ∧ y.toNat / 64 = 2))]
          unfold takeOf
          rw [if_neg (by omega), if_neg (by omega), if_neg (by simp)]
      · rw [if_neg h1, if_neg (by omega : ¬ (x.toNat / 64 = 2 ∧ y.toNat / 64 = 2))]
        unfold takeOf
        rw [if_neg (by omega), if_neg (by omega), if_neg (by simp)]
    rw [e1, e2]
    simp only [List.take_succ_cons, List.take_zero]
    refine ⟨fun ⟨p1, p2, p3⟩ => ?_, fun hP => ?_⟩
    · have q := (unit_is3 (by omega) c x y).1 p3
      rw [if_pos (by omega), if_pos (by omega)]
      simp; omega
    · by_cases h1 : x.toNat / 64 = 2 ∧ y.toNat / 64 = 2
      · rw [if_pos h1]
        by_cases h2 : 2048 ≤ c.toNat % 16 * 4096 + x.toNat % 64 * 64 + y.toNat % 64
        · exact (hP ⟨by omega, by omega, (unit_is3 (by omega) c x y).2 (by omega)⟩).elim
        · rw [if_neg h2]
      · rw [if_neg h1]
  · have e1 : refN (c :: t) = ((c.toNat : Int), 1) := by
      show refOf c.toNat (c :: t).length _ _ = _
      unfold refOf
      rw [if_neg c2, if_neg c3]
    rw [e1]
    simp only [List.take_succ_cons, List.take_zero]
    have e2 : takeN (c :: t) = if c.toNat ≠ 0 ∧ c.toNat < 128 then (c.toNat, 1) else (0, 0) := by
      unfold takeN
      show takeOf c.toNat _ _ _ _ = _
      by_cases h1 : c.toNat ≠ 0 ∧ c.toNat < 128
      · unfold takeOf
        rw [if_pos h1, if_pos h1]
      · rw [if_neg h1]
        unfold takeOf
        rw [if_neg h1, if_neg, if_neg]
        · rintro ⟨h2, h3, h4⟩
          have := tailN_some h4
          exact c3 ⟨by omega, by omega, this⟩
        · rintro ⟨h2, h3⟩
          have := tailN_some h3
          exact c2 ⟨by omega, by omega, this⟩
    rw [e2]
    refine ⟨fun ⟨p1, p2, p3⟩ => ?_, fun hP => ?_⟩
    · have q := (unit_is1 (by omega) c).1 p3
      rw [if_pos (by omega)]
      simp
    · by_cases h1 : c.toNat ≠ 0 ∧ c.toNat < 128
      · exact (hP ⟨by omega, by omega, (unit_is1 (by omega) c).2 (by omega)⟩).elim
      · rw [if_neg h1]
theorem unitB_vals (v : Nat) (h : v < 65536) : (1 ≤ v ∧ v < 128 ∧ (unitB v).map UInt8.toNat = [v]) ∨ (¬ (1 ≤ v ∧ v < 128) ∧ v < 2048 ∧ (unitB v).map UInt8.toNat = [192 + v / 64, 128 + v % 64]) ∨
    (2048 ≤ v ∧ (unitB v).map UInt8.toNat = [224 + v / 4096, 128 + v / 64 % 64, 128 + v % 64]) := by
  have e : ∀ n, n < 256 → (UInt8.ofNat n).toNat = n := fun n hn => UInt8.toNat_ofNat_of_lt' hn
  unfold unitB
  split
  · rename_i h1; exact .inl ⟨h1.1, h1.2, by simp only [List.map_cons, List.map_nil]; rw [e _ (by omega)]⟩
  · rename_i h1
    split
    · rename_i h2; exact .inr (.inl ⟨h1, h2, by simp only [List.map_cons, List.map_nil]; rw [e _ (by omega), e _ (by omega)]⟩)
    · rename_i h2; exact .inr (.inr ⟨by omega, by simp only [List.map_cons, List.map_nil]; rw [e _ (by omega), e _ (by omega), e _ (by omega)]⟩)
/-- No unit's bytes are a beginning of another one's. -/
theorem unitB_apart {a b : Nat} (ha : a < 65536) (hb : b < 65536) (hne : a ≠ b) (hl : (unitB a).length ≤ (unitB b).length) : (unitB b).take (unitB a).length ≠ unitB a := by
  intro he
  have h1 : ((unitB b).map UInt8.toNat).take ((unitB a).map UInt8.toNat).length = (unitB a).map UInt8.toNat := by
    rw [List.length_map, ← List.map_take, he]
  have h2 : ((unitB a).map UInt8.toNat).length ≤ ((unitB b).map UInt8.toNat).length := by simpa using hl
  rcases unitB_vals a ha with ⟨a1, a2, a3⟩ | ⟨a1, a2, a3⟩ | ⟨a1, a3⟩ <;> rcases unitB_vals b hb with ⟨b1, b2, b3⟩ | ⟨b1, b2, b3⟩ | ⟨b1, b3⟩ <;> rw [a3, b3] at h1 h2 <;> simp at h1 h2 <;> omega
theorem unitB_inj {a b : Nat} (ha : a < 65536) (hb : b < 65536) (h : unitB a = unitB b) : a = b := by
  by_cases hne : a = b
  · exact hne
  · exact (unitB_apart ha hb hne (by rw [h]; exact Nat.le_refl _) (by rw [h, List.take_length])).elim
/-- What is encoded is decoded. -/
theorem takeN_unit (v : Nat) (h : v < 65536) (t : List UInt8) : takeN (unitB v ++ t) = (v, (unitB v).length) := by
  have hne : unitB v ++ t ≠ [] := by
    have h1 := (unitB_length v).1
    intro h0
    rw [(List.append_eq_nil_iff.1 h0).1] at h1
    simp at h1
  have hr := ref_take (unitB v ++ t) hne
  have key : refN (unitB v ++ t) = ((v : Int), (unitB v).length) := by
    have hv := unitB_vals v h
    unfold refN
    rcases hu : unitB v with _ | ⟨c, _ | ⟨x, _ | ⟨y, z⟩⟩⟩
    · have := (unitB_length v).1; rw [hu] at this; simp at this
    · rw [hu] at hv; simp at hv
      simp only [List.cons_append, List.nil_append, List.getElem?_cons_zero, Option.getD_some, List.length_cons]
      unfold refOf; rw [if_neg (by omega), if_neg (by omega)]; simp; omega
    · rw [hu] at hv; simp at hv
      simp only [List.cons_append, List.nil_append, List.getElem?_cons_zero, List.getElem?_cons_succ, Option.getD_some, List.length_cons]
      unfold refOf; rw [if_pos ⟨by omega, by omega, by omega⟩]; simp; omega
    · rw [hu] at hv; simp at hv
      obtain ⟨h1, h2, h3, h4, h5⟩ := hv
      subst h5
      simp only [List.cons_append, List.nil_append, List.getElem?_cons_zero, List.getElem?_cons_succ, Option.getD_some, List.length_cons]
      unfold refOf; rw [if_neg (by omega), if_pos ⟨by omega, by omega, by omega⟩]; simp; omega
  rw [key] at hr
  exact hr.1 ⟨by simp only; omega, by simp only; omega, by simp⟩
theorem decode_encodeF (us : List UInt16) (f : Nat) (hf : (encodeB us).length ≤ f) : decodeF f (encodeB us) = some us := by
  induction us generalizing f with
  | nil => cases f <;> rfl
  | cons u us ih =>
    have hu := u.toNat_lt
    have hl := unitB_length u.toNat
    have he : encodeB (u :: us) = unitB u.toNat ++ encodeB us := by simp [encodeB]
    rw [he] at hf ⊢
    rw [List.length_append] at hf
    obtain ⟨f, rfl⟩ : ∃ f', f = f' + 1 := ⟨f - 1, by omega⟩
    have hne : unitB u.toNat ++ encodeB us ≠ [] := by
      intro h0
      rw [(List.append_eq_nil_iff.1 h0).1] at hl
      simp at hl
    rw [decodeF_step (by rw [List.length_append]; omega) hne, takeN_unit u.toNat hu, if_neg (by omega), List.drop_left, ih f (by omega)]
    simp
theorem decode_encode (us : List UInt16) : decodeB (encodeB us) = some us := decode_encodeF us _ (Nat.le_refl _)
end Go.Proofs.Ytnfhiakdbakpgaa
/- num: what Put and Get compute. No program in sight. -/
namespace Go.Proofs.Ytnfhiakdbakpgaa
/-- A number's bytes. -/
def putB (v n : Nat) : List UInt8 := (List.range n).map fun i => UInt8.ofNat (v / 256 ^ (n - 1 - i) % 256)
theorem putB_length (v n : Nat) : (putB v n).length = n := by simp [putB]
theorem putB_take (v n k : Nat) (h : k < n) : (putB v n).take (k + 1) = (putB v n).take k ++ [UInt8.ofNat (v / 256 ^ (n - 1 - k) % 256)] := by
  rw [List.take_succ_eq_append_getElem (by rw [putB_length]; exact h)]
  simp [putB]
theorem encB_byte (x : Nat) : encB (UInt8.ofNat (x % 256)) = .int .u8 ((x : Int) % 256) := by
  unfold encB
  rw [UInt8.toNat_ofNat_of_lt' (by show x % 256 < 256; omega)]
  rw [Int.natCast_emod]; rfl
/-- The number of bytes. -/
def getN (bs : List UInt8) : Nat := bs.foldl (fun v c => v * 256 + c.toNat) 0
theorem getN_take (bs : List UInt8) (k : Nat) (h : k < bs.length) : getN (bs.take (k + 1)) = getN (bs.take k) * 256 + bs[k].toNat := fold_take _ _ bs k h
theorem getN_snoc (bs : List UInt8) (c : UInt8) : getN (bs ++ [c]) = getN bs * 256 + c.toNat := by simp [getN]
theorem getN_lt (bs : List UInt8) : getN bs < 256 ^ bs.length := by
  generalize hn : bs.length = n
  induction n generalizing bs with
  | zero => have : bs = [] := List.length_eq_zero_iff.1 hn; subst this; simp [getN]
  | succ n ih =>
    have h1 : bs ≠ [] := by intro h; rw [h] at hn; simp at hn
    obtain ⟨as', c, rfl⟩ : ∃ as' c, bs = as' ++ [c] := ⟨bs.dropLast, bs.getLast h1, (List.dropLast_concat_getLast h1).symm⟩
    have h2 := ih as' (by simpa using hn)
    rw [getN_snoc, Nat.pow_succ]
    have := c.toNat_lt
    omega
theorem getN_take_lt (bs : List UInt8) (k : Nat) (h : k ≤ 7) : getN (bs.take k) < 72057594037927936 := by
  have h1 := getN_lt (bs.take k)
  have h2 : 256 ^ (bs.take k).length ≤ 256 ^ 7 := Nat.pow_le_pow_right (by decide) (by simp; omega)
  omega
theorem or64_join {x y : Nat} (hx : x % 256 = 0) (hy : y < 256) (h : x + y < 18446744073709551616) : bits .or .u64 (x : Int) (y : Int) = (x : Int) + y := by
  rw [u64_or_nat x y (by omega) (by omega), nat_join 8 x y hx hy]
  push_cast; rfl
/-- What Get tells. -/
def getR (bs : List UInt8) (at_ n : Int) : Int × Int :=
  if n < 1 ∨ 8 < n then (0, 1)
  else if at_ < 0 ∨ (bs.length : Int) < at_ ∨ (bs.length : Int) - at_ < n then (0, 6)
  else (getN ((bs.drop at_.toNat).take n.toNat), 0)
theorem shr_byte (v e : Nat) : ((v : Int) / 2 ^ (8 * e)) = ((v / 256 ^ e : Nat) : Int) := by
  rw [Int.natCast_ediv, Int.natCast_pow, Int.pow_mul]; rfl
theorem tmod_byte (x : Nat) : ((x : Nat) : Int).tmod 256 % 256 = (x : Int) % 256 := by
  rw [Int.tmod_eq_emod_of_nonneg (by omega), Int.emod_emod]
theorem putB_take1 (v n : Nat) (h : 0 < n) : (putB v n).take (0 + 1) = [UInt8.ofNat (v / 256 ^ (n - 1) % 256)] := by
  rw [putB_take v n 0 h]; rfl
end Go.Proofs.Ytnfhiakdbakpgaa
/- num: Put and Get are each other's back. No program in sight. -/
namespace Go.Proofs.Ytnfhiakdbakpgaa
theorem putB_succ (v n : Nat) : putB v (n + 1) = putB (v / 256) n ++ [UInt8.ofNat (v % 256)] := by
  unfold putB
  rw [List.range_succ, List.map_append]
  congr 1
  · apply List.map_congr_left
    intro i hi
    have hi := List.mem_range.1 hi
    rw [show n + 1 - 1 - i = (n - 1 - i) + 1 by omega, Nat.pow_succ, Nat.mul_comm, ← Nat.div_div_eq_div_mul]
  · simp
theorem put_get (cs : List UInt8) : putB (getN cs) cs.length = cs := by
  generalize hn : cs.length = n
  induction n generalizing cs with
  | zero => rw [List.length_eq_zero_iff.1 hn]; rfl
  | succ n ih =>
    have h1 : cs ≠ [] := by intro h; rw [h] at hn; simp at hn
    obtain ⟨ds, c, rfl⟩ : ∃ ds c, cs = ds ++ [c] := ⟨cs.dropLast, cs.getLast h1, (List.dropLast_concat_getLast h1).symm⟩
    have hl : ds.length = n := by simpa using hn
    have hc := c.toNat_lt
    rw [putB_succ, getN_snoc, show (getN ds * 256 + c.toNat) / 256 = getN ds by omega, show (getN ds * 256 + c.toNat) % 256 = c.toNat by omega, ih ds hl]
    simp
theorem get_put (v n : Nat) : getN (putB v n) = v % 256 ^ n := by
  induction n generalizing v with
  | zero => simp [putB, getN, Nat.mod_one]
  | succ n ih =>
    rw [putB_succ, getN_snoc, ih, UInt8.toNat_ofNat_of_lt' (by show v % 256 < 256; omega), Nat.pow_succ, Nat.mul_comm (256 ^ n) 256, Nat.mod_mul]
    omega
end Go.Proofs.Ytnfhiakdbakpgaa
/- pool: constants, plain. No program in sight. -/
namespace Go.Proofs.Ytnfhiakdbakpgaa
open Go.ChangeShapes Go.WideShapes Go.ChangeAt Go.RowKit
/-- A constant. -/
structure KV where
  tag : Int
  a : Int
  b : Int
  n : Int
  s : List UInt8
def KV.cells (c : KV) : List Value := [.int .i64 c.tag, .int .i64 c.a, .int .i64 c.b, .int .i64 c.n, .string ⟨c.s.toArray⟩]
theorem KV.cells_length (c : KV) : c.cells.length = 5 := rfl
theorem KV.cells_one (c : KV) : ∀ u ∈ c.cells, u.oneCell' = true := by
  intro u hu
  simp [KV.cells] at hu
  rcases hu with rfl | rfl | rfl | rfl | rfl <;> rfl
def kz : KV := ⟨0, 0, 0, 0, []⟩
/-- What stands at a place. -/
def kAt (l : List KV) (i : Int) : KV := l.getD i.toNat kz
/-- Has a place a tag? -/
def isT (l : List KV) (i t : Int) : Bool := decide (1 ≤ i ∧ i < l.length ∧ (kAt l i).tag = t)
/-- A text at a place. -/
def textAt (l : List KV) (i : Int) : List UInt8 := if isT l i 1 then (kAt l i).s else []
def classAt (l : List KV) (i : Int) : List UInt8 × Bool := if isT l i 7 then (textAt l (kAt l i).a, isT l (kAt l i).a 1) else ([], false)
def memberAt (l : List KV) (i t : Int) : List UInt8 × List UInt8 × List UInt8 × Bool :=
  if (t = 9 ∨ t = 10) ∧ isT l i t = true ∧ isT l (kAt l i).b 12 = true ∧ (classAt l (kAt l i).a).2 = true ∧ isT l (kAt l (kAt l i).b).a 1 = true ∧ isT l (kAt l (kAt l i).b).b 1 = true then
    ((classAt l (kAt l i).a).1, textAt l (kAt l (kAt l i).b).a, textAt l (kAt l (kAt l i).b).b, true)
  else ([], [], [], false)
/-- Has a place nothing that it may not have? -/
def bareOk (c : KV) : Bool :=
  (decide (c.tag = 1) || c.s.isEmpty) && (decide (c.tag = 5) || decide (c.n = 0) || decide (c.tag = 3 ∧ -2147483648 ≤ c.n ∧ c.n ≤ 2147483647)) &&
  (decide (c.tag = 9 ∨ c.tag = 10 ∨ c.tag = 12) || decide (c.b = 0)) && (decide (c.tag = 9 ∨ c.tag = 10 ∨ c.tag = 12 ∨ c.tag = 7 ∨ c.tag = 8) || decide (c.a = 0))
/-- Does a place lead where it has to? -/
def leadOk (l : List KV) (i : Nat) : Bool :=
  let c := kAt l i
  if c.tag = 0 then i == 0 || decide ((kAt l ((i : Int) - 1)).tag = 5)
  else if c.tag = 1 then (decodeB c.s).isSome && decide (c.s.length ≤ 65535)
  else if c.tag = 3 then true
  else if c.tag = 5 then decide (i + 1 < l.length) && decide ((kAt l ((i : Int) + 1)).tag = 0)
  else if c.tag = 12 then isT l c.a 1 && isT l c.b 1
  else if c.tag = 7 ∨ c.tag = 8 then isT l c.a 1
  else if c.tag = 9 ∨ c.tag = 10 then isT l c.a 7 && isT l c.b 12
  else false
/-- May a place be as it is? -/
def placeOk (l : List KV) (i : Nat) : Bool := bareOk (kAt l i) && leadOk l i
/-- May a pool be? -/
def poolOk (l : List KV) : Bool := decide (1 ≤ l.length) && decide (l.length ≤ 1024) && decide ((kAt l 0).tag = 0) && (List.range l.length).all (placeOk l)
end Go.Proofs.Ytnfhiakdbakpgaa
/- Bit operations of the walk as BitVec. No program in sight. -/
namespace Go.Proofs.Ytnfhiakdbakpgaa
open Go.RowKit
def E {n : Nat} (v : BitVec n) : Int := (v.toNat : Int)
theorem E_inj {n : Nat} {a b : BitVec n} : E a = E b ↔ a = b := by
  unfold E
  exact ⟨fun h => BitVec.eq_of_toNat_eq (by exact_mod_cast h), fun h => by rw [h]⟩
theorem of_E {n : Nat} (v : BitVec n) : BitVec.ofInt n (E v) = v := by
  unfold E; simp
theorem E_nonneg {n : Nat} (v : BitVec n) : 0 ≤ E v := by unfold E; omega
theorem E_lt {n : Nat} (v : BitVec n) : E v < 2 ^ n := by have := v.isLt; unfold E; exact_mod_cast this
theorem xor_left {n : Nat} (a b c : BitVec n) : a ^^^ (b ^^^ c) = b ^^^ (a ^^^ c) := by
  rw [← BitVec.xor_assoc, BitVec.xor_comm a b, BitVec.xor_assoc]
theorem xor_xor {n : Nat} (a b : BitVec n) : a ^^^ (a ^^^ b) = b := by
  rw [← BitVec.xor_assoc]; simp
/-- A number that fits. -/
theorem E_of {n : Nat} {x : Int} (h0 : 0 ≤ x) (h : x < 2 ^ n) : x = E (BitVec.ofInt n x) := by
  unfold E
  obtain ⟨a, rfl⟩ := Int.eq_ofNat_of_zero_le h0
  have ha : a < 2 ^ n := by exact_mod_cast h
  simp [Nat.mod_eq_of_lt ha]
theorem bits8_and (x y : Int) : bits .and .u8 x y = E (BitVec.ofInt 8 x &&& BitVec.ofInt 8 y) := by
  show IntKind.u8.wrap ((BitVec.ofInt 8 x &&& BitVec.ofInt 8 y).toNat) = _
  rw [IntKind.wrap_u8']; have := (BitVec.ofInt 8 x &&& BitVec.ofInt 8 y).isLt; unfold E; omega
theorem bits8_or (x y : Int) : bits .or .u8 x y = E (BitVec.ofInt 8 x ||| BitVec.ofInt 8 y) := by
  show IntKind.u8.wrap ((BitVec.ofInt 8 x ||| BitVec.ofInt 8 y).toNat) = _
  rw [IntKind.wrap_u8']; have := (BitVec.ofInt 8 x ||| BitVec.ofInt 8 y).isLt; unfold E; omega
theorem bits8_xor (x y : Int) : bits .xor .u8 x y = E (BitVec.ofInt 8 x ^^^ BitVec.ofInt 8 y) := by
  show IntKind.u8.wrap ((BitVec.ofInt 8 x ^^^ BitVec.ofInt 8 y).toNat) = _
  rw [IntKind.wrap_u8']; have := (BitVec.ofInt 8 x ^^^ BitVec.ofInt 8 y).isLt; unfold E; omega
theorem bits8_andNot (x y : Int) : bits .andNot .u8 x y = E (BitVec.ofInt 8 x &&& ~~~BitVec.ofInt 8 y) := by
  show IntKind.u8.wrap ((BitVec.ofInt 8 x &&& ~~~BitVec.ofInt 8 y).toNat) = _
  rw [IntKind.wrap_u8']; have := (BitVec.ofInt 8 x &&& ~~~BitVec.ofInt 8 y).isLt; unfold E; omega
theorem bits_u8 (op : BinOp) (x y : Int) : 0 ≤ bits op .u8 x y ∧ bits op .u8 x y < 256 := by
  unfold bits; simp only [IntKind.wrap_u8']; omega
theorem bits16_and (x y : Int) : bits .and .u16 x y = E (BitVec.ofInt 16 x &&& BitVec.ofInt 16 y) := by
  show IntKind.u16.wrap ((BitVec.ofInt 16 x &&& BitVec.ofInt 16 y).toNat) = _
  rw [IntKind.wrap_u16]; have := (BitVec.ofInt 16 x &&& BitVec.ofInt 16 y).isLt; unfold E; omega
theorem bits16_or (x y : Int) : bits .or .u16 x y = E (BitVec.ofInt 16 x ||| BitVec.ofInt 16 y) := by
  show IntKind.u16.wrap ((BitVec.ofInt 16 x ||| BitVec.ofInt 16 y).toNat) = _
  rw [IntKind.wrap_u16]; have := (BitVec.ofInt 16 x ||| BitVec.ofInt 16 y).isLt; unfold E; omega
theorem bits16_xor (x y : Int) : bits .xor .u16 x y = E (BitVec.ofInt 16 x ^^^ BitVec.ofInt 16 y) := by
  show IntKind.u16.wrap ((BitVec.ofInt 16 x ^^^ BitVec.ofInt 16 y).toNat) = _
  rw [IntKind.wrap_u16]; have := (BitVec.ofInt 16 x ^^^ BitVec.ofInt 16 y).isLt; unfold E; omega
theorem bits16_andNot (x y : Int) : bits .andNot .u16 x y = E (BitVec.ofInt 16 x &&& ~~~BitVec.ofInt 16 y) := by
  show IntKind.u16.wrap ((BitVec.ofInt 16 x &&& ~~~BitVec.ofInt 16 y).toNat) = _
  rw [IntKind.wrap_u16]; have := (BitVec.ofInt 16 x &&& ~~~BitVec.ofInt 16 y).isLt; unfold E; omega
theorem bits_u16 (op : BinOp) (x y : Int) : 0 ≤ bits op .u16 x y ∧ bits op .u16 x y < 65536 := by
  unfold bits; simp only [IntKind.wrap_u16]; omega
theorem bits32_and (x y : Int) : bits .and .u32 x y = E (BitVec.ofInt 32 x &&& BitVec.ofInt 32 y) := by
  show IntKind.u32.wrap ((BitVec.ofInt 32 x &&& BitVec.ofInt 32 y).toNat) = _
  rw [IntKind.wrap_u32']; have := (BitVec.ofInt 32 x &&& BitVec.ofInt 32 y).isLt; unfold E; omega
theorem bits32_or (x y : Int) : bits .or .u32 x y = E (BitVec.ofInt 32 x ||| BitVec.ofInt 32 y) := by
  show IntKind.u32.wrap ((BitVec.ofInt 32 x ||| BitVec.ofInt 32 y).toNat) = _
  rw [IntKind.wrap_u32']; have := (BitVec.ofInt 32 x ||| BitVec.ofInt 32 y).isLt; unfold E; omega
theorem bits32_xor (x y : Int) : bits .xor .u32 x y = E (BitVec.ofInt 32 x ^^^ BitVec.ofInt 32 y) := by
  show IntKind.u32.wrap ((BitVec.ofInt 32 x ^^^ BitVec.ofInt 32 y).toNat) = _
  rw [IntKind.wrap_u32']; have := (BitVec.ofInt 32 x ^^^ BitVec.ofInt 32 y).isLt; unfold E; omega
theorem bits32_andNot (x y : Int) : bits .andNot .u32 x y = E (BitVec.ofInt 32 x &&& ~~~BitVec.ofInt 32 y) := by
  show IntKind.u32.wrap ((BitVec.ofInt 32 x &&& ~~~BitVec.ofInt 32 y).toNat) = _
  rw [IntKind.wrap_u32']; have := (BitVec.ofInt 32 x &&& ~~~BitVec.ofInt 32 y).isLt; unfold E; omega
theorem bits_u32 (op : BinOp) (x y : Int) : 0 ≤ bits op .u32 x y ∧ bits op .u32 x y < 4294967296 := by
  unfold bits; simp only [IntKind.wrap_u32']; omega
theorem bits64_and (x y : Int) : bits .and .u64 x y = E (BitVec.ofInt 64 x &&& BitVec.ofInt 64 y) := by
  show IntKind.u64.wrap ((BitVec.ofInt 64 x &&& BitVec.ofInt 64 y).toNat) = _
  rw [IntKind.wrap_u64]; have := (BitVec.ofInt 64 x &&& BitVec.ofInt 64 y).isLt; unfold E; omega
theorem bits64_or (x y : Int) : bits .or .u64 x y = E (BitVec.ofInt 64 x ||| BitVec.ofInt 64 y) := by
  show IntKind.u64.wrap ((BitVec.ofInt 64 x ||| BitVec.ofInt 64 y).toNat) = _
  rw [IntKind.wrap_u64]; have := (BitVec.ofInt 64 x ||| BitVec.ofInt 64 y).isLt; unfold E; omega
theorem bits64_xor (x y : Int) : bits .xor .u64 x y = E (BitVec.ofInt 64 x ^^^ BitVec.ofInt 64 y) := by
  show IntKind.u64.wrap ((BitVec.ofInt 64 x ^^^ BitVec.ofInt 64 y).toNat) = _
  rw [IntKind.wrap_u64]; have := (BitVec.ofInt 64 x ^^^ BitVec.ofInt 64 y).isLt; unfold E; omega
theorem bits64_andNot (x y : Int) : bits .andNot .u64 x y = E (BitVec.ofInt 64 x &&& ~~~BitVec.ofInt 64 y) := by
  show IntKind.u64.wrap ((BitVec.ofInt 64 x &&& ~~~BitVec.ofInt 64 y).toNat) = _
  rw [IntKind.wrap_u64]; have := (BitVec.ofInt 64 x &&& ~~~BitVec.ofInt 64 y).isLt; unfold E; omega
theorem bits_u64 (op : BinOp) (x y : Int) : 0 ≤ bits op .u64 x y ∧ bits op .u64 x y < 18446744073709551616 := by
  unfold bits; simp only [IntKind.wrap_u64]; omega
theorem and16_63 {x : Int} (h0 : 0 ≤ x) (h1 : x < 65536) : bits .and .u16 x 63 = x % 64 := by
  rw [u16_and x 63 h0 h1 (by decide) (by decide)]
  show ((x.toNat &&& 63 : Nat) : Int) = _
  rw [nat_mask6]; omega
end Go.Proofs.Ytnfhiakdbakpgaa
