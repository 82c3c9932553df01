/- Slices of structs whose fields take one cell each. No condition. -/
import Derived.Test.YtlpjcfiibbcdjaaGreatDoorLib3
namespace Go.Proofs.YtlpjcfiibbcdjaaGreatDoor
open Go.ChangeShapes Go.WideShapes Go.ChangeAt Go.RowKit
/-- The slice at a, of n structs of z cells each, reads as xs. -/
def Ss {α : Type} (z : Nat) (enc : α → List Value) (w : World) (a : Option Addr) (n : Nat) (xs : List α) : Prop :=
  xs.length = n ∧ (0 < n → ∃ b off, a = some ⟨b, off, none⟩ ∧ b < w.heap.size ∧ ∀ i (_ : i < xs.length) j, j < z → w.cell? ⟨b, off + i * z + j, none⟩ = (enc xs[i])[j]?)
theorem addr_add (b o k : Nat) : (⟨b, o, none⟩ : Addr).add k = ⟨b, o + k, none⟩ := by unfold Addr.add; split <;> simp_all
theorem cellS_below {w w' : World} (h : Below w.heap.size w w') {a : Addr} {v : Value} (hc : w.cell? a = some v) : w'.cell? a = some v := by
  have hlt : a.block < w.heap.size := by
    unfold World.cell? at hc
    cases hb : w.heap[a.block]? with
    | none => rw [hb] at hc; simp at hc
    | some o => exact (Array.getElem?_eq_some_iff.1 hb).1
  rw [h.cell hlt]
  exact hc
section
variable {α : Type} {z : Nat} {enc : α → List Value}
theorem Ss.below {w w' : World} {a : Option Addr} {n : Nat} {xs : List α} (h : Ss z enc w a n xs) (hb : Below w.heap.size w w') : Ss z enc w' a n xs := by
  refine ⟨h.1, fun hn => ?_⟩
  obtain ⟨b, off, ha, hlt, hc⟩ := h.2 hn
  exact ⟨b, off, ha, Nat.lt_of_lt_of_le hlt hb.size, fun i hi j hj => by rw [hb.cell (by simpa using hlt)]; exact hc i hi j hj⟩
theorem Ss.nil (w : World) (a : Option Addr) : Ss z enc w a 0 [] := ⟨rfl, fun h => by omega⟩
theorem flat_len (hz : ∀ x, (enc x).length = z) (xs : List α) : (xs.flatMap enc).length = xs.length * z := by
  induction xs with
  | nil => simp
  | cons x xs ih => rw [List.flatMap_cons, List.length_append, hz, ih, List.length_cons, Nat.add_mul, Nat.one_mul, Nat.add_comm]
theorem flat_at (hz : ∀ x, (enc x).length = z) (xs : List α) (i : Nat) (hi : i < xs.length) (j : Nat) (hj : j < z) : (xs.flatMap enc)[i * z + j]? = (enc xs[i])[j]? := by
  induction xs generalizing i with
  | nil => simp at hi
  | cons x xs ih =>
    rw [List.flatMap_cons]
    cases i with
    | zero => rw [Nat.zero_mul, Nat.zero_add, List.getElem?_append_left (by rw [hz]; exact hj)]; simp
    | succ i =>
      rw [List.getElem?_append_right (by rw [hz, Nat.add_mul]; omega), hz, show (i + 1) * z + j - z = i * z + j by rw [Nat.add_mul]; omega, ih i (by simpa using hi)]
      simp
theorem Ss.ofOwn (hz : ∀ x, (enc x).length = z) (z0 : 0 < z) {w : World} {base : Nat} {e : TypeId} {v : Value} {n : Nat} {xs : List α} (h : w.ownsRow base e z v n (xs.flatMap enc)) : ∃ a cap, v = .slice a n cap ∧ Ss z enc w a n xs ∧ n ≤ cap := by
  have hl : xs.length = n := by
    have h1 := h.1
    rw [flat_len hz] at h1
    exact Nat.eq_of_mul_eq_mul_right z0 h1
  rcases h.2 with ⟨rfl, rfl⟩ | ⟨g, cap, cur, rfl, hb, hg, hnc, _, _, ht⟩
  · exact ⟨none, 0, rfl, ⟨hl, fun h => by omega⟩, Nat.le_refl _⟩
  · refine ⟨_, cap, rfl, ⟨hl, fun _ => ⟨g, 0, rfl, (Array.getElem?_eq_some_iff.1 hg).1, fun i hi j hj => ?_⟩⟩, hnc⟩
    have hlt : i * z + j < n * z := by
      have : (i + 1) * z ≤ n * z := Nat.mul_le_mul_right _ (by omega)
      rw [Nat.add_mul] at this
      omega
    rw [Nat.zero_add, h.cellAt (i * z + j) hlt, flat_at hz xs i hi j hj]
theorem Ss.take {w : World} {a : Option Addr} {n j : Nat} {xs : List α} (h : Ss z enc w a n xs) (hj : j ≤ n) : Ss z enc w a j (xs.take j) := by
  refine ⟨by simp [h.1]; omega, fun hn => ?_⟩
  obtain ⟨b, off, ha, hlt, hc⟩ := h.2 (by omega)
  refine ⟨b, off, ha, hlt, fun i hi k hk => ?_⟩
  rw [hc i (by simp at hi; omega) k hk]
  simp
theorem Ss.src {P : Program} (hz : ∀ x, (enc x).length = z) (z0 : 0 < z) (h1 : ∀ x : α, ∀ u ∈ enc x, u.oneCell' = true) {w : World} {a : Option Addr} {n : Nat} {xs : List α} (h : Ss z enc w a n xs) {tx e' : TypeId} (hk : P.underlying tx = some (.slice e')) (cap : Nat) : Src P z tx (.slice a n cap) n (xs.flatMap enc) w := by
  obtain ⟨hl, hc⟩ := h
  have hone : ∀ u ∈ xs.flatMap enc, u.oneCell' = true := by
    intro u hu
    obtain ⟨x, _, hx⟩ := List.mem_flatMap.1 hu
    exact h1 x u hx
  by_cases hn : 0 < n
  · obtain ⟨b, off, rfl, _, hcell⟩ := hc hn
    refine Src.ofSlice w hk ⟨b, off, none⟩ n cap _ (by rw [flat_len hz, hl]) (fun j u hu => ?_) hone
    have hj : j < xs.length * z := by
      rw [← flat_len hz]
      rcases Nat.lt_or_ge j (xs.flatMap enc).length with h | h
      · exact h
      · rw [List.getElem?_eq_none h] at hu; cases hu
    have hjd : j / z < xs.length := Nat.div_lt_of_lt_mul (by rw [Nat.mul_comm]; exact hj)
    have hjm : j % z < z := Nat.mod_lt _ z0
    have hje : j / z * z + j % z = j := by rw [Nat.mul_comm]; exact Nat.div_add_mod j z
    have hf := flat_at hz xs (j / z) hjd (j % z) hjm
    rw [hje, hu] at hf
    rw [addr_add, ← hje, ← Nat.add_assoc, hcell (j / z) hjd (j % z) hjm, ← hf]
  · have h0 : n = 0 := by omega
    subst h0
    have hb : xs = [] := List.eq_nil_of_length_eq_zero hl
    subst hb
    cases a with
    | none => exact Src.ofNil w hk cap
    | some ad => exact Src.ofSlice w hk ad 0 cap [] (by simp) (fun j u hu => by simp at hu) (fun u hu => by cases hu)
end
/-- A slice type t whose elements e take z cells. -/
def StE (t e : TypeId) (z0 : Value) (z bytes : Nat) : Prop := Tryz.prog.underlying t = some (.slice e) ∧ (Tryz.prog.info? e).map (fun i => (i.zero, i.size, i.bytes)) = some (some z0, z, bytes) ∧ z0.cells.size = z
theorem wpList_appS {t e : TypeId} {z0 : Value} {z bytes : Nat} (hO : StE t e z0 z bytes) {w : World} {ops : Array Oper} {rest : List Oper} {o : Oper} {a : Act} {Q : Exit → Act → World → Prop} (hgd : Region.wanted o (yielded ops a.tmps) = true) (s x : Operand) (tx : TypeId)
    (ho : o.op = .call { callee := .builtin .append, args := #[s, x], argTypes := #[t, tx] })
    (base : Nat) (v : Value) (n : Nat) (xs : List Value) (hv : a.eval s = v) (hown : w.ownsRow base e z v n xs)
    (y : Value) (m : Nat) (news : List Value) (hy : a.eval x = y) (hs : Src Tryz.prog z tx y m news w) (hlen : (n + m) * bytes ≤ 140737488355328) (hm : n + m ≤ maxLen) (hbase : base ≤ w.heap.size)
    (h : ∀ v' w', w'.ownsRow base e z v' (n + m) (xs ++ news) → w.grownBy w' v.ownBlock → Below base w w' → wpList Tryz.prog ops Q rest (a.put o.dst v') w') : wpList Tryz.prog ops Q (o :: rest) a w := by
  obtain ⟨ht, hinf, hz⟩ := hO
  obtain ⟨i0, hi, hz0, hz1, hz2⟩ := info_parts hinf
  exact wpList_append_src hgd s x t tx ho base e i0 z0 z bytes ht hi hz0 hz1 hz2 hz v n xs hv hown y m news hy hs hm hlen hbase (fun v' w' h1 h2 _ => h v' w' h1 h2 (below_app (Below.refl _ _) hbase hown h2))
theorem Src.litS {P : Program} {w : World} {z m c : Nat} {C : Array Value} {e tx e' : TypeId} (hm : C.size = m * z) (hone : C.toList.all (·.oneCell') = true) (hk : P.underlying tx = some (.slice e')) :
    Src P z tx (.slice (some ⟨w.heap.size, 0, none⟩) m c) m C.toList (w.alloc (.cells C e)) := by
  refine Src.ofSlice _ hk ⟨w.heap.size, 0, none⟩ m c _ (by simpa using hm) (fun j u hu => ?_) (fun u hu => List.all_eq_true.1 hone u hu)
  rw [addr_add, Nat.zero_add, cell_of_row _ w.heap.size j _ _ _ (heap_alloc_last w _)]
  simpa using hu
/-- append(v, x1, .., xm) of structs: what is appended lies in a block of its own, made last. -/
theorem wpList_appS_lit {t e : TypeId} {z0 : Value} {z bytes : Nat} (hO : StE t e z0 z bytes) {w : World} {ops : Array Oper} {rest : List Oper} {o : Oper} {a : Act} {Q : Exit → Act → World → Prop} (hgd : Region.wanted o (yielded ops a.tmps) = true) (s x : Operand)
    (ho : o.op = .call { callee := .builtin .append, args := #[s, x], argTypes := #[t, t] })
    (base : Nat) (v : Value) (n : Nat) (xs : List Value) (hv : a.eval s = v) (hown : w.ownsRow base e z v n xs)
    (C : Array Value) (m c sz : Nat) (hy : a.eval x = .slice (some ⟨sz, 0, none⟩) m c) (hsz : w.heap.size = sz) (hC : C.size = m * z) (hone : C.toList.all (·.oneCell') = true) (hlen : (n + m) * bytes ≤ 140737488355328) (hm : n + m ≤ maxLen) (hbase : base ≤ w.heap.size)
    (h : ∀ v' w', w'.ownsRow base e z v' (n + m) (xs ++ C.toList) → (w.alloc (.cells C e)).grownBy w' v.ownBlock → Below base w w' → wpList Tryz.prog ops Q rest (a.put o.dst v') w') : wpList Tryz.prog ops Q (o :: rest) a (w.alloc (.cells C e)) := by
  subst hsz
  exact wpList_appS hO hgd s x t ho base v n xs hv (hown.alloc _) _ m _ hy (Src.litS hC hone hO.1) hlen hm (by simp; omega)
    (fun v' w' h1 h2 h3 => h v' w' h1 h2 (((Below.refl _ _).alloc hbase _).trans h3))
/-- wpList_app_lit, the place of what is appended named. -/
theorem wpList_app_lit2 {t e : TypeId} {z : Value} {bytes : Nat} (hO : OneE t e z bytes) {w : World} {ops : Array Oper} {rest : List Oper} {o : Oper} {a : Act} {Q : Exit → Act → World → Prop} (hgd : Region.wanted o (yielded ops a.tmps) = true) (s x : Operand)
    (ho : o.op = .call { callee := .builtin .append, args := #[s, x], argTypes := #[t, t] })
    (base : Nat) (v : Value) (n : Nat) (xs : List Value) (hv : a.eval s = v) (hown : w.ownsRow base e 1 v n xs)
    (C : Array Value) (m c sz : Nat) (hy : a.eval x = .slice (some ⟨sz, 0, none⟩) m c) (hsz : w.heap.size = sz) (hC : C.size = m) (hone : C.toList.all (·.oneCell') = true) (hlen : (n + m) * bytes ≤ 140737488355328) (hm : n + m ≤ maxLen) (hbase : base ≤ w.heap.size)
    (h : ∀ v' w', w'.ownsRow base e 1 v' (n + m) (xs ++ C.toList) → (w.alloc (.cells C e)).grownBy w' v.ownBlock → Below base w w' → wpList Tryz.prog ops Q rest (a.put o.dst v') w') : wpList Tryz.prog ops Q (o :: rest) a (w.alloc (.cells C e)) := by
  subst hsz
  exact wpList_app_lit hO hgd s x ho base v n xs hv hown C m c hy hC hone hlen hm hbase h
end Go.Proofs.YtlpjcfiibbcdjaaGreatDoor
