/- Slices of structs whose fields take one cell each. No condition. -/
import Derived.Test.YtbcldlbmbdfejaaQ00ImageBytes
import Derived.OrdersHeld
namespace Go.Proofs.Ytbcldlbmbdfejaa
open Go.ChangeShapes Go.WideShapes Go.ChangeAt Go.RowKit
/-- The slice at a, of n structs of z cells each, reads as xs. -/
def Ss {α : Type} (z : Nat) (enc : α → List Value) (w : World) (a : Option Addr) (n : Nat) (xs : List α) : Prop :=
  xs.length = n ∧ (0 < n → ∃ b off, a = some ⟨b, off, none⟩ ∧ b < w.heap.size ∧ ∀ i (_ : i < xs.length) j, j < z → w.cell? ⟨b, off + i * z + j, none⟩ = (enc xs[i])[j]?)
theorem addr_add (b o k : Nat) : (⟨b, o, none⟩ : Addr).add k = ⟨b, o + k, none⟩ := by unfold Addr.add; split <;> simp_all
theorem cellS_below {w w' : World} (h : Below w.heap.size w w') {a : Addr} {v : Value} (hc : w.cell? a = some v) : w'.cell? a = some v := by
  have hlt : a.block < w.heap.size := by
    unfold World.cell? at hc
    cases hb : w.heap[a.block]? with
    | none => rw [hb] at hc; simp at hc
    | some o => exact (Array.getElem?_eq_some_iff.1 hb).1
  rw [h.cell hlt]
  exact hc
section
variable {α : Type} {z : Nat} {enc : α → List Value}
theorem Ss.below {w w' : World} {a : Option Addr} {n : Nat} {xs : List α} (h : Ss z enc w a n xs) (hb : Below w.heap.size w w') : Ss z enc w' a n xs := by
  refine ⟨h.1, fun hn => ?_⟩
  obtain ⟨b, off, ha, hlt, hc⟩ := h.2 hn
  exact ⟨b, off, ha, Nat.lt_of_lt_of_le hlt hb.size, fun i hi j hj => by rw [hb.cell (by simpa using hlt)]; exact hc i hi j hj⟩
theorem Ss.nil (w : World) (a : Option Addr) : Ss z enc w a 0 [] := ⟨rfl, fun h => by omega⟩
theorem flat_len (hz : ∀ x, (enc x).length = z) (xs : List α) : (xs.flatMap enc).length = xs.length * z := by
  induction xs with
  | nil => simp
  | cons x xs ih => rw [List.flatMap_cons, List.length_append, hz, ih, List.length_cons, Nat.add_mul, Nat.one_mul, Nat.add_comm]
theorem flat_at (hz : ∀ x, (enc x).length = z) (xs : List α) (i : Nat) (hi : i < xs.length) (j : Nat) (hj : j < z) : (xs.flatMap enc)[i * z + j]? = (enc xs[i])[j]? := by
  induction xs generalizing i with
  | nil => simp at hi
  | cons x xs ih =>
    rw [List.flatMap_cons]
    cases i with
    | zero => rw [Nat.zero_mul, Nat.zero_add, List.getElem?_append_left (by rw [hz]; exact hj)]; simp
    | succ i =>
      rw [List.getElem?_append_right (by rw [hz, Nat.add_mul]; omega), hz, show (i + 1) * z + j - z = i * z + j by rw [Nat.add_mul]; omega, ih i (by simpa using hi)]
      simp
theorem Ss.ofOwn (hz : ∀ x, (enc x).length = z) (z0 : 0 < z) {w : World} {base : Nat} {e : TypeId} {v : Value} {n : Nat} {xs : List α} (h : w.ownsRow base e z v n (xs.flatMap enc)) : ∃ a cap, v = .slice a n cap ∧ Ss z enc w a n xs ∧ n ≤ cap := by
  have hl : xs.length = n := by
    have h1 := h.1
    rw [flat_len hz] at h1
    exact Nat.eq_of_mul_eq_mul_right z0 h1
  rcases h.2 with ⟨rfl, rfl⟩ | ⟨g, cap, cur, rfl, hb, hg, hnc, _, _, ht⟩
  · exact ⟨none, 0, rfl, ⟨hl, fun h => by omega⟩, Nat.le_refl _⟩
  · refine ⟨_, cap, rfl, ⟨hl, fun _ => ⟨g, 0, rfl, (Array.getElem?_eq_some_iff.1 hg).1, fun i hi j hj => ?_⟩⟩, hnc⟩
    have hlt : i * z + j < n * z := by
      have : (i + 1) * z ≤ n * z := Nat.mul_le_mul_right _ (by omega)
      rw [Nat.add_mul] at this
      omega
    rw [Nat.zero_add, h.cellAt (i * z + j) hlt, flat_at hz xs i hi j hj]
theorem Ss.take {w : World} {a : Option Addr} {n j : Nat} {xs : List α} (h : Ss z enc w a n xs) (hj : j ≤ n) : Ss z enc w a j (xs.take j) := by
  refine ⟨by simp [h.1]; omega, fun hn => ?_⟩
  obtain ⟨b, off, ha, hlt, hc⟩ := h.2 (by omega)
  refine ⟨b, off, ha, hlt, fun i hi k hk => ?_⟩
  rw [hc i (by simp at hi; omega) k hk]
  simp
theorem Ss.src {P : Program} (hz : ∀ x, (enc x).length = z) (z0 : 0 < z) (h1 : ∀ x : α, ∀ u ∈ enc x, u.oneCell' = true) {w : World} {a : Option Addr} {n : Nat} {xs : List α} (h : Ss z enc w a n xs) {tx e' : TypeId} (hk : P.underlying tx = some (.slice e')) (cap : Nat) : Src P z tx (.slice a n cap) n (xs.flatMap enc) w := by
  obtain ⟨hl, hc⟩ := h
  have hone : ∀ u ∈ xs.flatMap enc, u.oneCell' = true := by
    intro u hu
    obtain ⟨x, _, hx⟩ := List.mem_flatMap.1 hu
    exact h1 x u hx
  by_cases hn : 0 < n
  · obtain ⟨b, off, rfl, _, hcell⟩ := hc hn
    refine Src.ofSlice w hk ⟨b, off, none⟩ n cap _ (by rw [flat_len hz, hl]) (fun j u hu => ?_) hone
    have hj : j < xs.length * z := by
      rw [← flat_len hz]
      rcases Nat.lt_or_ge j (xs.flatMap enc).length with h | h
      · exact h
      · rw [List.getElem?_eq_none h] at hu; cases hu
    have hjd : j / z < xs.length := Nat.div_lt_of_lt_mul (by rw [Nat.mul_comm]; exact hj)
    have hjm : j % z < z := Nat.mod_lt _ z0
    have hje : j / z * z + j % z = j := by rw [Nat.mul_comm]; exact Nat.div_add_mod j z
    have hf := flat_at hz xs (j / z) hjd (j % z) hjm
    rw [hje, hu] at hf
    rw [addr_add, ← hje, ← Nat.add_assoc, hcell (j / z) hjd (j % z) hjm, ← hf]
  · have h0 : n = 0 := by omega
    subst h0
    have hb : xs = [] := List.eq_nil_of_length_eq_zero hl
    subst hb
    cases a with
    | none => exact Src.ofNil w hk cap
    | some ad => exact Src.ofSlice w hk ad 0 cap [] (by simp) (fun j u hu => by simp at hu) (fun u hu => by cases hu)
end
/-- A slice type t whose elements e take z cells. -/
def StE (t e : TypeId) (z0 : Value) (z bytes : Nat) : Prop := Try.prog.underlying t = some (.slice e) ∧ (Try.prog.info? e).map (fun i => (i.zero, i.size, i.bytes)) = some (some z0, z, bytes) ∧ z0.cells.size = z
theorem wpList_appS {t e : TypeId} {z0 : Value} {z bytes : Nat} (hO : StE t e z0 z bytes) {w : World} {ops : Array Oper} {rest : List Oper} {o : Oper} {a : Act} {Q : Exit → Act → World → Prop} (hgd : Region.wanted o (yielded ops a.tmps) = true) (s x : Operand) (tx : TypeId)
    (ho : o.op = .call { callee := .builtin .append, args := #[s, x], argTypes := #[t, tx] })
    (base : Nat) (v : Value) (n : Nat) (xs : List Value) (hv : a.eval s = v) (hown : w.ownsRow base e z v n xs)
    (y : Value) (m : Nat) (news : List Value) (hy : a.eval x = y) (hs : Src Try.prog z tx y m news w) (hlen : (n + m) * bytes ≤ 140737488355328) (hm : n + m ≤ maxLen) (hbase : base ≤ w.heap.size)
    (h : ∀ v' w', w'.ownsRow base e z v' (n + m) (xs ++ news) → w.grownBy w' v.ownBlock → Below base w w' → wpList Try.prog ops Q rest (a.put o.dst v') w') : wpList Try.prog ops Q (o :: rest) a w := by
  obtain ⟨ht, hinf, hz⟩ := hO
  obtain ⟨i0, hi, hz0, hz1, hz2⟩ := info_parts hinf
  exact wpList_append_src hgd s x t tx ho base e i0 z0 z bytes ht hi hz0 hz1 hz2 hz v n xs hv hown y m news hy hs hm hlen hbase (fun v' w' h1 h2 _ => h v' w' h1 h2 (below_app (Below.refl _ _) hbase hown h2))
theorem Src.litS {P : Program} {w : World} {z m c : Nat} {C : Array Value} {e tx e' : TypeId} (hm : C.size = m * z) (hone : C.toList.all (·.oneCell') = true) (hk : P.underlying tx = some (.slice e')) :
    Src P z tx (.slice (some ⟨w.heap.size, 0, none⟩) m c) m C.toList (w.alloc (.cells C e)) := by
  refine Src.ofSlice _ hk ⟨w.heap.size, 0, none⟩ m c _ (by simpa using hm) (fun j u hu => ?_) (fun u hu => List.all_eq_true.1 hone u hu)
  rw [addr_add, Nat.zero_add, cell_of_row _ w.heap.size j _ _ _ (heap_alloc_last w _)]
  simpa using hu
/-- append(v, x1, .., xm) of structs: what is appended lies in a block of its own, made last. -/
theorem wpList_appS_lit {t e : TypeId} {z0 : Value} {z bytes : Nat} (hO : StE t e z0 z bytes) {w : World} {ops : Array Oper} {rest : List Oper} {o : Oper} {a : Act} {Q : Exit → Act → World → Prop} (hgd : Region.wanted o (yielded ops a.tmps) = true) (s x : Operand)
    (ho : o.op = .call { callee := .builtin .append, args := #[s, x], argTypes := #[t, t] })
    (base : Nat) (v : Value) (n : Nat) (xs : List Value) (hv : a.eval s = v) (hown : w.ownsRow base e z v n xs)
    (C : Array Value) (m c sz : Nat) (hy : a.eval x = .slice (some ⟨sz, 0, none⟩) m c) (hsz : w.heap.size = sz) (hC : C.size = m * z) (hone : C.toList.all (·.oneCell') = true) (hlen : (n + m) * bytes ≤ 140737488355328) (hm : n + m ≤ maxLen) (hbase : base ≤ w.heap.size)
    (h : ∀ v' w', w'.ownsRow base e z v' (n + m) (xs ++ C.toList) → (w.alloc (.cells C e)).grownBy w' v.ownBlock → Below base w w' → wpList Try.prog ops Q rest (a.put o.dst v') w') : wpList Try.prog ops Q (o :: rest) a (w.alloc (.cells C e)) := by
  subst hsz
  exact wpList_appS hO hgd s x t ho base v n xs hv (hown.alloc _) _ m _ hy (Src.litS hC hone hO.1) hlen hm (by simp; omega)
    (fun v' w' h1 h2 h3 => h v' w' h1 h2 (((Below.refl _ _).alloc hbase _).trans h3))
/-- wpList_app_lit, the place of what is appended named. -/
theorem wpList_app_lit2 {t e : TypeId} {z : Value} {bytes : Nat} (hO : OneE t e z bytes) {w : World} {ops : Array Oper} {rest : List Oper} {o : Oper} {a : Act} {Q : Exit → Act → World → Prop} (hgd : Region.wanted o (yielded ops a.tmps) = true) (s x : Operand)
    (ho : o.op = .call { callee := .builtin .append, args := #[s, x], argTypes := #[t, t] })
    (base : Nat) (v : Value) (n : Nat) (xs : List Value) (hv : a.eval s = v) (hown : w.ownsRow base e 1 v n xs)
    (C : Array Value) (m c sz : Nat) (hy : a.eval x = .slice (some ⟨sz, 0, none⟩) m c) (hsz : w.heap.size = sz) (hC : C.size = m) (hone : C.toList.all (·.oneCell') = true) (hlen : (n + m) * bytes ≤ 140737488355328) (hm : n + m ≤ maxLen) (hbase : base ≤ w.heap.size)
    (h : ∀ v' w', w'.ownsRow base e 1 v' (n + m) (xs ++ C.toList) → (w.alloc (.cells C e)).grownBy w' v.ownBlock → Below base w w' → wpList Try.prog ops Q rest (a.put o.dst v') w') : wpList Try.prog ops Q (o :: rest) a (w.alloc (.cells C e)) := by
  subst hsz
  exact wpList_app_lit hO hgd s x ho base v n xs hv hown C m c hy hC hone hlen hm hbase h
end Go.Proofs.Ytbcldlbmbdfejaa
/- A region that draws its order, walked once: in an order of the prover's choosing; what only reads comes as early as it may, what makes memory comes up alone. Over any program. -/
namespace Go.Proofs.Ytbcldlbmbdfejaa
open Go.RowKit

/-- One operation: 'b' true: it yields one value in every world that meets S. 'b' false: it comes up alone. -/
def lexOp (P : Program) (ops : Array Oper) (Q : Exit → Act → World → Prop) (S : World → Prop) (i : Nat) (b : Bool) (K : Act → World → Prop) (a : Act) (w : World) : Prop :=
  match ops[i]? with
  | none => False
  | some o =>
    if Region.wanted o (yielded ops a.tmps) = true then
      (match b with
        | true => ∃ v, (∀ w', S w' → (execOp a.eval o).run P w' = .ok (.value v) w') ∧ S w ∧ K (a.put o.dst v) w
        | false => o.wp P a w (fun a' w' => S w' ∧ K a' w') Q)
    else S w ∧ K (a.put o.dst undef) w
def wpLex (P : Program) (ops : Array Oper) (Q : Exit → Act → World → Prop) (S : World → Prop) : List (Nat × Bool) → Act → World → Prop
  | [], a, w => Q .normal a w
  | (i, b) :: l, a, w => lexOp P ops Q S i b (wpLex P ops Q S l) a w
/-- May the operations come up in this order, and is that all that is to be looked at? -/
def checkLex (ops : Array Oper) : Array Bool → List (Nat × Bool) → Bool
  | listed, [] => (Region.ready .any ops listed).isEmpty
  | listed, (i, b) :: l => (if b then Region.free .any ops listed i && (Region.ready .any ops listed).contains i else Region.ready .any ops listed == [i]) && checkLex ops (listed.setIfInBounds i true) l

theorem lex_sound {P : Program} {ops : Array Oper} {Q : Exit → Act → World → Prop} {S : World → Prop} (hs : Region.noSelect ops = true) (hQ : ∀ c a d v w, Q (.panic c) (a.put d v) w → Q (.panic c) a w) :
    ∀ (l : List (Nat × Bool)) (listed : Array Bool) (a : Act) (w : World), checkLex ops listed l = true → wpLex P ops Q S l a w → wpAnyH P .any ops Q S l.length listed a w := by
  intro l
  induction l with
  | nil =>
    intro listed a w hc h
    exact ⟨by simpa [checkLex] using hc, h⟩
  | cons p l ih =>
    obtain ⟨i, b⟩ := p
    intro listed a w hc h
    simp only [checkLex, Bool.and_eq_true] at hc
    obtain ⟨hc1, hc2⟩ := hc
    change lexOp P ops Q S i b (wpLex P ops Q S l) a w at h
    unfold lexOp at h
    cases ho : ops[i]? with
    | none => rw [ho] at h; exact h.elim
    | some o =>
      rw [ho] at h
      simp only at h
      cases b with
      | true =>
        simp only [if_true, Bool.and_eq_true] at hc1
        obtain ⟨hf, hr⟩ := hc1
        by_cases hw : Region.wanted o (yielded ops a.tmps) = true
        · rw [if_pos hw] at h
          obtain ⟨v, h1, h2, h3⟩ := h
          exact wpAnyH_take ho hs hf hr (fun c a w => hQ c a _ _ w) (.inl ⟨hw, h1⟩) h2 (ih _ _ _ hc2 h3)
        · rw [if_neg hw] at h
          exact wpAnyH_take ho hs hf hr (fun c a w => hQ c a _ _ w) (.inr ⟨by simpa using hw, rfl⟩) h.1 (ih _ _ _ hc2 h.2)
      | false =>
        simp only [Bool.false_eq_true, if_false] at hc1
        have hr : Region.ready .any ops listed = [i] := by simpa using hc1
        refine wpAnyH_all hr (by simp) (fun j hj => ?_)
        obtain rfl : j = i := by simpa using hj
        unfold wpOp
        rw [ho]
        simp only
        by_cases hw : Region.wanted o (yielded ops a.tmps) = true
        · rw [if_pos hw] at h
          simp only [hw, if_true]
          exact .inl (Oper.wp_mono (fun a' w' h' => ⟨h'.1, ih _ _ _ hc2 h'.2⟩) h)
        · rw [if_neg hw] at h
          simp only [hw]
          exact ⟨h.1, ih _ _ _ hc2 h.2⟩
theorem wp_region_lex {P : Program} {id : Nat} {ops : Array Oper} {Q : Exit → Act → World → Prop} {a : Act} {w : World} (S : World → Prop) (l : List (Nat × Bool)) (hm : P.follows .mixedOrders = true)
    (hc : (Region.noSelect ops && (l.length == ops.size) && checkLex ops (Array.replicate ops.size false) l) = true) (hQ : ∀ c a d v w, Q (.panic c) (a.put d v) w → Q (.panic c) a w)
    (h : wpLex P ops Q S l a w.drew) : (Code.region id ops true).wp P Q a w := by
  simp only [Bool.and_eq_true, beq_iff_eq] at hc
  obtain ⟨⟨hs, hl⟩, hk⟩ := hc
  have := lex_sound (P := P) (Q := Q) (S := S) hs hQ l _ a _ hk h
  rw [hl] at this
  exact wp_region_held hm this
theorem lex_step {P : Program} {ops : Array Oper} {Q : Exit → Act → World → Prop} {S : World → Prop} {i : Nat} {b : Bool} {l : List (Nat × Bool)} {a : Act} {w : World}
    (h : ∀ K : Act → World → Prop, (∀ a w, wpLex P ops Q S l a w → K a w) → lexOp P ops Q S i b K a w) : wpLex P ops Q S ((i, b) :: l) a w := h _ (fun _ _ h => h)
theorem lex_nil {P : Program} {ops : Array Oper} {Q : Exit → Act → World → Prop} {S : World → Prop} {a : Act} {w : World} (h : Q .normal a w) : wpLex P ops Q S [] a w := h
/-- The operation is looked up, its guard says yes. -/
theorem lex_take {P : Program} {ops : Array Oper} {Q : Exit → Act → World → Prop} {S : World → Prop} {i : Nat} {o : Oper} {K : Act → World → Prop} {a : Act} {w : World} (ho : ops[i]? = some o) (hw : Region.wanted o (yielded ops a.tmps) = true) (v : Value)
    (hv : ∀ w', S w' → (execOp a.eval o).run P w' = .ok (.value v) w') (hS : S w) (h : K (a.put o.dst v) w) : lexOp P ops Q S i true K a w := by
  unfold lexOp; rw [ho]; simp only []; rw [if_pos hw]; exact ⟨v, hv, hS, h⟩
theorem lex_alone {P : Program} {ops : Array Oper} {Q : Exit → Act → World → Prop} {S : World → Prop} {i : Nat} {o : Oper} {K : Act → World → Prop} {a : Act} {w : World} (ho : ops[i]? = some o) (hw : Region.wanted o (yielded ops a.tmps) = true)
    (h : o.wp P a w (fun a' w' => S w' ∧ K a' w') Q) : lexOp P ops Q S i false K a w := by
  unfold lexOp; rw [ho]; simp only []; rw [if_pos hw]; exact h
theorem lex_skip {P : Program} {ops : Array Oper} {Q : Exit → Act → World → Prop} {S : World → Prop} {i : Nat} {b : Bool} {o : Oper} {K : Act → World → Prop} {a : Act} {w : World} (ho : ops[i]? = some o) (hw : Region.wanted o (yielded ops a.tmps) = false)
    (hS : S w) (h : K (a.put o.dst undef) w) : lexOp P ops Q S i b K a w := by
  unfold lexOp; rw [ho]; simp only []; rw [if_neg (by rw [hw]; decide)]; exact ⟨hS, h⟩
end Go.Proofs.Ytbcldlbmbdfejaa
/- append as a lone step of a region that draws. No condition. -/
namespace Go.Proofs.Ytbcldlbmbdfejaa
open Go.ChangeShapes Go.WideShapes Go.ChangeAt Go.RowKit
theorem wp_appK {t e : TypeId} {z : Value} {bytes : Nat} (hO : OneE t e z bytes) {w : World} {ops : Array Oper} {o : Oper} {a : Act} {K : Act → World → Prop} {Q : Exit → Act → World → Prop} (hgd : Region.wanted o (yielded ops a.tmps) = true) (s x : Operand) (tx : TypeId)
    (ho : o.op = .call { callee := .builtin .append, args := #[s, x], argTypes := #[t, tx] })
    (base : Nat) (v : Value) (n : Nat) (xs : List Value) (hv : a.eval s = v) (hown : w.ownsRow base e 1 v n xs)
    (y : Value) (m : Nat) (news : List Value) (hy : a.eval x = y) (hs : Src Try.prog 1 tx y m news w) (hlen : (n + m) * bytes ≤ 140737488355328) (hm : n + m ≤ maxLen) (hbase : base ≤ w.heap.size)
    (h : ∀ v' w', w'.ownsRow base e 1 v' (n + m) (xs ++ news) → w.grownBy w' v.ownBlock → Below base w w' → K (a.put o.dst v') w') : Oper.wp Try.prog o a w K Q := by
  have h1 := step_app1 (E := True) (ops := ops) (Q := Q) hO hgd s x tx ho base v n xs hv hown y m news hy hs hlen hm hbase h
  rwa [if_pos hgd] at h1
theorem strSrcK (w : World) (bs : List UInt8) : Src Try.prog 1 9 (.string ⟨bs.toArray⟩) bs.length (bs.map encB) w := by
  have h := Src.ofString (P := Try.prog) w Try.underlying9 ⟨bs.toArray⟩
  have e : byteCells ⟨bs.toArray⟩ = bs.map encB := by unfold byteCells; rfl
  rw [e] at h
  exact h
end Go.Proofs.Ytbcldlbmbdfejaa
/- num: what Put and Get compute. No program in sight. -/
namespace Go.Proofs.Ytbcldlbmbdfejaa
/-- A number's bytes. -/
def putB (v n : Nat) : List UInt8 := (List.range n).map fun i => UInt8.ofNat (v / 256 ^ (n - 1 - i) % 256)
theorem putB_length (v n : Nat) : (putB v n).length = n := by simp [putB]
theorem putB_take (v n k : Nat) (h : k < n) : (putB v n).take (k + 1) = (putB v n).take k ++ [UInt8.ofNat (v / 256 ^ (n - 1 - k) % 256)] := by
  rw [List.take_succ_eq_append_getElem (by rw [putB_length]; exact h)]
  simp [putB]
theorem encB_byte (x : Nat) : encB (UInt8.ofNat (x % 256)) = .int .u8 ((x : Int) % 256) := by
  unfold encB
  rw [UInt8.toNat_ofNat_of_lt' (by show x % 256 < 256; omega)]
  rw [Int.natCast_emod]; rfl
/-- The number of bytes. -/
def getN (bs : List UInt8) : Nat := bs.foldl (fun v c => v * 256 + c.toNat) 0
theorem getN_take (bs : List UInt8) (k : Nat) (h : k < bs.length) : getN (bs.take (k + 1)) = getN (bs.take k) * 256 + bs[k].toNat := fold_take _ _ bs k h
theorem getN_snoc (bs : List UInt8) (c : UInt8) : getN (bs ++ [c]) = getN bs * 256 + c.toNat := by simp [getN]
theorem getN_lt (bs : List UInt8) : getN bs < 256 ^ bs.length := by
  generalize hn : bs.length = n
  induction n generalizing bs with
  | zero => have : bs = [] := List.length_eq_zero_iff.1 hn; subst this; simp [getN]
  | succ n ih =>
    have h1 : bs ≠ [] := by intro h; rw [h] at hn; simp at hn
    obtain ⟨as', c, rfl⟩ : ∃ as' c, bs = as' ++ [c] := ⟨bs.dropLast, bs.getLast h1, (List.dropLast_concat_getLast h1).symm⟩
    have h2 := ih as' (by simpa using hn)
    rw [getN_snoc, Nat.pow_succ]
    have := c.toNat_lt
    omega
theorem getN_take_lt (bs : List UInt8) (k : Nat) (h : k ≤ 7) : getN (bs.take k) < 72057594037927936 := by
  have h1 := getN_lt (bs.take k)
  have h2 : 256 ^ (bs.take k).length ≤ 256 ^ 7 := Nat.pow_le_pow_right (by decide) (by simp; omega)
  omega
theorem or64_join {x y : Nat} (hx : x % 256 = 0) (hy : y < 256) (h : x + y < 18446744073709551616) : bits .or .u64 (x : Int) (y : Int) = (x : Int) + y := by
  rw [u64_or_nat x y (by omega) (by omega), nat_join 8 x y hx hy]
  push_cast; rfl
/-- What Get tells. -/
def getR (bs : List UInt8) (at_ n : Int) : Int × Int :=
  if n < 1 ∨ 8 < n then (0, 1)
  else if at_ < 0 ∨ (bs.length : Int) < at_ ∨ (bs.length : Int) - at_ < n then (0, 6)
  else (getN ((bs.drop at_.toNat).take n.toNat), 0)
theorem shr_byte (v e : Nat) : ((v : Int) / 2 ^ (8 * e)) = ((v / 256 ^ e : Nat) : Int) := by
  rw [Int.natCast_ediv, Int.natCast_pow, Int.pow_mul]; rfl
theorem tmod_byte (x : Nat) : ((x : Nat) : Int).tmod 256 % 256 = (x : Int) % 256 := by
  rw [Int.tmod_eq_emod_of_nonneg (by omega), Int.emod_emod]
theorem putB_take1 (v n : Nat) (h : 0 < n) : (putB v n).take (0 + 1) = [UInt8.ofNat (v / 256 ^ (n - 1) % 256)] := by
  rw [putB_take v n 0 h]; rfl
end Go.Proofs.Ytbcldlbmbdfejaa
/- num: Put and Get are each other's back. No program in sight. -/
namespace Go.Proofs.Ytbcldlbmbdfejaa
theorem putB_succ (v n : Nat) : putB v (n + 1) = putB (v / 256) n ++ [UInt8.ofNat (v % 256)] := by
  unfold putB
  rw [List.range_succ, List.map_append]
  congr 1
  · apply List.map_congr_left
    intro i hi
    have hi := List.mem_range.1 hi
    rw [show n + 1 - 1 - i = (n - 1 - i) + 1 by omega, Nat.pow_succ, Nat.mul_comm, ← Nat.div_div_eq_div_mul]
  · simp
theorem put_get (cs : List UInt8) : putB (getN cs) cs.length = cs := by
  generalize hn : cs.length = n
  induction n generalizing cs with
  | zero => rw [List.length_eq_zero_iff.1 hn]; rfl
  | succ n ih =>
    have h1 : cs ≠ [] := by intro h; rw [h] at hn; simp at hn
    obtain ⟨ds, c, rfl⟩ : ∃ ds c, cs = ds ++ [c] := ⟨cs.dropLast, cs.getLast h1, (List.dropLast_concat_getLast h1).symm⟩
    have hl : ds.length = n := by simpa using hn
    have hc := c.toNat_lt
    rw [putB_succ, getN_snoc, show (getN ds * 256 + c.toNat) / 256 = getN ds by omega, show (getN ds * 256 + c.toNat) % 256 = c.toNat by omega, ih ds hl]
    simp
theorem get_put (v n : Nat) : getN (putB v n) = v % 256 ^ n := by
  induction n generalizing v with
  | zero => simp [putB, getN, Nat.mod_one]
  | succ n ih =>
    rw [putB_succ, getN_snoc, ih, UInt8.toNat_ofNat_of_lt' (by show v % 256 < 256; omega), Nat.pow_succ, Nat.mul_comm (256 ^ n) 256, Nat.mod_mul]
    omega
end Go.Proofs.Ytbcldlbmbdfejaa
/- ops: forms and lengths, plain. No program in sight. -/
namespace Go.Proofs.Ytbcldlbmbdfejaa
open Go.ChangeShapes Go.WideShapes Go.ChangeAt Go.RowKit
/-- Operations from one to another, all of one form. -/

def spCells (s : Nat × Nat × Nat) : List Value := [.int .u8 (s.1 : Nat), .int .u8 (s.2.1 : Nat), .int .i64 (s.2.2 : Nat)]
theorem spCells_length (s : Nat × Nat × Nat) : (spCells s).length = 3 := rfl
def spansL : List (Nat × Nat × Nat) := [(0, 10, 1), (16, 16, 3), (17, 17, 4), (18, 18, 5), (20, 20, 6), (21, 22, 2), (25, 25, 2), (46, 46, 1), (50, 51, 1), (54, 55, 2), (58, 58, 2), (79, 79, 1), (83, 84, 1), (87, 87, 1), (89, 89, 1), (95, 97, 1), (100, 101, 1), (104, 105, 1), (108, 109, 1), (112, 113, 1), (116, 117, 1), (120, 131, 1), (132, 132, 8), (133, 133, 1), (136, 136, 1), (145, 145, 1), (148, 148, 1), (153, 167, 7), (172, 173, 1), (176, 177, 1), (178, 182, 6), (184, 184, 6), (187, 187, 6), (188, 188, 9), (189, 189, 6), (190, 191, 1), (192, 193, 6), (198, 199, 7)]
theorem spansL_ok : ∀ s ∈ spansL, (s : Nat × Nat × Nat).1 ≤ s.2.1 ∧ s.2.1 ≤ 255 ∧ s.2.2 ≤ 9 := by decide
/-- One span more. -/
def spanF (f : Nat → Nat) (s : Nat × Nat × Nat) : Nat → Nat := fun i => if s.1 ≤ i ∧ i ≤ s.2.1 then s.2.2 else f i
/-- The forms behind the first spans. -/
def formK (k : Nat) : Nat → Nat := (spansL.take k).foldl spanF (fun _ => 0)
/-- An operation's form; 0: it is none. -/
def formN (op : Nat) : Nat := formK 38 op
theorem formK_succ (k : Nat) (h : k < spansL.length) : formK (k + 1) = spanF (formK k) spansL[k] := by
  unfold formK
  rw [List.take_succ_eq_append_getElem h, List.foldl_append]
  rfl
theorem spanF_le (f : Nat → Nat) (s : Nat × Nat × Nat) (h : s.2.2 ≤ 9) (hf : ∀ i, f i ≤ 9) (i : Nat) : spanF f s i ≤ 9 := by
  unfold spanF
  split
  · exact h
  · exact hf i
theorem fold_le (l : List (Nat × Nat × Nat)) (hl : ∀ s ∈ l, (s : Nat × Nat × Nat).2.2 ≤ 9) (f : Nat → Nat) (hf : ∀ i, f i ≤ 9) (i : Nat) : l.foldl spanF f i ≤ 9 := by
  induction l generalizing f with
  | nil => exact hf i
  | cons s l ih => exact ih (fun x hx => hl x (List.mem_cons_of_mem _ hx)) _ (fun j => spanF_le f s (hl s List.mem_cons_self) hf j)
theorem formN_le (op : Nat) : formN op ≤ 9 := by
  unfold formN formK
  exact fold_le _ (fun s hs => (spansL_ok s (List.mem_of_mem_take hs)).2.2) _ (fun _ => Nat.zero_le _) op
/-- How many bytes a form has. -/
def sizeN (f : Nat) : Nat := [0, 1, 2, 2, 3, 2, 3, 3, 3, 2].getD f 0
/-- A table of 256 bytes. -/
def tabN (f : Nat → Nat) : Array Value := ((List.range 256).map fun i => Value.int .u8 (f i : Nat)).toArray
theorem tabN_size (f : Nat → Nat) : (tabN f).size = 256 := by simp [tabN]
theorem tabN_at (f : Nat → Nat) (j : Nat) (h : j < 256) : (tabN f)[j]? = some (.int .u8 (f j : Nat)) := by simp [tabN, h]
def updF (f : Nat → Nat) (j x : Nat) : Nat → Nat := fun i => if i = j then x else f i
theorem tabN_set (f : Nat → Nat) (j x : Nat) : (tabN f).setIfInBounds j (.int .u8 (x : Nat)) = tabN (updF f j x) := by
  apply Array.ext_getElem?
  intro i
  rw [Array.getElem?_setIfInBounds]
  by_cases hi : i < 256
  · rw [tabN_at _ _ hi, tabN_at _ _ hi]
    unfold updF
    by_cases hk : j = i
    · subst hk; simp [tabN_size, hi]
    · simp only [hk, if_false]
      rw [if_neg (Ne.symm hk)]
  · have h1 : (tabN f)[i]? = none := by simp [tabN_size]; omega
    have h2 : (tabN (updF f j x))[i]? = none := by simp [tabN_size]; omega
    rw [h1, h2]
    split
    · simp [tabN_size]; omega
    · rfl
theorem tabN_one (f : Nat → Nat) : (tabN f).all (·.oneCell') = true := by
  simp [tabN, Array.all_eq_true]; intro i hi; rfl
/-- A span that is filled in part. -/
def partF (f : Nat → Nat) (a j x : Nat) : Nat → Nat := fun i => if a ≤ i ∧ i < j then x else f i
theorem partF_start (f : Nat → Nat) (a x : Nat) : partF f a a x = f := by
  funext i; unfold partF; rw [if_neg (by omega)]
theorem partF_next (f : Nat → Nat) (a j x : Nat) (h : a ≤ j) : updF (partF f a j x) j x = partF f a (j + 1) x := by
  funext i
  unfold updF partF
  by_cases h1 : i = j
  · rw [if_pos h1, if_pos (by omega)]
  · rw [if_neg h1]
    by_cases h2 : a ≤ i ∧ i < j
    · rw [if_pos h2, if_pos (by omega)]
    · rw [if_neg h2, if_neg (by omega)]
theorem partF_end (f : Nat → Nat) (a b x : Nat) : partF f a (b + 1) x = spanF f (a, b, x) := by
  funext i
  unfold partF spanF
  by_cases h : a ≤ i ∧ i ≤ b
  · rw [if_pos (by omega), if_pos h]
  · rw [if_neg (by omega), if_neg h]
end Go.Proofs.Ytbcldlbmbdfejaa
/- Bit operations of the walk as BitVec. No program in sight. -/
namespace Go.Proofs.Ytbcldlbmbdfejaa
open Go.RowKit
def E {n : Nat} (v : BitVec n) : Int := (v.toNat : Int)
theorem E_inj {n : Nat} {a b : BitVec n} : E a = E b ↔ a = b := by
  unfold E
  exact ⟨fun h => BitVec.eq_of_toNat_eq (by exact_mod_cast h), fun h => by rw [h]⟩
theorem of_E {n : Nat} (v : BitVec n) : BitVec.ofInt n (E v) = v := by
  unfold E; simp
theorem E_nonneg {n : Nat} (v : BitVec n) : 0 ≤ E v := by unfold E; omega
theorem E_lt {n : Nat} (v : BitVec n) : E v < 2 ^ n := by have := v.isLt; unfold E; exact_mod_cast this
theorem xor_left {n : Nat} (a b c : BitVec n) : a ^^^ (b ^^^ c) = b ^^^ (a ^^^ c) := by
  rw [← BitVec.xor_assoc, BitVec.xor_comm a b, BitVec.xor_assoc]
theorem xor_xor {n : Nat} (a b : BitVec n) : a ^^^ (a ^^^ b) = b := by
  rw [← BitVec.xor_assoc]; simp
/-- A number that fits. -/
theorem E_of {n : Nat} {x : Int} (h0 : 0 ≤ x) (h : x < 2 ^ n) : x = E (BitVec.ofInt n x) := by
  unfold E
  obtain ⟨a, rfl⟩ := Int.eq_ofNat_of_zero_le h0
  have ha : a < 2 ^ n := by exact_mod_cast h
  simp [Nat.mod_eq_of_lt ha]
theorem bits8_and (x y : Int) : bits .and .u8 x y = E (BitVec.ofInt 8 x &&& BitVec.ofInt 8 y) := by
  show IntKind.u8.wrap ((BitVec.ofInt 8 x &&& BitVec.ofInt 8 y).toNat) = _
  rw [IntKind.wrap_u8']; have := (BitVec.ofInt 8 x &&& BitVec.ofInt 8 y).isLt; unfold E; omega
theorem bits8_or (x y : Int) : bits .or .u8 x y = E (BitVec.ofInt 8 x ||| BitVec.ofInt 8 y) := by
  show IntKind.u8.wrap ((BitVec.ofInt 8 x ||| BitVec.ofInt 8 y).toNat) = _
  rw [IntKind.wrap_u8']; have := (BitVec.ofInt 8 x ||| BitVec.ofInt 8 y).isLt; unfold E; omega
theorem bits8_xor (x y : Int) : bits .xor .u8 x y = E (BitVec.ofInt 8 x ^^^ BitVec.ofInt 8 y) := by
  show IntKind.u8.wrap ((BitVec.ofInt 8 x ^^^ BitVec.ofInt 8 y).toNat) = _
  rw [IntKind.wrap_u8']; have := (BitVec.ofInt 8 x ^^^ BitVec.ofInt 8 y).isLt; unfold E; omega
theorem bits8_andNot (x y : Int) : bits .andNot .u8 x y = E (BitVec.ofInt 8 x &&& ~~~BitVec.ofInt 8 y) := by
  show IntKind.u8.wrap ((BitVec.ofInt 8 x &&& ~~~BitVec.ofInt 8 y).toNat) = _
  rw [IntKind.wrap_u8']; have := (BitVec.ofInt 8 x &&& ~~~BitVec.ofInt 8 y).isLt; unfold E; omega
theorem bits_u8 (op : BinOp) (x y : Int) : 0 ≤ bits op .u8 x y ∧ bits op .u8 x y < 256 := by
  unfold bits; simp only [IntKind.wrap_u8']; omega
theorem bits16_and (x y : Int) : bits .and .u16 x y = E (BitVec.ofInt 16 x &&& BitVec.ofInt 16 y) := by
  show IntKind.u16.wrap ((BitVec.ofInt 16 x &&& BitVec.ofInt 16 y).toNat) = _
  rw [IntKind.wrap_u16]; have := (BitVec.ofInt 16 x &&& BitVec.ofInt 16 y).isLt; unfold E; omega
theorem bits16_or (x y : Int) : bits .or .u16 x y = E (BitVec.ofInt 16 x ||| BitVec.ofInt 16 y) := by
  show IntKind.u16.wrap ((BitVec.ofInt 16 x ||| BitVec.ofInt 16 y).toNat) = _
  rw [IntKind.wrap_u16]; have := (BitVec.ofInt 16 x ||| BitVec.ofInt 16 y).isLt; unfold E; omega
theorem bits16_xor (x y : Int) : bits .xor .u16 x y = E (BitVec.ofInt 16 x ^^^ BitVec.ofInt 16 y) := by
  show IntKind.u16.wrap ((BitVec.ofInt 16 x ^^^ BitVec.ofInt 16 y).toNat) = _
  rw [IntKind.wrap_u16]; have := (BitVec.ofInt 16 x ^^^ BitVec.ofInt 16 y).isLt; unfold E; omega
theorem bits16_andNot (x y : Int) : bits .andNot .u16 x y = E (BitVec.ofInt 16 x &&& ~~~BitVec.ofInt 16 y) := by
  show IntKind.u16.wrap ((BitVec.ofInt 16 x &&& ~~~BitVec.ofInt 16 y).toNat) = _
  rw [IntKind.wrap_u16]; have := (BitVec.ofInt 16 x &&& ~~~BitVec.ofInt 16 y).isLt; unfold E; omega
theorem bits_u16 (op : BinOp) (x y : Int) : 0 ≤ bits op .u16 x y ∧ bits op .u16 x y < 65536 := by
  unfold bits; simp only [IntKind.wrap_u16]; omega
theorem bits32_and (x y : Int) : bits .and .u32 x y = E (BitVec.ofInt 32 x &&& BitVec.ofInt 32 y) := by
  show IntKind.u32.wrap ((BitVec.ofInt 32 x &&& BitVec.ofInt 32 y).toNat) = _
  rw [IntKind.wrap_u32']; have := (BitVec.ofInt 32 x &&& BitVec.ofInt 32 y).isLt; unfold E; omega
theorem bits32_or (x y : Int) : bits .or .u32 x y = E (BitVec.ofInt 32 x ||| BitVec.ofInt 32 y) := by
  show IntKind.u32.wrap ((BitVec.ofInt 32 x ||| BitVec.ofInt 32 y).toNat) = _
  rw [IntKind.wrap_u32']; have := (BitVec.ofInt 32 x ||| BitVec.ofInt 32 y).isLt; unfold E; omega
theorem bits32_xor (x y : Int) : bits .xor .u32 x y = E (BitVec.ofInt 32 x ^^^ BitVec.ofInt 32 y) := by
  show IntKind.u32.wrap ((BitVec.ofInt 32 x ^^^ BitVec.ofInt 32 y).toNat) = _
  rw [IntKind.wrap_u32']; have := (BitVec.ofInt 32 x ^^^ BitVec.ofInt 32 y).isLt; unfold E; omega
theorem bits32_andNot (x y : Int) : bits .andNot .u32 x y = E (BitVec.ofInt 32 x &&& ~~~BitVec.ofInt 32 y) := by
  show IntKind.u32.wrap ((BitVec.ofInt 32 x &&& ~~~BitVec.ofInt 32 y).toNat) = _
  rw [IntKind.wrap_u32']; have := (BitVec.ofInt 32 x &&& ~~~BitVec.ofInt 32 y).isLt; unfold E; omega
theorem bits_u32 (op : BinOp) (x y : Int) : 0 ≤ bits op .u32 x y ∧ bits op .u32 x y < 4294967296 := by
  unfold bits; simp only [IntKind.wrap_u32']; omega
theorem bits64_and (x y : Int) : bits .and .u64 x y = E (BitVec.ofInt 64 x &&& BitVec.ofInt 64 y) := by
  show IntKind.u64.wrap ((BitVec.ofInt 64 x &&& BitVec.ofInt 64 y).toNat) = _
  rw [IntKind.wrap_u64]; have := (BitVec.ofInt 64 x &&& BitVec.ofInt 64 y).isLt; unfold E; omega
theorem bits64_or (x y : Int) : bits .or .u64 x y = E (BitVec.ofInt 64 x ||| BitVec.ofInt 64 y) := by
  show IntKind.u64.wrap ((BitVec.ofInt 64 x ||| BitVec.ofInt 64 y).toNat) = _
  rw [IntKind.wrap_u64]; have := (BitVec.ofInt 64 x ||| BitVec.ofInt 64 y).isLt; unfold E; omega
theorem bits64_xor (x y : Int) : bits .xor .u64 x y = E (BitVec.ofInt 64 x ^^^ BitVec.ofInt 64 y) := by
  show IntKind.u64.wrap ((BitVec.ofInt 64 x ^^^ BitVec.ofInt 64 y).toNat) = _
  rw [IntKind.wrap_u64]; have := (BitVec.ofInt 64 x ^^^ BitVec.ofInt 64 y).isLt; unfold E; omega
theorem bits64_andNot (x y : Int) : bits .andNot .u64 x y = E (BitVec.ofInt 64 x &&& ~~~BitVec.ofInt 64 y) := by
  show IntKind.u64.wrap ((BitVec.ofInt 64 x &&& ~~~BitVec.ofInt 64 y).toNat) = _
  rw [IntKind.wrap_u64]; have := (BitVec.ofInt 64 x &&& ~~~BitVec.ofInt 64 y).isLt; unfold E; omega
theorem bits_u64 (op : BinOp) (x y : Int) : 0 ≤ bits op .u64 x y ∧ bits op .u64 x y < 18446744073709551616 := by
  unfold bits; simp only [IntKind.wrap_u64]; omega
theorem and16_63 {x : Int} (h0 : 0 ≤ x) (h1 : x < 65536) : bits .and .u16 x 63 = x % 64 := by
  rw [u16_and x 63 h0 h1 (by decide) (by decide)]
  show ((x.toNat &&& 63 : Nat) : Int) = _
  rw [nat_mask6]; omega
end Go.Proofs.Ytbcldlbmbdfejaa
