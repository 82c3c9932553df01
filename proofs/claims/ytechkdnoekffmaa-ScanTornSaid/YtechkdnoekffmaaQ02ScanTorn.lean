/- Slices whose elements take one cell, of whatever kind; steps of append in regions that draw. No condition. -/
import Derived.Test.YtechkdnoekffmaaQ00ScanTorn
import Derived.Deep.QuietTactic
import Derived.BigQuiet
import Derived.Deep.RegionLaw
import Derived.Deep.DrawnRows
import Derived.OrdersHeld
namespace Go.Proofs.Ytechkdnoekffmaa
open Go.ChangeShapes Go.WideShapes Go.ChangeAt Go.RowKit

/-- The slice at a, of n elements, reads as xs. -/
def Sl {α : Type} (enc : α → Value) (w : World) (a : Option Addr) (n : Nat) (xs : List α) : Prop :=
  xs.length = n ∧ (0 < n → ∃ b off, a = some ⟨b, off, none⟩ ∧ b < w.heap.size ∧ ∀ i (h : i < xs.length), w.cell? ⟨b, off + i, none⟩ = some (enc xs[i]))
section
variable {α : Type} {enc : α → Value}
theorem Sl.below {w w' : World} {a : Option Addr} {n : Nat} {xs : List α} (h : Sl enc w a n xs) (hb : Below w.heap.size w w') : Sl enc w' a n xs := by
  refine ⟨h.1, fun hn => ?_⟩
  obtain ⟨b, off, ha, hlt, hc⟩ := h.2 hn
  exact ⟨b, off, ha, Nat.lt_of_lt_of_le hlt hb.size, fun i hi => by rw [hb.cell (by simpa using hlt)]; exact hc i hi⟩
theorem Sl.nil (w : World) (a : Option Addr) : Sl enc w a 0 [] := ⟨rfl, fun h => by omega⟩
theorem Sl.lit {w : World} {g n : Nat} {xs : List α} {C : Array Value} {e : TypeId} {fr : Nat × Nat} (hg : w.heap[g]? = some (.cells C e fr)) (hC : C = (xs.map enc).toArray) (hn : xs.length = n) : Sl enc w (some ⟨g, 0, none⟩) n xs := by
  subst hC
  refine ⟨hn, fun _ => ⟨g, 0, rfl, (Array.getElem?_eq_some_iff.1 hg).1, fun i hi => ?_⟩⟩
  rw [cell_of_row w g (0 + i) _ e fr hg]
  simp [hi]
theorem Sl.ofOwn {w : World} {base : Nat} {e : TypeId} {v : Value} {n : Nat} {xs : List α} (h : w.ownsRow base e 1 v n (xs.map enc)) : ∃ a cap, v = .slice a n cap ∧ Sl enc w a n xs ∧ n ≤ cap := by
  have hl : xs.length = n := by have := h.1; simpa using this
  rcases h.2 with ⟨rfl, rfl⟩ | ⟨g, cap, cur, rfl, hb, hg, hnc, _, _, ht⟩
  · exact ⟨none, 0, rfl, ⟨hl, fun h => by omega⟩, Nat.le_refl _⟩
  · refine ⟨_, cap, rfl, ⟨hl, fun _ => ⟨g, 0, rfl, (Array.getElem?_eq_some_iff.1 hg).1, fun i hi => ?_⟩⟩, hnc⟩
    have := h.cells (g := g) rfl i (enc xs[i]) (by rw [List.getElem?_map, List.getElem?_eq_getElem hi]; rfl)
    have hadd : (⟨g, 0, none⟩ : Addr).add i = ⟨g, 0 + i, none⟩ := by unfold Addr.add; split <;> simp_all
    rw [hadd] at this
    exact this
theorem own_cell {w : World} {base : Nat} {e : TypeId} {g n cap : Nat} {xs : List α} (h : w.ownsRow base e 1 (.slice (some ⟨g, 0, none⟩) n cap) n (xs.map enc)) (j : Nat) (hj : j < xs.length) :
    w.cell? ⟨g, j, none⟩ = some (enc xs[j]) := by
  have hl : xs.length = n := by have := h.1; simpa using this
  rw [h.cellAt j (by omega), List.getElem?_map, List.getElem?_eq_getElem hj]
  rfl
/-- The rest behind the first j. -/
theorem Sl.drop {w : World} {a : Option Addr} {n j : Nat} {xs : List α} (h : Sl enc w a n xs) (hj : j < n) : ∃ b off, a = some ⟨b, off, none⟩ ∧ Sl enc w (some ⟨b, off + j, none⟩) (n - j) (xs.drop j) := by
  obtain ⟨b, off, ha, hlt, hc⟩ := h.2 (by omega)
  refine ⟨b, off, ha, ⟨by simp [h.1], fun _ => ⟨b, off + j, rfl, hlt, fun i hi => ?_⟩⟩⟩
  have := hc (j + i) (by simp at hi; omega)
  rw [Nat.add_assoc, this]
  simp
theorem Sl.take {w : World} {a : Option Addr} {n j : Nat} {xs : List α} (h : Sl enc w a n xs) (hj : j ≤ n) : Sl enc w a j (xs.take j) := by
  refine ⟨by simp [h.1]; omega, fun hn => ?_⟩
  obtain ⟨b, off, ha, hlt, hc⟩ := h.2 (by omega)
  refine ⟨b, off, ha, hlt, fun i hi => ?_⟩
  rw [hc i (by simp at hi; omega)]
  simp
theorem Sl.src {P : Program} (h1 : ∀ x : α, (enc x).oneCell' = true) {w : World} {a : Option Addr} {n : Nat} {xs : List α} (h : Sl enc w a n xs) {tx e' : TypeId} (hk : P.underlying tx = some (.slice e')) (cap : Nat) : Src P 1 tx (.slice a n cap) n (xs.map enc) w := by
  obtain ⟨hl, hc⟩ := h
  have hone : ∀ u ∈ xs.map enc, u.oneCell' = true := by
    intro u hu
    obtain ⟨_, _, rfl⟩ := List.mem_map.1 hu
    exact h1 _
  by_cases hn : 0 < n
  · obtain ⟨b, off, rfl, _, hcell⟩ := hc hn
    refine Src.ofSlice w hk ⟨b, off, none⟩ n cap _ (by simp [hl]) (fun j u hu => ?_) hone
    rw [List.getElem?_map] at hu
    have hj : j < xs.length := by
      rcases Nat.lt_or_ge j xs.length with h | h
      · exact h
      · rw [List.getElem?_eq_none h] at hu; simp at hu
    rw [List.getElem?_eq_getElem hj] at hu
    simp only [Option.map_some, Option.some.injEq] at hu
    subst hu
    have hadd : (⟨b, off, none⟩ : Addr).add j = ⟨b, off + j, none⟩ := by unfold Addr.add; split <;> simp_all
    rw [hadd]
    exact hcell j hj
  · have h0 : n = 0 := by omega
    subst h0
    have hb : xs = [] := List.eq_nil_of_length_eq_zero hl
    subst hb
    cases a with
    | none => exact Src.ofNil w hk cap
    | some ad => exact Src.ofSlice w hk ad 0 cap [] rfl (fun j u hu => by simp at hu) (fun u hu => by cases hu)
end
theorem Sl.bs {w : World} {a : Option Addr} {n : Nat} {bs : List UInt8} (h : Sl encB w a n bs) : Bs w a n bs := h
theorem Bs.sl {w : World} {a : Option Addr} {n : Nat} {bs : List UInt8} (h : Bs w a n bs) : Sl encB w a n bs := h
theorem encB_cell (x : UInt8) : (encB x).oneCell' = true := rfl
/-- A number as a byte. -/
theorem encB_of {e : Int} (h0 : 0 ≤ e) (h1 : e < 256) : Value.int .u8 e = encB (UInt8.ofNat e.toNat) := by
  unfold encB
  rw [UInt8.toNat_ofNat_of_lt' (by show e.toNat < 256; omega)]
  congr 1
  omega
/-- append of bytes onto bytes of the call's own, as one step of a region that draws. -/
theorem step_app {w : World} {ops : Array Oper} {o : Oper} {a : Act} {K : Act → World → Prop} {Q : Exit → Act → World → Prop} {E : Prop} (hgd : Region.wanted o (yielded ops a.tmps) = true) (s x : Operand) (t tx : TypeId)
    (ho : o.op = .call { callee := .builtin .append, args := #[s, x], argTypes := #[t, tx] })
    (base : Nat) (e : TypeId) (i : TypeInfo) (z : Value) (size bytes : Nat) (ht : Try.prog.underlying t = some (.slice e)) (hi : Try.prog.info? e = some i) (hz : i.zero = some z)
    (hsize : i.size = size) (hby : i.bytes = bytes) (hzs : z.cells.size = size) (v : Value) (n : Nat) (xs : List Value) (hv : a.eval s = v) (hown : w.ownsRow base e size v n xs)
    (y : Value) (m : Nat) (news : List Value) (hy : a.eval x = y) (hs : Src Try.prog size tx y m news w) (h63 : n + m ≤ maxLen) (hbytes : (n + m) * bytes ≤ 140737488355328) (hbase : base ≤ w.heap.size)
    (h : ∀ v' w', w'.ownsRow base e size v' (n + m) (xs ++ news) → w.grownBy w' v.ownBlock → K (a.put o.dst v') w') : if Region.wanted o (yielded ops a.tmps) = true then Oper.wp Try.prog o a w K Q else E := by
  obtain ⟨v', w', hr, h2, h3, _⟩ := run_append_own_src (P := Try.prog) (w := w) base t tx o.type e i z size bytes ht hi hz hsize hby hzs v n xs hown y m news hs h63 hbytes hbase
  rw [if_pos hgd]
  unfold Oper.wp execOp
  simp only [ho, resolve, invoke, builtin, Sem.run_bind, Sem.run_pure, Result.andThen_ok, List.map_toArray, List.map_cons, List.map_nil, hv, hy, hr]
  exact h v' w' h2 h3

/-- A slice type t whose elements e take one cell. -/
def OneE (t e : TypeId) (z : Value) (bytes : Nat) : Prop := Try.prog.underlying t = some (.slice e) ∧ (Try.prog.info? e).map (fun i => (i.zero, i.size, i.bytes)) = some (some z, 1, bytes) ∧ z.cells.size = 1
theorem Src.lit {P : Program} {w : World} {g m c : Nat} {C : Array Value} {e tx e' : TypeId} {fr : Nat × Nat} (hg : w.heap[g]? = some (.cells C e fr)) (hm : C.size = m) (hone : C.toList.all (·.oneCell') = true) (hk : P.underlying tx = some (.slice e')) :
    Src P 1 tx (.slice (some ⟨g, 0, none⟩) m c) m C.toList w := by
  refine Src.ofSlice w hk ⟨g, 0, none⟩ m c _ (by simp [hm]) (fun j u hu => ?_) (fun u hu => List.all_eq_true.1 hone u hu)
  have hadd : (⟨g, 0, none⟩ : Addr).add j = ⟨g, j, none⟩ := by unfold Addr.add; split <;> simp_all
  rw [hadd, cell_of_row w g j _ e fr hg]
  simpa using hu
theorem wpList_app1 {t e : TypeId} {z : Value} {bytes : Nat} (hO : OneE t e z bytes) {w : World} {ops : Array Oper} {rest : List Oper} {o : Oper} {a : Act} {Q : Exit → Act → World → Prop} (hgd : Region.wanted o (yielded ops a.tmps) = true) (s x : Operand) (tx : TypeId)
    (ho : o.op = .call { callee := .builtin .append, args := #[s, x], argTypes := #[t, tx] })
    (base : Nat) (v : Value) (n : Nat) (xs : List Value) (hv : a.eval s = v) (hown : w.ownsRow base e 1 v n xs)
    (y : Value) (m : Nat) (news : List Value) (hy : a.eval x = y) (hs : Src Try.prog 1 tx y m news w) (hlen : (n + m) * bytes ≤ 140737488355328) (hm : n + m ≤ maxLen) (hbase : base ≤ w.heap.size)
    (h : ∀ v' w', w'.ownsRow base e 1 v' (n + m) (xs ++ news) → w.grownBy w' v.ownBlock → Below base w w' → wpList Try.prog ops Q rest (a.put o.dst v') w') : wpList Try.prog ops Q (o :: rest) a w := by
  obtain ⟨ht, hinf, hz⟩ := hO
  obtain ⟨i0, hi, hz0, hz1, hz2⟩ := info_parts hinf
  exact wpList_append_src hgd s x t tx ho base e i0 z 1 bytes ht hi hz0 hz1 hz2 hz v n xs hv hown y m news hy hs hm hlen hbase (fun v' w' h1 h2 _ => h v' w' h1 h2 (below_app (Below.refl _ _) hbase hown h2))
/-- append(v, x1, .., xm): what is appended lies in a block of its own, made last. -/
theorem wpList_app_lit {t e : TypeId} {z : Value} {bytes : Nat} (hO : OneE t e z bytes) {w : World} {ops : Array Oper} {rest : List Oper} {o : Oper} {a : Act} {Q : Exit → Act → World → Prop} (hgd : Region.wanted o (yielded ops a.tmps) = true) (s x : Operand)
    (ho : o.op = .call { callee := .builtin .append, args := #[s, x], argTypes := #[t, t] })
    (base : Nat) (v : Value) (n : Nat) (xs : List Value) (hv : a.eval s = v) (hown : w.ownsRow base e 1 v n xs)
    (C : Array Value) (m c : Nat) (hy : a.eval x = .slice (some ⟨w.heap.size, 0, none⟩) m c) (hC : C.size = m) (hone : C.toList.all (·.oneCell') = true) (hlen : (n + m) * bytes ≤ 140737488355328) (hm : n + m ≤ maxLen) (hbase : base ≤ w.heap.size)
    (h : ∀ v' w', w'.ownsRow base e 1 v' (n + m) (xs ++ C.toList) → (w.alloc (.cells C e)).grownBy w' v.ownBlock → Below base w w' → wpList Try.prog ops Q rest (a.put o.dst v') w') : wpList Try.prog ops Q (o :: rest) a (w.alloc (.cells C e)) :=
  wpList_app1 hO hgd s x t ho base v n xs hv (hown.alloc _) _ m _ hy (Src.lit (heap_alloc_last w _) hC hone hO.1) hlen hm (by simp; omega)
    (fun v' w' h1 h2 h3 => h v' w' h1 h2 (((Below.refl _ _).alloc hbase _).trans h3))
/-- What is returned is a slice of the call's own, from block B on, that reads as xs; nothing below B has turned. -/
def OwnRet {α : Type} (enc : α → Value) (e : TypeId) (B : Nat) (w : World) (xs : List α) (en : Ending) (w' : World) : Prop :=
  ∃ v n, en = .returned v ∧ w'.ownsRow B e 1 v n (xs.map enc) ∧ Below B w w'
theorem own_below {w w' : World} {base : Nat} {e : TypeId} {size : Nat} {v : Value} {n : Nat} {xs : List Value} (h : w.ownsRow base e size v n xs) (hb : Below w.heap.size w w') : w'.ownsRow base e size v n xs :=
  h.kept (row := none) ⟨hb.os, hb.tape, hb.output, hb.size, fun k hk _ => hb.block k hk⟩ (by by_cases h : v.ownBlock = none; exact .inl h; exact .inr h)
theorem step_app1 {t e : TypeId} {z : Value} {bytes : Nat} (hO : OneE t e z bytes) {w : World} {ops : Array Oper} {o : Oper} {a : Act} {K : Act → World → Prop} {Q : Exit → Act → World → Prop} {E : Prop} (hgd : Region.wanted o (yielded ops a.tmps) = true) (s x : Operand) (tx : TypeId)
    (ho : o.op = .call { callee := .builtin .append, args := #[s, x], argTypes := #[t, tx] })
    (base : Nat) (v : Value) (n : Nat) (xs : List Value) (hv : a.eval s = v) (hown : w.ownsRow base e 1 v n xs)
    (y : Value) (m : Nat) (news : List Value) (hy : a.eval x = y) (hs : Src Try.prog 1 tx y m news w) (hlen : (n + m) * bytes ≤ 140737488355328) (hm : n + m ≤ maxLen) (hbase : base ≤ w.heap.size)
    (h : ∀ v' w', w'.ownsRow base e 1 v' (n + m) (xs ++ news) → w.grownBy w' v.ownBlock → Below base w w' → K (a.put o.dst v') w') : if Region.wanted o (yielded ops a.tmps) = true then Oper.wp Try.prog o a w K Q else E := by
  obtain ⟨ht, hinf, hz⟩ := hO
  obtain ⟨i0, hi, hz0, hz1, hz2⟩ := info_parts hinf
  exact step_app hgd s x t tx ho base e i0 z 1 bytes ht hi hz0 hz1 hz2 hz v n xs hv hown y m news hy hs hm hlen hbase (fun v' w' h1 h2 => h v' w' h1 h2 (below_app (Below.refl _ _) hbase hown h2))
theorem step_app_lit {t e : TypeId} {z : Value} {bytes : Nat} (hO : OneE t e z bytes) {w : World} {ops : Array Oper} {o : Oper} {a : Act} {K : Act → World → Prop} {Q : Exit → Act → World → Prop} {E : Prop} (hgd : Region.wanted o (yielded ops a.tmps) = true) (s x : Operand)
    (ho : o.op = .call { callee := .builtin .append, args := #[s, x], argTypes := #[t, t] })
    (base : Nat) (v : Value) (n : Nat) (xs : List Value) (hv : a.eval s = v) (hown : w.ownsRow base e 1 v n xs)
    (C : Array Value) (m c : Nat) (hy : a.eval x = .slice (some ⟨w.heap.size, 0, none⟩) m c) (hC : C.size = m) (hone : C.toList.all (·.oneCell') = true) (hlen : (n + m) * bytes ≤ 140737488355328) (hm : n + m ≤ maxLen) (hbase : base ≤ w.heap.size)
    (h : ∀ v' w', w'.ownsRow base e 1 v' (n + m) (xs ++ C.toList) → (w.alloc (.cells C e)).grownBy w' v.ownBlock → Below base w w' → K (a.put o.dst v') w') :
    if Region.wanted o (yielded ops a.tmps) = true then Oper.wp Try.prog o a (w.alloc (.cells C e)) K Q else E :=
  step_app1 hO hgd s x t ho base v n xs hv (hown.alloc _) _ m _ hy (Src.lit (heap_alloc_last w _) hC hone hO.1) hlen hm (by simp; omega)
    (fun v' w' h1 h2 h3 => h v' w' h1 h2 (((Below.refl _ _).alloc hbase _).trans h3))
theorem bdrewN {B : Nat} {a w : World} (h : Below B a w) (n : Nat) : Below B a (w.drewN n) := ⟨h.os, h.tape, h.output, h.size, h.block⟩

set_option maxRecDepth 100000 in
/-- string(b) -/
theorem run_conv {w : World} {a : Option Addr} {n : Nat} {bs : List UInt8} (h : Sl encB w a n bs) (cap : Nat) : (convert 24 9 (.slice a n cap)).run Try.prog w = .ok (.string ⟨bs.toArray⟩) w := by
  by_cases hn : 0 < n
  · obtain ⟨b, off, rfl, hlt, hc⟩ := h.2 hn
    have h1 := run_convert_bytes_arg (P := Try.prog) w 24 5 Try.underlying24 Try.underlying5 b off n cap (bs.map fun x => (x.toNat : Int)) (by simp [h.1])
      (fun i hi => by
        have hl : i < bs.length := by rw [h.1]; exact hi
        rw [hc i hl]
        simp [List.getD, hl, encB]) 9 Try.underlying9
    rw [h1]
    congr 2
    unfold strOfNums
    congr 2
    rw [List.map_map]
    exact (List.map_congr_left (fun x _ => by simp)).trans (List.map_id bs)
  · have h0 : n = 0 := by omega
    subst h0
    have hb : bs = [] := List.eq_nil_of_length_eq_zero h.1
    subst hb
    rw [run_convert_bytes_string w 24 9 5 a 0 cap Try.underlying24 Try.underlying5 Try.underlying9]
    cases a with
    | none => simp [Conv.bytesToString]; rfl
    | some ad => rw [run_bytesToString w ad 0 cap [] (by simp [loadCells, loadCellsFrom])]; rfl
end Go.Proofs.Ytechkdnoekffmaa
/- num: what Put and Get compute. No program in sight. -/
namespace Go.Proofs.Ytechkdnoekffmaa
/-- A number's bytes. -/
def putB (v n : Nat) : List UInt8 := (List.range n).map fun i => UInt8.ofNat (v / 256 ^ (n - 1 - i) % 256)
theorem putB_length (v n : Nat) : (putB v n).length = n := by simp [putB]
theorem putB_take (v n k : Nat) (h : k < n) : (putB v n).take (k + 1) = (putB v n).take k ++ [UInt8.ofNat (v / 256 ^ (n - 1 - k) % 256)] := by
  rw [List.take_succ_eq_append_getElem (by rw [putB_length]; exact h)]
  simp [putB]
theorem encB_byte (x : Nat) : encB (UInt8.ofNat (x % 256)) = .int .u8 ((x : Int) % 256) := by
  unfold encB
  rw [UInt8.toNat_ofNat_of_lt' (by show x % 256 < 256; omega)]
  rw [Int.natCast_emod]; rfl
/-- The number of bytes. -/
def getN (bs : List UInt8) : Nat := bs.foldl (fun v c => v * 256 + c.toNat) 0
theorem getN_take (bs : List UInt8) (k : Nat) (h : k < bs.length) : getN (bs.take (k + 1)) = getN (bs.take k) * 256 + bs[k].toNat := fold_take _ _ bs k h
theorem getN_snoc (bs : List UInt8) (c : UInt8) : getN (bs ++ [c]) = getN bs * 256 + c.toNat := by simp [getN]
theorem getN_lt (bs : List UInt8) : getN bs < 256 ^ bs.length := by
  generalize hn : bs.length = n
  induction n generalizing bs with
  | zero => have : bs = [] := List.length_eq_zero_iff.1 hn; subst this; simp [getN]
  | succ n ih =>
    have h1 : bs ≠ [] := by intro h; rw [h] at hn; simp at hn
    obtain ⟨as', c, rfl⟩ : ∃ as' c, bs = as' ++ [c] := ⟨bs.dropLast, bs.getLast h1, (List.dropLast_concat_getLast h1).symm⟩
    have h2 := ih as' (by simpa using hn)
    rw [getN_snoc, Nat.pow_succ]
    have := c.toNat_lt
    omega
theorem getN_take_lt (bs : List UInt8) (k : Nat) (h : k ≤ 7) : getN (bs.take k) < 72057594037927936 := by
  have h1 := getN_lt (bs.take k)
  have h2 : 256 ^ (bs.take k).length ≤ 256 ^ 7 := Nat.pow_le_pow_right (by decide) (by simp; omega)
  omega
theorem or64_join {x y : Nat} (hx : x % 256 = 0) (hy : y < 256) (h : x + y < 18446744073709551616) : bits .or .u64 (x : Int) (y : Int) = (x : Int) + y := by
  rw [u64_or_nat x y (by omega) (by omega), nat_join 8 x y hx hy]
  push_cast; rfl
/-- What Get tells. -/
def getR (bs : List UInt8) (at_ n : Int) : Int × Int :=
  if n < 1 ∨ 8 < n then (0, 1)
  else if at_ < 0 ∨ (bs.length : Int) < at_ ∨ (bs.length : Int) - at_ < n then (0, 6)
  else (getN ((bs.drop at_.toNat).take n.toNat), 0)
theorem shr_byte (v e : Nat) : ((v : Int) / 2 ^ (8 * e)) = ((v / 256 ^ e : Nat) : Int) := by
  rw [Int.natCast_ediv, Int.natCast_pow, Int.pow_mul]; rfl
theorem tmod_byte (x : Nat) : ((x : Nat) : Int).tmod 256 % 256 = (x : Int) % 256 := by
  rw [Int.tmod_eq_emod_of_nonneg (by omega), Int.emod_emod]
theorem putB_take1 (v n : Nat) (h : 0 < n) : (putB v n).take (0 + 1) = [UInt8.ofNat (v / 256 ^ (n - 1) % 256)] := by
  rw [putB_take v n 0 h]; rfl
end Go.Proofs.Ytechkdnoekffmaa
/- append to a slice that is full. No condition. -/
namespace Go.Proofs.Ytechkdnoekffmaa
open Go.ChangeShapes Go.WideShapes Go.ChangeAt Go.RowKit
theorem run_append_full {t e : TypeId} {z : Value} {bytes : Nat} (hO : OneE t e z bytes) {α : Type} {enc : α → Value} (base : Nat) {w : World} (tx ty : TypeId) {a : Option Addr} {n cap : Nat} {xs : List α} (hsl : Sl enc w a n xs)
    (y : Value) (m : Nat) (news : List Value) (hs : Src Try.prog 1 tx y m news w) (hfull : cap < n + m) (hnc : n ≤ cap) (hlen : (n + m) * bytes ≤ 140737488355328) (hm : n + m ≤ maxLen) (hbase : base ≤ w.heap.size) :
    ∃ v' w', (Builtin.append_ #[t, tx] ty #[.slice a n cap, y]).run Try.prog w = .ok v' w' ∧ w'.ownsRow base e 1 v' (n + m) (xs.map enc ++ news) ∧ Below base w w' := by
  obtain ⟨ht, hinf, hz⟩ := hO
  obtain ⟨i, hi, hz0, hz1, hz2⟩ := info_parts hinf
  have hl := hs.newsLen
  have hfc : (Builtin.firstCells i.size n (.slice a n cap)).run Try.prog w.drew = .ok (xs.map enc).toArray w.drew := by
    rw [hz1]
    by_cases hn : 0 < n
    · obtain ⟨b, off, rfl, _, hc⟩ := hsl.2 hn
      refine run_firstCells_some w.drew 1 n _ n cap _ (by simp [hsl.1]) (fun j u hu => ?_)
      rw [List.getElem?_map] at hu
      have hj : j < xs.length := by
        rcases Nat.lt_or_ge j xs.length with h | h
        · exact h
        · rw [List.getElem?_eq_none h] at hu; simp at hu
      rw [List.getElem?_eq_getElem hj] at hu
      simp only [Option.map_some, Option.some.injEq] at hu
      subst hu
      have hadd : (⟨b, off, none⟩ : Addr).add j = ⟨b, off + j, none⟩ := by unfold Addr.add; split <;> simp_all
      rw [hadd]
      exact hc j hj
    · have h0 : n = 0 := by omega
      subst h0
      have hx : xs = [] := List.eq_nil_of_length_eq_zero hsl.1
      subst hx
      cases a with
      | none => simp [Builtin.firstCells]
      | some ad => exact run_firstCells_some w.drew 1 0 ad 0 cap [] rfl (fun j u hu => by simp at hu)
  have hsmall : n + m ≤ 9223372036854775807 := by simp only [maxLen] at hm; omega
  subst hz2
  have hr := run_append_grow_src (P := Try.prog) w t tx ty e i z ht hi hz0 a n cap (xs.map enc) hfc y m news (by rw [hz1]; exact hs) hfull (by omega) (growslice_fits (by omega) hlen)
  refine ⟨_, _, hr, ?_, ?_⟩
  · have hlen2 : (xs.map enc ++ news).length = (n + m) * 1 := by simp [hsl.1, hl]
    have hge := grownCap_ge w (n + m) cap e
    have hcm : grownCap w (n + m) cap e ≤ maxLen := grownCap_le_maxLen w (n + m) cap e hm
    refine ⟨hlen2, .inr ⟨w.heap.size, _, _, rfl, hbase, heap_alloc_new w.drew _, hge, hcm, ?_, ?_⟩⟩
    · simp only [Array.size_append, List.size_toArray, size_zeroCells, hz, hlen2]
      omega
    · simp only [Array.toList_append]
      rw [← hlen2]
      exact List.take_left
  · exact ⟨rfl, rfl, rfl, by simp, fun k hk => Below.heap_alloc w.drew _ k (by show k < w.heap.size; omega)⟩
theorem wpList_app_full {t e : TypeId} {z : Value} {bytes : Nat} (hO : OneE t e z bytes) {α : Type} {enc : α → Value} {w : World} {ops : Array Oper} {rest : List Oper} {o : Oper} {a : Act} {Q : Exit → Act → World → Prop} (hgd : Region.wanted o (yielded ops a.tmps) = true) (s x : Operand) (tx : TypeId)
    (ho : o.op = .call { callee := .builtin .append, args := #[s, x], argTypes := #[t, tx] })
    (base : Nat) (ad : Option Addr) (n cap : Nat) (xs : List α) (hv : a.eval s = .slice ad n cap) (hsl : Sl enc w ad n xs)
    (y : Value) (m : Nat) (news : List Value) (hy : a.eval x = y) (hs : Src Try.prog 1 tx y m news w) (hfull : cap < n + m) (hnc : n ≤ cap) (hlen : (n + m) * bytes ≤ 140737488355328) (hm : n + m ≤ maxLen) (hbase : base ≤ w.heap.size)
    (h : ∀ v' w', w'.ownsRow base e 1 v' (n + m) (xs.map enc ++ news) → Below base w w' → wpList Try.prog ops Q rest (a.put o.dst v') w') : wpList Try.prog ops Q (o :: rest) a w := by
  obtain ⟨v', w', hr, h2, h3⟩ := run_append_full hO base tx o.type hsl y m news hs hfull hnc hlen hm hbase
  refine wpList_step fun K hK => ?_
  rw [if_pos hgd]
  unfold Oper.wp execOp
  simp only [ho, resolve, invoke, builtin, Sem.run_bind, Sem.run_pure, Result.andThen_ok, List.map_toArray, List.map_cons, List.map_nil, hv, hy, hr]
  exact hK _ _ (h v' w' h2 h3)
theorem wpList_app_full_lit {t e : TypeId} {z : Value} {bytes : Nat} (hO : OneE t e z bytes) {α : Type} {enc : α → Value} {w : World} {ops : Array Oper} {rest : List Oper} {o : Oper} {a : Act} {Q : Exit → Act → World → Prop} (hgd : Region.wanted o (yielded ops a.tmps) = true) (s x : Operand)
    (ho : o.op = .call { callee := .builtin .append, args := #[s, x], argTypes := #[t, t] })
    (base : Nat) (ad : Option Addr) (n cap : Nat) (xs : List α) (hv : a.eval s = .slice ad n cap) (hsl : Sl enc w ad n xs)
    (C : Array Value) (m c : Nat) (hy : a.eval x = .slice (some ⟨w.heap.size, 0, none⟩) m c) (hC : C.size = m) (hone : C.toList.all (·.oneCell') = true) (hfull : cap < n + m) (hnc : n ≤ cap) (hlen : (n + m) * bytes ≤ 140737488355328) (hm : n + m ≤ maxLen) (hbase : base ≤ w.heap.size)
    (h : ∀ v' w', w'.ownsRow base e 1 v' (n + m) (xs.map enc ++ C.toList) → Below base w w' → wpList Try.prog ops Q rest (a.put o.dst v') w') : wpList Try.prog ops Q (o :: rest) a (w.alloc (.cells C e)) :=
  wpList_app_full hO hgd s x t ho base ad n cap xs hv (hsl.below ((Below.refl _ _).alloc (Nat.le_refl _) _)) _ m _ hy (Src.lit (heap_alloc_last w _) hC hone hO.1) hfull hnc hlen hm (by simp; omega)
    (fun v' w' h1 h3 => h v' w' h1 (((Below.refl _ _).alloc hbase _).trans h3))
theorem own_mono {w : World} {B B' : Nat} {e : TypeId} {size : Nat} {v : Value} {n : Nat} {xs : List Value} (h : w.ownsRow B e size v n xs) (hB : B' ≤ B) : w.ownsRow B' e size v n xs := by
  obtain ⟨h1, h2⟩ := h
  refine ⟨h1, ?_⟩
  rcases h2 with h2 | ⟨g, cap, cur, hv, hb, hg, h3⟩
  · exact .inl h2
  · exact .inr ⟨g, cap, cur, hv, Nat.le_trans hB hb, hg, h3⟩
theorem results_cell_row_tmp {P : Program} {fn : Func} {p u : Tmp} {ty : TypeId} (h : fn.results = #[.cell p ty, .tmp u]) (tmps : Array Value) (w : World) (g : Nat) (t : TypeId) (cs : Array Value) (fr : Nat × Nat) (d : TypeDesc)
    (hp : tmps.getD p undef = .pointer (some ⟨g, 0, none⟩)) (hg : w.heap[g]? = some (.cells cs t fr))
    (hu : P.underlying ty = some d) (hd : (match d with | .struct _ | .array _ _ => true | _ => false) = true) (hi : (P.info? ty).map (·.size) = some cs.size) :
    (results fn tmps).run P w = .ok (.tuple #[.agg cs, tmps.getD u undef]) w := by
  rw [results_cell_tmp h, hp]
  simp [asAddr, run_loadVar_row w g t ty cs fr d hg hu hd hi, Result.andThen]
theorem Row.cap {k : IntKind} {w : World} {a : Option Addr} {len cap : Nat} {zs : List Int} (h : IsRow k w a len cap zs) : len ≤ cap := by
  rcases h with ⟨rfl, rfl, rfl, rfl⟩ | ⟨x, rfl, hl, hm, hz, hc, hwf⟩
  · exact Nat.le_refl _
  · exact hl
end Go.Proofs.Ytechkdnoekffmaa
/- num: the walks of Get and Put, and the reference's. No condition. -/
namespace Go.Proofs.Ytechkdnoekffmaa
open Go.ChangeShapes Go.WideShapes Go.ChangeAt Go.RowKit
theorem oneN : OneE 24 5 (.int .u8 0) 1 := ⟨Try.underlying24, by kernel_rfl, rfl⟩

def IntR (n : Int) : Prop := -9223372036854775808 ≤ n ∧ n ≤ 9223372036854775807

set_option maxRecDepth 100000 in
set_option maxHeartbeats 1000000 in
theorem right_any (w : World) (n : Int) : Calls Try.prog 31 #[.int .i64 n] w fun e w' => e = .returned (.bool (decide (1 ≤ n ∧ n ≤ 8))) ∧ w = w' := by
  by_cases h1 : 1 ≤ n
  · by_cases h2 : n ≤ 8
    · rw [decide_eq_true ⟨h1, h2⟩]
      go_enter Try.func31, Try.ntmps31
      go_wp2
      go_ret
      exact ⟨rfl, rfl⟩
    · rw [decide_eq_false (by omega)]
      go_enter Try.func31, Try.ntmps31
      go_wp2
      go_ret
      exact ⟨rfl, rfl⟩
  · rw [decide_eq_false (by omega)]
    go_enter Try.func31, Try.ntmps31
    go_wp2
    go_ret
    exact ⟨rfl, rfl⟩

set_option maxRecDepth 100000 in
set_option maxHeartbeats 2000000 in
theorem Get_any (w : World) (a : Option Addr) (len cap : Nat) (bs : List UInt8) (i n : Int) (hs : Sl encB w a len bs) (hl : len ≤ 1048576) (hcap : len ≤ cap) (hi : IntR i) (hn : IntR n) :
    Calls Try.prog 33 #[.slice a len cap, .int .i64 i, .int .i64 n] w fun e w' => e = .returned (.tuple #[.int .u64 (getR bs i n).1, .int .i64 (getR bs i n).2]) ∧ w = w' := by
  have hbl := hs.1
  have HS := Lib.hid hs
  obtain ⟨i1, i2⟩ := hi
  obtain ⟨n1, n2⟩ := hn
  clear hs
  by_cases c1 : n < 1 ∨ 8 < n
  · have hR : getR bs i n = (0, 1) := by unfold getR; rw [if_pos c1]
    rw [hR]
    have hd : decide (1 ≤ n ∧ n ≤ 8) = false := decide_eq_false (by omega)
    clear hR
    go_enter Try.func33, Try.ntmps33
    go_wp2_with fail
    refine (right_any _ n).mono ?_
    rw [hd]
    rintro e w' ⟨rfl, rfl⟩
    go_wp2
    go_ret2
    exact ⟨rfl, rfl⟩
  have hd : decide (1 ≤ n ∧ n ≤ 8) = true := decide_eq_true (by omega)
  by_cases c2 : i < 0 ∨ (len : Int) < i ∨ (len : Int) - i < n
  · have hR : getR bs i n = (0, 6) := by unfold getR; rw [if_neg c1, hbl, if_pos c2]
    rw [hR]
    clear hR
    by_cases d1 : i < 0
    · have e1 := decide_eq_true d1
      go_enter Try.func33, Try.ntmps33
      go_wp2_with fail
      refine (right_any _ n).mono ?_
      rw [hd]
      rintro e w' ⟨rfl, rfl⟩
      go_wp2
      go_ret2
      exact ⟨rfl, rfl⟩
    have e1 := decide_eq_false d1
    by_cases d2 : (len : Int) < i
    · have e2 := decide_eq_true d2
      go_enter Try.func33, Try.ntmps33
      go_wp2_with fail
      refine (right_any _ n).mono ?_
      rw [hd]
      rintro e w' ⟨rfl, rfl⟩
      go_wp2
      go_ret2
      exact ⟨rfl, rfl⟩
    have e2 := decide_eq_false d2
    have e3 := decide_eq_true (show (len : Int) - i < n by omega)
    go_enter Try.func33, Try.ntmps33
    go_wp2_with fail
    refine (right_any _ n).mono ?_
    rw [hd]
    rintro e w' ⟨rfl, rfl⟩
    go_wp2
    go_ret2
    exact ⟨rfl, rfl⟩
  · have hR : getR bs i n = (((getN ((bs.drop i.toNat).take n.toNat) : Nat) : Int), (0 : Int)) := by unfold getR; rw [if_neg c1, hbl, if_neg c2]
    rw [hR]
    clear hR
    obtain ⟨j, rfl⟩ : ∃ j : Nat, i = j := ⟨i.toNat, by omega⟩
    obtain ⟨m, rfl⟩ : ∃ m : Nat, n = m := ⟨n.toNat, by omega⟩
    have j1 : j + m ≤ len := by omega
    have m1 : 1 ≤ m := by omega
    have m2 : m ≤ 8 := by omega
    clear i1 i2 n1 n2 c1 c2
    simp only [Int.toNat_natCast]
    obtain ⟨b, off, rfl, hbw, hc⟩ := HS.out.2 (by omega)
    have HC := Lib.hid hc
    obtain ⟨cs, hcs⟩ : ∃ cs, cs = (bs.drop j).take m := ⟨_, rfl⟩
    rw [← hcs]
    have HCS := Lib.hid hcs
    have hcl : cs.length = m := by rw [hcs]; simp; omega
    have HCL := Lib.hid hcl
    clear hcs hc hcl
    have e1 := decide_eq_false (show ¬ (j : Int) < 0 by omega)
    have e2 := decide_eq_false (show ¬ (len : Int) < (j : Int) by omega)
    have e3 := decide_eq_false (show ¬ (len : Int) - (j : Int) < (m : Int) by omega)
    have g1 : (0 : Int) ≤ (j : Int) := by omega
    have g2 : (j : Int) ≤ (len : Int) := by omega
    have g3 : (0 : Int) ≤ (m : Int) := by omega
    have g4 : (m : Int) ≤ (cap : Int) - (j : Int) := by omega
    have g5 : (len : Int) ≤ (cap : Int) := by omega
    go_enter Try.func33, Try.ntmps33
    go_wp2_with fail
    refine (right_any _ m).mono ?_
    rw [hd]
    rintro e w' ⟨rfl, rfl⟩
    go_wp2_with fail
    go_loopw [8, 38] (fun v i wr => ∃ k x : Nat, k ≤ m ∧ i = .int .i64 k ∧ v = .int .u64 x ∧ Hid (x = getN (cs.take k)) ∧ wr = w) (fun _ i _ => m - (intOf i).toNat)
    case atStart => exact ⟨0, 0, Nat.zero_le _, rfl, rfl, rfl, rfl⟩
    case round =>
      obtain ⟨k, x, hk, rfl, rfl, HX, rfl⟩ := hrel
      by_cases hlt : k < m
      · have hck : wr.cell? ⟨b, off + j + k, none⟩ = some (.int .u8 ((cs[k]'(by rw [HCL.out]; exact hlt)).toNat : Int)) := by
          have h1 := HC.out (j + k) (by omega)
          rw [Nat.add_assoc, h1]
          simp only [HCS.out, List.getElem_take, List.getElem_drop]
          rfl
        obtain ⟨c, hcc⟩ : ∃ c, c = (cs[k]'(by rw [HCL.out]; exact hlt)).toNat := ⟨_, rfl⟩
        rw [← hcc] at hck
        have hcl : c < 256 := by rw [hcc]; exact (cs[k]'(by rw [HCL.out]; exact hlt)).toNat_lt
        have HCC := Lib.hid hcc
        clear hcc
        have hx7 : x < 72057594037927936 := by rw [HX.out]; exact getN_take_lt _ _ (by omega)
        have hor := or64_join (x := x * 256) (y := c) (by omega) hcl (by omega)
        rw [show ((x * 256 : Nat) : Int) = (x : Int) * 256 by omega] at hor
        go_wp2
        go_roundw
        case rel => exact ⟨k + 1, x * 256 + c, by omega, by go_num, by go_num, by show _ = _; rw [getN_take cs k (by rw [HCL.out]; exact hlt), ← HX.out, ← HCC.out], trivial⟩
        case measure => simp [intOf]; omega
      · obtain rfl : k = m := by omega
        go_wp2
        go_ret2
        have h1 := HX.out
        rw [List.take_of_length_le (by rw [HCL.out]; omega)] at h1
        rw [h1]
        exact ⟨rfl, rfl⟩

set_option maxRecDepth 100000 in
set_option maxHeartbeats 2000000 in
theorem Put_any (w : World) (a : Option Addr) (len cap : Nat) (bs : List UInt8) (v n : Nat) (hs : Sl encB w a len bs) (hl : len ≤ 1048576) (hcap : len ≤ cap) (hv : v < 18446744073709551616) (n1 : 1 ≤ n) (n2 : n ≤ 8) :
    Calls Try.prog 23 #[.slice a len cap, .int .u64 v, .int .i64 n] w (OwnRet encB 5 w.heap.size w (bs ++ putB v n)) := by
  have HS := Lib.hid hs
  clear hs
  have hd : decide (1 ≤ (n : Int) ∧ (n : Int) ≤ 8) = true := decide_eq_true (by omega)
  have g5 : (len : Int) ≤ (cap : Int) := by omega
  go_enter Try.func23, Try.ntmps23
  go_wp2_with fail
  refine (right_any _ n).mono ?_
  rw [hd]
  rintro e w' ⟨rfl, rfl⟩
  go_wp2_with fail
  go_loopw [0, 19] (fun s i wr => ∃ k : Nat, k ≤ n ∧ i = .int .i64 k ∧ (k = 0 ∧ s = .slice a len len ∨ 0 < k ∧ Hid (wr.ownsRow w.heap.size 5 1 s (len + k) ((bs ++ (putB v n).take k).map encB))) ∧ Hid (Below w.heap.size w wr)) (fun _ i _ => n - (intOf i).toNat)
  case atStart => exact ⟨0, Nat.zero_le _, rfl, .inl ⟨rfl, rfl⟩, Below.refl _ _⟩
  case round =>
    obtain ⟨k, hk, rfl, hor, HW⟩ := hrel
    by_cases hlt : k < n
    · rcases hor with ⟨rfl, rfl⟩ | ⟨hk0, HO⟩
      · go_wp2_with (at_builtin; refine wpList_app_full_lit (enc := encB) oneN rfl _ _ rfl w.heap.size a len len bs rfl (HS.out.below HW.out) _ 1 _ rfl rfl rfl (by omega) (Nat.le_refl _) (by omega) (by unfold maxLen; omega) HW.out.size ?_; intro v1 w1 hown1 hb1; rw [shr_byte] at hown1; have HO1 := Lib.hid hown1; have HB1 := Lib.hid (HW.out.trans hb1); clear hown1 hb1)
        go_roundw
        case rel => exact ⟨1, by omega, by go_num, .inr ⟨by omega, by rw [putB_take1 v n (by omega), List.map_append]; simp only [List.map_cons, List.map_nil, encB_byte]; exact HO1⟩, HB1⟩
        case measure => simp [intOf]; omega
      · go_wp2_with (at_builtin; refine wpList_app_lit oneN rfl _ _ rfl w.heap.size _ _ _ rfl HO.out _ 1 _ rfl rfl rfl (by omega) (by unfold maxLen; omega) HW.out.size ?_; intro v1 w1 hown1 hg1 hb1; rw [shr_byte] at hown1; have HO1 := Lib.hid hown1; have HB1 := Lib.hid (HW.out.trans hb1); clear hown1 hb1 hg1)
        go_roundw
        case rel => exact ⟨k + 1, by omega, by go_num, .inr ⟨by omega, by rw [putB_take v n k hlt, ← List.append_assoc, List.map_append (l₁ := bs ++ _)]; simp only [List.map_cons, List.map_nil, encB_byte]; exact HO1⟩, HB1⟩
        case measure => simp [intOf]; omega
    · obtain rfl : k = n := by omega
      rcases hor with ⟨rfl, rfl⟩ | ⟨hk0, HO⟩
      · omega
      go_wp2
      go_ret
      exact ⟨_, _, rfl, by have h := HO.out; rwa [List.take_of_length_le (by rw [putB_length]; omega)] at h, HW.out⟩

set_option maxRecDepth 100000 in
set_option maxHeartbeats 2000000 in
theorem Put_odd (w : World) (a : Option Addr) (len cap : Nat) (v n : Int) (hcap : len ≤ cap) (hn : n < 1 ∨ 8 < n) :
    Calls Try.prog 23 #[.slice a len cap, .int .u64 v, .int .i64 n] w fun e w' => e = .returned (.slice a len len) ∧ w = w' := by
  have hd : decide (1 ≤ n ∧ n ≤ 8) = false := decide_eq_false (by omega)
  have g5 : (len : Int) ≤ (cap : Int) := by omega
  go_enter Try.func23, Try.ntmps23
  go_wp2_with fail
  refine (right_any _ n).mono ?_
  rw [hd]
  rintro e w' ⟨rfl, rfl⟩
  go_wp2
  go_ret
  exact ⟨rfl, rfl⟩

set_option maxRecDepth 100000 in
set_option maxHeartbeats 2000000 in
theorem refPut_any (w : World) (a : Option Addr) (len cap : Nat) (bs : List UInt8) (v n : Nat) (hs : Sl encB w a len bs) (hl : len ≤ 1048576) (hv : v < 18446744073709551616) (n1 : 1 ≤ n) (n2 : n ≤ 8) :
    Calls Try.prog 12 #[.slice a len cap, .int .u64 v, .int .i64 n] w (OwnRet encB 5 w.heap.size w (bs ++ putB v n)) := by
  have HS := Lib.hid hs
  have HO0 := Lib.hid (own_empty w w.heap.size 5 (Nat.le_refl _))
  have HB0 := Lib.hid ((Below.refl w.heap.size w).alloc (Nat.le_refl _) (.cells #[] 5))
  clear hs
  have e1 := decide_eq_false (show ¬ (n : Int) < 1 by omega)
  have e2 := decide_eq_false (show ¬ 8 < (n : Int) by omega)
  go_enter Try.func12, Try.ntmps12
  go_wp2_with (at_builtin; refine wpList_app1 oneN rfl _ _ _ rfl w.heap.size _ _ _ rfl HO0.out _ _ _ rfl ((HS.out.below HB0.out).src encB_cell Try.underlying24 _) (by omega) (by unfold maxLen; omega) HB0.out.size ?_; intro v2 w2 hown2 hg2 hb2; have HO2 := Lib.hid hown2; have HB2 := Lib.hid (HB0.out.trans hb2); clear hown2 hg2 hb2)
  go_loopw [7, 8] (fun s i wr => ∃ k : Nat, k ≤ n ∧ i = .int .i64 ((n : Int) - 1 - k) ∧ Hid (wr.ownsRow w.heap.size 5 1 s (len + k) ((bs ++ (putB v n).take k).map encB)) ∧ Hid (Below w.heap.size w wr)) (fun _ i _ => (intOf i + 1).toNat)
  case atStart => exact ⟨0, Nat.zero_le _, by go_num, by have h := HO2.out; simp only [Nat.zero_add, List.map_nil, List.nil_append] at h; simp only [Nat.add_zero, List.take_zero, List.append_nil]; exact h, HB2⟩
  case round =>
    obtain ⟨k, hk, rfl, HO, HW⟩ := hrel
    by_cases hlt : k < n
    · go_wp2_with (at_builtin; refine wpList_app_lit oneN rfl _ _ rfl w.heap.size _ _ _ rfl HO.out _ 1 _ rfl rfl rfl (by omega) (by unfold maxLen; omega) HW.out.size ?_; intro v1 w1 hown1 hg1 hb1; rw [shr_byte, tmod_byte] at hown1; have HO1 := Lib.hid hown1; have HB1 := Lib.hid (HW.out.trans hb1); clear hown1 hb1 hg1)
      go_roundw
      case rel => exact ⟨k + 1, by omega, by go_num, by rw [putB_take v n k hlt, ← List.append_assoc, List.map_append (l₁ := bs ++ _)]; simp only [List.map_cons, List.map_nil, encB_byte]; exact HO1, HB1⟩
      case measure => simp [intOf]; omega
    · obtain rfl : k = n := by omega
      go_wp2
      go_ret
      exact ⟨_, _, rfl, by have h := HO.out; rwa [List.take_of_length_le (by rw [putB_length]; omega)] at h, HW.out⟩

set_option maxRecDepth 100000 in
set_option maxHeartbeats 2000000 in
theorem refPut_odd (w : World) (a : Option Addr) (len cap : Nat) (bs : List UInt8) (v n : Int) (hs : Sl encB w a len bs) (hl : len ≤ 1048576) (hn : n < 1 ∨ 8 < n) :
    Calls Try.prog 12 #[.slice a len cap, .int .u64 v, .int .i64 n] w (OwnRet encB 5 w.heap.size w bs) := by
  have HS := Lib.hid hs
  have HO0 := Lib.hid (own_empty w w.heap.size 5 (Nat.le_refl _))
  have HB0 := Lib.hid ((Below.refl w.heap.size w).alloc (Nat.le_refl _) (.cells #[] 5))
  clear hs
  by_cases d1 : n < 1
  · have e1 := decide_eq_true d1
    go_enter Try.func12, Try.ntmps12
    go_wp2_with (at_builtin; refine wpList_app1 oneN rfl _ _ _ rfl w.heap.size _ _ _ rfl HO0.out _ _ _ rfl ((HS.out.below HB0.out).src encB_cell Try.underlying24 _) (by omega) (by unfold maxLen; omega) HB0.out.size ?_; intro v2 w2 hown2 hg2 hb2; have HO2 := Lib.hid hown2; have HB2 := Lib.hid (HB0.out.trans hb2); clear hown2 hg2 hb2)
    go_ret
    exact ⟨_, _, rfl, HO2.out, HB2.out⟩
  · have e1 := decide_eq_false d1
    have e2 := decide_eq_true (show 8 < n by omega)
    go_enter Try.func12, Try.ntmps12
    go_wp2_with (at_builtin; refine wpList_app1 oneN rfl _ _ _ rfl w.heap.size _ _ _ rfl HO0.out _ _ _ rfl ((HS.out.below HB0.out).src encB_cell Try.underlying24 _) (by omega) (by unfold maxLen; omega) HB0.out.size ?_; intro v2 w2 hown2 hg2 hb2; have HO2 := Lib.hid hown2; have HB2 := Lib.hid (HB0.out.trans hb2); clear hown2 hg2 hb2)
    go_ret
    exact ⟨_, _, rfl, HO2.out, HB2.out⟩
end Go.Proofs.Ytechkdnoekffmaa
/- A region that draws its order, walked once: in an order of the prover's choosing; what only reads comes as early as it may, what makes memory comes up alone. Over any program. -/
namespace Go.Proofs.Ytechkdnoekffmaa
open Go.RowKit

/-- One operation: 'b' true: it yields one value in every world that meets S. 'b' false: it comes up alone. -/
def lexOp (P : Program) (ops : Array Oper) (Q : Exit → Act → World → Prop) (S : World → Prop) (i : Nat) (b : Bool) (K : Act → World → Prop) (a : Act) (w : World) : Prop :=
  match ops[i]? with
  | none => False
  | some o =>
    if Region.wanted o (yielded ops a.tmps) = true then
      (match b with
        | true => ∃ v, (∀ w', S w' → (execOp a.eval o).run P w' = .ok (.value v) w') ∧ S w ∧ K (a.put o.dst v) w
        | false => o.wp P a w (fun a' w' => S w' ∧ K a' w') Q)
    else S w ∧ K (a.put o.dst undef) w
def wpLex (P : Program) (ops : Array Oper) (Q : Exit → Act → World → Prop) (S : World → Prop) : List (Nat × Bool) → Act → World → Prop
  | [], a, w => Q .normal a w
  | (i, b) :: l, a, w => lexOp P ops Q S i b (wpLex P ops Q S l) a w
/-- May the operations come up in this order, and is that all that is to be looked at? -/
def checkLex (ops : Array Oper) : Array Bool → List (Nat × Bool) → Bool
  | listed, [] => (Region.ready .any ops listed).isEmpty
  | listed, (i, b) :: l => (if b then Region.free .any ops listed i && (Region.ready .any ops listed).contains i else Region.ready .any ops listed == [i]) && checkLex ops (listed.setIfInBounds i true) l

theorem lex_sound {P : Program} {ops : Array Oper} {Q : Exit → Act → World → Prop} {S : World → Prop} (hs : Region.noSelect ops = true) (hQ : ∀ c a d v w, Q (.panic c) (a.put d v) w → Q (.panic c) a w) :
    ∀ (l : List (Nat × Bool)) (listed : Array Bool) (a : Act) (w : World), checkLex ops listed l = true → wpLex P ops Q S l a w → wpAnyH P .any ops Q S l.length listed a w := by
  intro l
  induction l with
  | nil =>
    intro listed a w hc h
    exact ⟨by simpa [checkLex] using hc, h⟩
  | cons p l ih =>
    obtain ⟨i, b⟩ := p
    intro listed a w hc h
    simp only [checkLex, Bool.and_eq_true] at hc
    obtain ⟨hc1, hc2⟩ := hc
    change lexOp P ops Q S i b (wpLex P ops Q S l) a w at h
    unfold lexOp at h
    cases ho : ops[i]? with
    | none => rw [ho] at h; exact h.elim
    | some o =>
      rw [ho] at h
      simp only at h
      cases b with
      | true =>
        simp only [if_true, Bool.and_eq_true] at hc1
        obtain ⟨hf, hr⟩ := hc1
        by_cases hw : Region.wanted o (yielded ops a.tmps) = true
        · rw [if_pos hw] at h
          obtain ⟨v, h1, h2, h3⟩ := h
          exact wpAnyH_take ho hs hf hr (fun c a w => hQ c a _ _ w) (.inl ⟨hw, h1⟩) h2 (ih _ _ _ hc2 h3)
        · rw [if_neg hw] at h
          exact wpAnyH_take ho hs hf hr (fun c a w => hQ c a _ _ w) (.inr ⟨by simpa using hw, rfl⟩) h.1 (ih _ _ _ hc2 h.2)
      | false =>
        simp only [Bool.false_eq_true, if_false] at hc1
        have hr : Region.ready .any ops listed = [i] := by simpa using hc1
        refine wpAnyH_all hr (by simp) (fun j hj => ?_)
        obtain rfl : j = i := by simpa using hj
        unfold wpOp
        rw [ho]
        simp only
        by_cases hw : Region.wanted o (yielded ops a.tmps) = true
        · rw [if_pos hw] at h
          simp only [hw, if_true]
          exact .inl (Oper.wp_mono (fun a' w' h' => ⟨h'.1, ih _ _ _ hc2 h'.2⟩) h)
        · rw [if_neg hw] at h
          simp only [hw]
          exact ⟨h.1, ih _ _ _ hc2 h.2⟩
theorem wp_region_lex {P : Program} {id : Nat} {ops : Array Oper} {Q : Exit → Act → World → Prop} {a : Act} {w : World} (S : World → Prop) (l : List (Nat × Bool)) (hm : P.follows .mixedOrders = true)
    (hc : (Region.noSelect ops && (l.length == ops.size) && checkLex ops (Array.replicate ops.size false) l) = true) (hQ : ∀ c a d v w, Q (.panic c) (a.put d v) w → Q (.panic c) a w)
    (h : wpLex P ops Q S l a w.drew) : (Code.region id ops true).wp P Q a w := by
  simp only [Bool.and_eq_true, beq_iff_eq] at hc
  obtain ⟨⟨hs, hl⟩, hk⟩ := hc
  have := lex_sound (P := P) (Q := Q) (S := S) hs hQ l _ a _ hk h
  rw [hl] at this
  exact wp_region_held hm this
theorem lex_step {P : Program} {ops : Array Oper} {Q : Exit → Act → World → Prop} {S : World → Prop} {i : Nat} {b : Bool} {l : List (Nat × Bool)} {a : Act} {w : World}
    (h : ∀ K : Act → World → Prop, (∀ a w, wpLex P ops Q S l a w → K a w) → lexOp P ops Q S i b K a w) : wpLex P ops Q S ((i, b) :: l) a w := h _ (fun _ _ h => h)
theorem lex_nil {P : Program} {ops : Array Oper} {Q : Exit → Act → World → Prop} {S : World → Prop} {a : Act} {w : World} (h : Q .normal a w) : wpLex P ops Q S [] a w := h
/-- The operation is looked up, its guard says yes. -/
theorem lex_take {P : Program} {ops : Array Oper} {Q : Exit → Act → World → Prop} {S : World → Prop} {i : Nat} {o : Oper} {K : Act → World → Prop} {a : Act} {w : World} (ho : ops[i]? = some o) (hw : Region.wanted o (yielded ops a.tmps) = true) (v : Value)
    (hv : ∀ w', S w' → (execOp a.eval o).run P w' = .ok (.value v) w') (hS : S w) (h : K (a.put o.dst v) w) : lexOp P ops Q S i true K a w := by
  unfold lexOp; rw [ho]; simp only []; rw [if_pos hw]; exact ⟨v, hv, hS, h⟩
theorem lex_alone {P : Program} {ops : Array Oper} {Q : Exit → Act → World → Prop} {S : World → Prop} {i : Nat} {o : Oper} {K : Act → World → Prop} {a : Act} {w : World} (ho : ops[i]? = some o) (hw : Region.wanted o (yielded ops a.tmps) = true)
    (h : o.wp P a w (fun a' w' => S w' ∧ K a' w') Q) : lexOp P ops Q S i false K a w := by
  unfold lexOp; rw [ho]; simp only []; rw [if_pos hw]; exact h
theorem lex_skip {P : Program} {ops : Array Oper} {Q : Exit → Act → World → Prop} {S : World → Prop} {i : Nat} {b : Bool} {o : Oper} {K : Act → World → Prop} {a : Act} {w : World} (ho : ops[i]? = some o) (hw : Region.wanted o (yielded ops a.tmps) = false)
    (hS : S w) (h : K (a.put o.dst undef) w) : lexOp P ops Q S i b K a w := by
  unfold lexOp; rw [ho]; simp only []; rw [if_neg (by rw [hw]; decide)]; exact ⟨hS, h⟩
end Go.Proofs.Ytechkdnoekffmaa
