/- Slices whose elements take one cell, of whatever kind; steps of append in regions that draw. No condition. -/
import Derived.Test.YtlpjcfiibbcdjaaGreatDoorLib
import Derived.Deep.QuietTactic
import Derived.BigQuiet
import Derived.Deep.RegionLaw
import Derived.Deep.DrawnRows
namespace Go.Proofs.YtlpjcfiibbcdjaaGreatDoor
open Go.ChangeShapes Go.WideShapes Go.ChangeAt Go.RowKit

/-- The slice at a, of n elements, reads as xs. -/
def Sl {α : Type} (enc : α → Value) (w : World) (a : Option Addr) (n : Nat) (xs : List α) : Prop :=
  xs.length = n ∧ (0 < n → ∃ b off, a = some ⟨b, off, none⟩ ∧ b < w.heap.size ∧ ∀ i (h : i < xs.length), w.cell? ⟨b, off + i, none⟩ = some (enc xs[i]))
section
variable {α : Type} {enc : α → Value}
theorem Sl.below {w w' : World} {a : Option Addr} {n : Nat} {xs : List α} (h : Sl enc w a n xs) (hb : Below w.heap.size w w') : Sl enc w' a n xs := by
  refine ⟨h.1, fun hn => ?_⟩
  obtain ⟨b, off, ha, hlt, hc⟩ := h.2 hn
  exact ⟨b, off, ha, Nat.lt_of_lt_of_le hlt hb.size, fun i hi => by rw [hb.cell (by simpa using hlt)]; exact hc i hi⟩
theorem Sl.nil (w : World) (a : Option Addr) : Sl enc w a 0 [] := ⟨rfl, fun h => by omega⟩
theorem Sl.lit {w : World} {g n : Nat} {xs : List α} {C : Array Value} {e : TypeId} {fr : Nat × Nat} (hg : w.heap[g]? = some (.cells C e fr)) (hC : C = (xs.map enc).toArray) (hn : xs.length = n) : Sl enc w (some ⟨g, 0, none⟩) n xs := by
  subst hC
  refine ⟨hn, fun _ => ⟨g, 0, rfl, (Array.getElem?_eq_some_iff.1 hg).1, fun i hi => ?_⟩⟩
  rw [cell_of_row w g (0 + i) _ e fr hg]
  simp [hi]
theorem Sl.ofOwn {w : World} {base : Nat} {e : TypeId} {v : Value} {n : Nat} {xs : List α} (h : w.ownsRow base e 1 v n (xs.map enc)) : ∃ a cap, v = .slice a n cap ∧ Sl enc w a n xs ∧ n ≤ cap := by
  have hl : xs.length = n := by have := h.1; simpa using this
  rcases h.2 with ⟨rfl, rfl⟩ | ⟨g, cap, cur, rfl, hb, hg, hnc, _, _, ht⟩
  · exact ⟨none, 0, rfl, ⟨hl, fun h => by omega⟩, Nat.le_refl _⟩
  · refine ⟨_, cap, rfl, ⟨hl, fun _ => ⟨g, 0, rfl, (Array.getElem?_eq_some_iff.1 hg).1, fun i hi => ?_⟩⟩, hnc⟩
    have := h.cells (g := g) rfl i (enc xs[i]) (by rw [List.getElem?_map, List.getElem?_eq_getElem hi]; rfl)
    have hadd : (⟨g, 0, none⟩ : Addr).add i = ⟨g, 0 + i, none⟩ := by unfold Addr.add; split <;> simp_all
    rw [hadd] at this
    exact this
theorem own_cell {w : World} {base : Nat} {e : TypeId} {g n cap : Nat} {xs : List α} (h : w.ownsRow base e 1 (.slice (some ⟨g, 0, none⟩) n cap) n (xs.map enc)) (j : Nat) (hj : j < xs.length) :
    w.cell? ⟨g, j, none⟩ = some (enc xs[j]) := by
  have hl : xs.length = n := by have := h.1; simpa using this
  rw [h.cellAt j (by omega), List.getElem?_map, List.getElem?_eq_getElem hj]
  rfl
/-- The rest behind the first j. -/
theorem Sl.drop {w : World} {a : Option Addr} {n j : Nat} {xs : List α} (h : Sl enc w a n xs) (hj : j < n) : ∃ b off, a = some ⟨b, off, none⟩ ∧ Sl enc w (some ⟨b, off + j, none⟩) (n - j) (xs.drop j) := by
  obtain ⟨b, off, ha, hlt, hc⟩ := h.2 (by omega)
  refine ⟨b, off, ha, ⟨by simp [h.1], fun _ => ⟨b, off + j, rfl, hlt, fun i hi => ?_⟩⟩⟩
  have := hc (j + i) (by simp at hi; omega)
  rw [Nat.add_assoc, this]
  simp
theorem Sl.take {w : World} {a : Option Addr} {n j : Nat} {xs : List α} (h : Sl enc w a n xs) (hj : j ≤ n) : Sl enc w a j (xs.take j) := by
  refine ⟨by simp [h.1]; omega, fun hn => ?_⟩
  obtain ⟨b, off, ha, hlt, hc⟩ := h.2 (by omega)
  refine ⟨b, off, ha, hlt, fun i hi => ?_⟩
  rw [hc i (by simp at hi; omega)]
  simp
theorem Sl.src {P : Program} (h1 : ∀ x : α, (enc x).oneCell' = true) {w : World} {a : Option Addr} {n : Nat} {xs : List α} (h : Sl enc w a n xs) {tx e' : TypeId} (hk : P.underlying tx = some (.slice e')) (cap : Nat) : Src P 1 tx (.slice a n cap) n (xs.map enc) w := by
  obtain ⟨hl, hc⟩ := h
  have hone : ∀ u ∈ xs.map enc, u.oneCell' = true := by
    intro u hu
    obtain ⟨_, _, rfl⟩ := List.mem_map.1 hu
    exact h1 _
  by_cases hn : 0 < n
  · obtain ⟨b, off, rfl, _, hcell⟩ := hc hn
    refine Src.ofSlice w hk ⟨b, off, none⟩ n cap _ (by simp [hl]) (fun j u hu => ?_) hone
    rw [List.getElem?_map] at hu
    have hj : j < xs.length := by
      rcases Nat.lt_or_ge j xs.length with h | h
      · exact h
      · rw [List.getElem?_eq_none h] at hu; simp at hu
    rw [List.getElem?_eq_getElem hj] at hu
    simp only [Option.map_some, Option.some.injEq] at hu
    subst hu
    have hadd : (⟨b, off, none⟩ : Addr).add j = ⟨b, off + j, none⟩ := by unfold Addr.add; split <;> simp_all
    rw [hadd]
    exact hcell j hj
  · have h0 : n = 0 := by omega
    subst h0
    have hb : xs = [] := List.eq_nil_of_length_eq_zero hl
    subst hb
    cases a with
    | none => exact Src.ofNil w hk cap
    | some ad => exact Src.ofSlice w hk ad 0 cap [] rfl (fun j u hu => by simp at hu) (fun u hu => by cases hu)
end
theorem Sl.bs {w : World} {a : Option Addr} {n : Nat} {bs : List UInt8} (h : Sl encB w a n bs) : Bs w a n bs := h
theorem Bs.sl {w : World} {a : Option Addr} {n : Nat} {bs : List UInt8} (h : Bs w a n bs) : Sl encB w a n bs := h
theorem encB_cell (x : UInt8) : (encB x).oneCell' = true := rfl
/-- A number as a byte. -/
theorem encB_of {e : Int} (h0 : 0 ≤ e) (h1 : e < 256) : Value.int .u8 e = encB (UInt8.ofNat e.toNat) := by
  unfold encB
  rw [UInt8.toNat_ofNat_of_lt' (by show e.toNat < 256; omega)]
  congr 1
  omega
/-- append of bytes onto bytes of the call's own, as one step of a region that draws. -/
theorem step_app {w : World} {ops : Array Oper} {o : Oper} {a : Act} {K : Act → World → Prop} {Q : Exit → Act → World → Prop} {E : Prop} (hgd : Region.wanted o (yielded ops a.tmps) = true) (s x : Operand) (t tx : TypeId)
    (ho : o.op = .call { callee := .builtin .append, args := #[s, x], argTypes := #[t, tx] })
    (base : Nat) (e : TypeId) (i : TypeInfo) (z : Value) (size bytes : Nat) (ht : Tryz.prog.underlying t = some (.slice e)) (hi : Tryz.prog.info? e = some i) (hz : i.zero = some z)
    (hsize : i.size = size) (hby : i.bytes = bytes) (hzs : z.cells.size = size) (v : Value) (n : Nat) (xs : List Value) (hv : a.eval s = v) (hown : w.ownsRow base e size v n xs)
    (y : Value) (m : Nat) (news : List Value) (hy : a.eval x = y) (hs : Src Tryz.prog size tx y m news w) (h63 : n + m ≤ maxLen) (hbytes : (n + m) * bytes ≤ 140737488355328) (hbase : base ≤ w.heap.size)
    (h : ∀ v' w', w'.ownsRow base e size v' (n + m) (xs ++ news) → w.grownBy w' v.ownBlock → K (a.put o.dst v') w') : if Region.wanted o (yielded ops a.tmps) = true then Oper.wp Tryz.prog o a w K Q else E := by
  obtain ⟨v', w', hr, h2, h3, _⟩ := run_append_own_src (P := Tryz.prog) (w := w) base t tx o.type e i z size bytes ht hi hz hsize hby hzs v n xs hown y m news hs h63 hbytes hbase
  rw [if_pos hgd]
  unfold Oper.wp execOp
  simp only [ho, resolve, invoke, builtin, Sem.run_bind, Sem.run_pure, Result.andThen_ok, List.map_toArray, List.map_cons, List.map_nil, hv, hy, hr]
  exact h v' w' h2 h3

/-- A slice type t whose elements e take one cell. -/
def OneE (t e : TypeId) (z : Value) (bytes : Nat) : Prop := Tryz.prog.underlying t = some (.slice e) ∧ (Tryz.prog.info? e).map (fun i => (i.zero, i.size, i.bytes)) = some (some z, 1, bytes) ∧ z.cells.size = 1
theorem Src.lit {P : Program} {w : World} {g m c : Nat} {C : Array Value} {e tx e' : TypeId} {fr : Nat × Nat} (hg : w.heap[g]? = some (.cells C e fr)) (hm : C.size = m) (hone : C.toList.all (·.oneCell') = true) (hk : P.underlying tx = some (.slice e')) :
    Src P 1 tx (.slice (some ⟨g, 0, none⟩) m c) m C.toList w := by
  refine Src.ofSlice w hk ⟨g, 0, none⟩ m c _ (by simp [hm]) (fun j u hu => ?_) (fun u hu => List.all_eq_true.1 hone u hu)
  have hadd : (⟨g, 0, none⟩ : Addr).add j = ⟨g, j, none⟩ := by unfold Addr.add; split <;> simp_all
  rw [hadd, cell_of_row w g j _ e fr hg]
  simpa using hu
theorem wpList_app1 {t e : TypeId} {z : Value} {bytes : Nat} (hO : OneE t e z bytes) {w : World} {ops : Array Oper} {rest : List Oper} {o : Oper} {a : Act} {Q : Exit → Act → World → Prop} (hgd : Region.wanted o (yielded ops a.tmps) = true) (s x : Operand) (tx : TypeId)
    (ho : o.op = .call { callee := .builtin .append, args := #[s, x], argTypes := #[t, tx] })
    (base : Nat) (v : Value) (n : Nat) (xs : List Value) (hv : a.eval s = v) (hown : w.ownsRow base e 1 v n xs)
    (y : Value) (m : Nat) (news : List Value) (hy : a.eval x = y) (hs : Src Tryz.prog 1 tx y m news w) (hlen : (n + m) * bytes ≤ 140737488355328) (hm : n + m ≤ maxLen) (hbase : base ≤ w.heap.size)
    (h : ∀ v' w', w'.ownsRow base e 1 v' (n + m) (xs ++ news) → w.grownBy w' v.ownBlock → Below base w w' → wpList Tryz.prog ops Q rest (a.put o.dst v') w') : wpList Tryz.prog ops Q (o :: rest) a w := by
  obtain ⟨ht, hinf, hz⟩ := hO
  obtain ⟨i0, hi, hz0, hz1, hz2⟩ := info_parts hinf
  exact wpList_append_src hgd s x t tx ho base e i0 z 1 bytes ht hi hz0 hz1 hz2 hz v n xs hv hown y m news hy hs hm hlen hbase (fun v' w' h1 h2 _ => h v' w' h1 h2 (below_app (Below.refl _ _) hbase hown h2))
/-- append(v, x1, .., xm): what is appended lies in a block of its own, made last. -/
theorem wpList_app_lit {t e : TypeId} {z : Value} {bytes : Nat} (hO : OneE t e z bytes) {w : World} {ops : Array Oper} {rest : List Oper} {o : Oper} {a : Act} {Q : Exit → Act → World → Prop} (hgd : Region.wanted o (yielded ops a.tmps) = true) (s x : Operand)
    (ho : o.op = .call { callee := .builtin .append, args := #[s, x], argTypes := #[t, t] })
    (base : Nat) (v : Value) (n : Nat) (xs : List Value) (hv : a.eval s = v) (hown : w.ownsRow base e 1 v n xs)
    (C : Array Value) (m c : Nat) (hy : a.eval x = .slice (some ⟨w.heap.size, 0, none⟩) m c) (hC : C.size = m) (hone : C.toList.all (·.oneCell') = true) (hlen : (n + m) * bytes ≤ 140737488355328) (hm : n + m ≤ maxLen) (hbase : base ≤ w.heap.size)
    (h : ∀ v' w', w'.ownsRow base e 1 v' (n + m) (xs ++ C.toList) → (w.alloc (.cells C e)).grownBy w' v.ownBlock → Below base w w' → wpList Tryz.prog ops Q rest (a.put o.dst v') w') : wpList Tryz.prog ops Q (o :: rest) a (w.alloc (.cells C e)) :=
  wpList_app1 hO hgd s x t ho base v n xs hv (hown.alloc _) _ m _ hy (Src.lit (heap_alloc_last w _) hC hone hO.1) hlen hm (by simp; omega)
    (fun v' w' h1 h2 h3 => h v' w' h1 h2 (((Below.refl _ _).alloc hbase _).trans h3))
/-- What is returned is a slice of the call's own, from block B on, that reads as xs; nothing below B has turned. -/
def OwnRet {α : Type} (enc : α → Value) (e : TypeId) (B : Nat) (w : World) (xs : List α) (en : Ending) (w' : World) : Prop :=
  ∃ v n, en = .returned v ∧ w'.ownsRow B e 1 v n (xs.map enc) ∧ Below B w w'
theorem own_below {w w' : World} {base : Nat} {e : TypeId} {size : Nat} {v : Value} {n : Nat} {xs : List Value} (h : w.ownsRow base e size v n xs) (hb : Below w.heap.size w w') : w'.ownsRow base e size v n xs :=
  h.kept (row := none) ⟨hb.os, hb.tape, hb.output, hb.size, fun k hk _ => hb.block k hk⟩ (by by_cases h : v.ownBlock = none; exact .inl h; exact .inr h)
theorem step_app1 {t e : TypeId} {z : Value} {bytes : Nat} (hO : OneE t e z bytes) {w : World} {ops : Array Oper} {o : Oper} {a : Act} {K : Act → World → Prop} {Q : Exit → Act → World → Prop} {E : Prop} (hgd : Region.wanted o (yielded ops a.tmps) = true) (s x : Operand) (tx : TypeId)
    (ho : o.op = .call { callee := .builtin .append, args := #[s, x], argTypes := #[t, tx] })
    (base : Nat) (v : Value) (n : Nat) (xs : List Value) (hv : a.eval s = v) (hown : w.ownsRow base e 1 v n xs)
    (y : Value) (m : Nat) (news : List Value) (hy : a.eval x = y) (hs : Src Tryz.prog 1 tx y m news w) (hlen : (n + m) * bytes ≤ 140737488355328) (hm : n + m ≤ maxLen) (hbase : base ≤ w.heap.size)
    (h : ∀ v' w', w'.ownsRow base e 1 v' (n + m) (xs ++ news) → w.grownBy w' v.ownBlock → Below base w w' → K (a.put o.dst v') w') : if Region.wanted o (yielded ops a.tmps) = true then Oper.wp Tryz.prog o a w K Q else E := by
  obtain ⟨ht, hinf, hz⟩ := hO
  obtain ⟨i0, hi, hz0, hz1, hz2⟩ := info_parts hinf
  exact step_app hgd s x t tx ho base e i0 z 1 bytes ht hi hz0 hz1 hz2 hz v n xs hv hown y m news hy hs hm hlen hbase (fun v' w' h1 h2 => h v' w' h1 h2 (below_app (Below.refl _ _) hbase hown h2))
theorem step_app_lit {t e : TypeId} {z : Value} {bytes : Nat} (hO : OneE t e z bytes) {w : World} {ops : Array Oper} {o : Oper} {a : Act} {K : Act → World → Prop} {Q : Exit → Act → World → Prop} {E : Prop} (hgd : Region.wanted o (yielded ops a.tmps) = true) (s x : Operand)
    (ho : o.op = .call { callee := .builtin .append, args := #[s, x], argTypes := #[t, t] })
    (base : Nat) (v : Value) (n : Nat) (xs : List Value) (hv : a.eval s = v) (hown : w.ownsRow base e 1 v n xs)
    (C : Array Value) (m c : Nat) (hy : a.eval x = .slice (some ⟨w.heap.size, 0, none⟩) m c) (hC : C.size = m) (hone : C.toList.all (·.oneCell') = true) (hlen : (n + m) * bytes ≤ 140737488355328) (hm : n + m ≤ maxLen) (hbase : base ≤ w.heap.size)
    (h : ∀ v' w', w'.ownsRow base e 1 v' (n + m) (xs ++ C.toList) → (w.alloc (.cells C e)).grownBy w' v.ownBlock → Below base w w' → K (a.put o.dst v') w') :
    if Region.wanted o (yielded ops a.tmps) = true then Oper.wp Tryz.prog o a (w.alloc (.cells C e)) K Q else E :=
  step_app1 hO hgd s x t ho base v n xs hv (hown.alloc _) _ m _ hy (Src.lit (heap_alloc_last w _) hC hone hO.1) hlen hm (by simp; omega)
    (fun v' w' h1 h2 h3 => h v' w' h1 h2 (((Below.refl _ _).alloc hbase _).trans h3))
theorem bdrewN {B : Nat} {a w : World} (h : Below B a w) (n : Nat) : Below B a (w.drewN n) := ⟨h.os, h.tape, h.output, h.size, h.block⟩

set_option maxRecDepth 100000 in
/-- string(b) -/
theorem run_conv {w : World} {a : Option Addr} {n : Nat} {bs : List UInt8} (h : Sl encB w a n bs) (cap : Nat) : (convert 41 9 (.slice a n cap)).run Tryz.prog w = .ok (.string ⟨bs.toArray⟩) w := by
  by_cases hn : 0 < n
  · obtain ⟨b, off, rfl, hlt, hc⟩ := h.2 hn
    have h1 := run_convert_bytes_arg (P := Tryz.prog) w 41 5 Tryz.underlying41 Tryz.underlying5 b off n cap (bs.map fun x => (x.toNat : Int)) (by simp [h.1])
      (fun i hi => by
        have hl : i < bs.length := by rw [h.1]; exact hi
        rw [hc i hl]
        simp [List.getD, hl, encB]) 9 Tryz.underlying9
    rw [h1]
    congr 2
    unfold strOfNums
    congr 2
    rw [List.map_map]
    exact (List.map_congr_left (fun x _ => by simp)).trans (List.map_id bs)
  · have h0 : n = 0 := by omega
    subst h0
    have hb : bs = [] := List.eq_nil_of_length_eq_zero h.1
    subst hb
    rw [run_convert_bytes_string w 41 9 5 a 0 cap Tryz.underlying41 Tryz.underlying5 Tryz.underlying9]
    cases a with
    | none => simp [Conv.bytesToString]; rfl
    | some ad => rw [run_bytesToString w ad 0 cap [] (by simp [loadCells, loadCellsFrom])]; rfl
end Go.Proofs.YtlpjcfiibbcdjaaGreatDoor
