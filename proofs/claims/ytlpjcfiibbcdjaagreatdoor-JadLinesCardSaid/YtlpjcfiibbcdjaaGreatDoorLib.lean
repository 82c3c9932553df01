/- Small words and lemmas that the walks of this seat share. No condition. -/
import Derived.Test.YtlpjcfiibbcdjaaGreatDoorRows
import Derived.WalkKit
import Derived.ProofKit
import Derived.OpenShut
import Derived.ShutString
import Derived.ChangeOld
import Derived.Below
import Derived.Lib.Hide
import Derived.Deep.WholeRow
import Derived.Laws.CopyOwn
import Derived.Deep.AppendSrc
import Derived.Lib.SlBytesConst
namespace Go.Proofs.YtlpjcfiibbcdjaaGreatDoor
open Go.ChangeShapes Go.WideShapes Go.ChangeAt Go.RowKit

/-- The slice at a, of n bytes, reads as bs. -/
def Bs (w : World) (a : Option Addr) (n : Nat) (bs : List UInt8) : Prop :=
  bs.length = n ∧ (0 < n → ∃ b off, a = some ⟨b, off, none⟩ ∧ b < w.heap.size ∧ ∀ i (h : i < bs.length), w.cell? ⟨b, off + i, none⟩ = some (.int .u8 (bs[i].toNat : Int)))

theorem Bs.below {w w' : World} {a : Option Addr} {n : Nat} {bs : List UInt8} (h : Bs w a n bs) (hb : Below w.heap.size w w') : Bs w' a n bs := by
  refine ⟨h.1, fun hn => ?_⟩
  obtain ⟨b, off, ha, hlt, hc⟩ := h.2 hn
  exact ⟨b, off, ha, Nat.lt_of_lt_of_le hlt hb.size, fun i hi => by rw [hb.cell (by simpa using hlt)]; exact hc i hi⟩

theorem u8_lt (x : UInt8) : (x.toNat : Int) < 256 := by have := x.toNat_lt; omega
theorem fold_take {α β : Type} (f : β → α → β) (b : β) (xs : List α) (k : Nat) (h : k < xs.length) : (xs.take (k + 1)).foldl f b = f ((xs.take k).foldl f b) xs[k] := by
  rw [List.take_succ_eq_append_getElem h, List.foldl_append]; rfl
theorem ret_int {k : IntKind} {a b : Int} (h : a = b) : Ending.returned (.int k a) = .returned (.int k b) := by rw [h]
theorem slot_int {k : IntKind} {a b : Int} (h : a = b) : Value.int k a = .int k b := by rw [h]

/-- One function, so many times. -/
def iter {α : Type} (f : α → α) : Nat → α → α
  | 0, x => x
  | n + 1, x => f (iter f n x)
theorem iter_hid {α : Type} {f : α → α} {x y : α} {j : Nat} (h : Hid (x = iter f j y)) : Hid (f x = iter f (j + 1) y) := congrArg f h.out
theorem fold_hid {α β : Type} {f : β → α → β} {b m x : β} {xs : List α} {k : Nat} (hm : Hid (m = (xs.take k).foldl f b)) (h : k < xs.length) (hx : x = f m xs[k]) :
    Hid (x = (xs.take (k + 1)).foldl f b) := by
  show x = _
  rw [fold_take f b xs k h, ← hm.out]; exact hx
theorem fold_end {α β : Type} {f : β → α → β} {b m : β} {xs : List α} {k : Nat} (hm : Hid (m = (xs.take k).foldl f b)) (h : xs.length ≤ k) : m = xs.foldl f b := by
  rw [hm.out, List.take_of_length_le h]

/-- A whole array into the block that was made last. -/
theorem wpList_store_new {P : Program} {ops : Array Oper} {rest : List Oper} {o : Oper} {a : Act} {w : World} {Q : Exit → Act → World → Prop} (hgd : o.guard = none) (ty : TypeId) (x y : Operand) (ho : o.op = .store ty x y)
    (cells : Array Value) (hx : a.eval x = .pointer (some ⟨w.heap.size, 0, none⟩)) (hy : a.eval y = .agg cells) (t : TypeId) (old : Array Value) (hi : (P.info? ty).map (·.size) = some cells.size)
    (hold : old.size = cells.size) (h1 : cells.all (·.oneCell') = true) (h : wpList P ops Q rest (a.put o.dst undef) (w.alloc (.cells cells t))) : wpList P ops Q (o :: rest) a (w.alloc (.cells old t)) :=
  wpList_store_row hgd ty x y ho w.heap.size cells hx hy t old (heap_alloc_last w _) hi hold h1 (by rw [World.setRow_alloc_new]; exact h)

/-! append, both arms, whatever is appended, onto a row of the call's own. -/
theorem run_append_room_own {P : Program} {w : World} (t tx ty e : TypeId) (i : TypeInfo) (ht : P.underlying t = some (.slice e)) (hi : P.info? e = some i)
    (g sLen sCap : Nat) (cur : Array Value) (hg : w.heap[g]? = some (.cells cur e (0, 0))) (x : Value) (m : Nat) (news : List Value) (hs : Src P i.size tx x m news w)
    (hroom : sLen + m ≤ sCap) (hfit : sLen * i.size + news.length ≤ cur.size) :
    (Builtin.append_ #[t, tx] ty #[.slice (some ⟨g, 0, none⟩) sLen sCap, x]).run P w =
      .ok (.slice (some ⟨g, 0, none⟩) (sLen + m) sCap) (w.setRow g (cur.toList.take (sLen * i.size) ++ news ++ cur.toList.drop (sLen * i.size + news.length)).toArray) := by
  have hst := run_storeCells_at P g (sLen * i.size) e news 0 cur w hg (by simpa using hfit) hs.one
  simp only [Nat.add_zero] at hst
  rcases hs.kind with ⟨e', hk⟩ | hk <;> simp [Builtin.append_, run_underlying ht, run_underlying hk, sizeOf, typeInfo, hi, hs.len, hroom, hs.cells, Addr.add_lit, hst]
theorem run_append_nothing {P : Program} {w : World} (t tx ty e : TypeId) (i : TypeInfo) (ht : P.underlying t = some (.slice e)) (hi : P.info? e = some i) (x : Value) (news : List Value) (hs : Src P i.size tx x 0 news w) :
    (Builtin.append_ #[t, tx] ty #[.slice none 0 0, x]).run P w = .ok (.slice none 0 0) w := by
  have hc := hs.cells
  rcases hs.kind with ⟨e', hk⟩ | hk <;> simp [Builtin.append_, run_underlying ht, run_underlying hk, sizeOf, typeInfo, hi, hs.len, hc]
theorem run_append_own_src {P : Program} {w : World} (base : Nat) (t tx ty e : TypeId) (i : TypeInfo) (z : Value) (size bytes : Nat) (ht : P.underlying t = some (.slice e)) (hi : P.info? e = some i) (hz : i.zero = some z)
    (hsize : i.size = size) (hby : i.bytes = bytes) (hzs : z.cells.size = size) (v : Value) (n : Nat) (xs : List Value) (hown : w.ownsRow base e size v n xs)
    (x : Value) (m : Nat) (news : List Value) (hs : Src P size tx x m news w) (h63 : n + m ≤ maxLen) (hbytes : (n + m) * bytes ≤ 140737488355328) (hbase : base ≤ w.heap.size) :
    ∃ v' w', (Builtin.append_ #[t, tx] ty #[v, x]).run P w = .ok v' w' ∧ w'.ownsRow base e size v' (n + m) (xs ++ news) ∧ w.grownBy w' v.ownBlock ∧ (v' = .slice none 0 0 ↔ v = .slice none 0 0 ∧ m = 0) := by
  subst hsize
  subst hby
  have hsmall : n + m ≤ 9223372036854775807 := by simp only [maxLen] at h63; omega
  have hl := hs.newsLen
  have hlen : (xs ++ news).length = (n + m) * i.size := by rw [List.length_append, hown.1, hl, Nat.add_mul]
  have grown : ∀ (old : Nat), old < n + m → ∀ (row : Option Nat),
      (w.drew.alloc (.cells ((xs ++ news).toArray ++ Builtin.zeroCells z.cells (grownCap w (n + m) old e - (n + m))) e)).ownsRow base e i.size
        (.slice (some ⟨w.heap.size, 0, none⟩) (n + m) (grownCap w (n + m) old e)) (n + m) (xs ++ news) ∧
      w.grownBy (w.drew.alloc (.cells ((xs ++ news).toArray ++ Builtin.zeroCells z.cells (grownCap w (n + m) old e - (n + m))) e)) row := by
    intro old ho row
    have hge := grownCap_ge w (n + m) old e
    have hcm : grownCap w (n + m) old e ≤ maxLen := grownCap_le_maxLen w (n + m) old e h63
    refine ⟨⟨hlen, .inr ⟨w.heap.size, _, _, rfl, hbase, heap_alloc_new w.drew _, hge, hcm, ?_, ?_⟩⟩, ⟨rfl, rfl, rfl, by simp, fun k hk _ => Below.heap_alloc w.drew _ k hk⟩⟩
    · simp only [Array.size_append, List.size_toArray, size_zeroCells, hzs, hlen, ← Nat.add_mul]
      congr 1
      omega
    · simp only [Array.toList_append]
      rw [← hlen]
      exact List.take_left
  rcases hown.2 with ⟨rfl, rfl⟩ | ⟨g, cap, cur, rfl, hbg, hg, hnc, hcm, hcs, htake⟩
  · have hx : xs = [] := List.eq_nil_of_length_eq_zero (by simpa using hown.1)
    subst hx
    by_cases hm : m = 0
    · subst hm
      have hn : news = [] := List.eq_nil_of_length_eq_zero (by simpa using hl)
      subst hn
      exact ⟨.slice none 0 0, w, run_append_nothing t tx ty e i ht hi x [] hs, World.ownsRow_nil w base e i.size, ⟨rfl, rfl, rfl, Nat.le_refl _, fun _ _ _ => rfl⟩, by simp⟩
    · have hr := run_append_grow_src (P := P) w t tx ty e i z ht hi hz none 0 0 [] (by simp [Builtin.firstCells]) x m news hs (by omega) (by omega) (growslice_fits (by omega) hbytes)
      have hgr := grown 0 (by omega) (Value.ownBlock (.slice none 0 0))
      exact ⟨_, _, hr, hgr.1, hgr.2, by simp [hm]⟩
  · by_cases hroom : n + m ≤ cap
    · have hfit : n * i.size + news.length ≤ cur.size := by rw [hl, hcs, ← Nat.add_mul]; exact Nat.mul_le_mul_right _ hroom
      have hr := run_append_room_own (P := P) t tx ty e i ht hi g n cap cur hg x m news hs hroom hfit
      refine ⟨_, _, hr, ⟨hlen, .inr ⟨g, cap, _, rfl, hbg, setRow_heap w g cur _ e _ hg, hroom, hcm, ?_, ?_⟩⟩, ⟨rfl, rfl, rfl, by simp, fun k _ hk => setRow_other w g k _ (fun e => hk (by simp [Value.ownBlock, e]))⟩, by simp⟩
      · simp only [List.size_toArray, List.length_append, List.length_take, List.length_drop, Array.length_toList]
        omega
      · rw [htake, ← hlen]
        exact List.take_left
    · have holds : ∀ j u, xs[j]? = some u → w.drew.cell? ((⟨g, 0, none⟩ : Addr).add j) = some u := hown.cells (g := g) rfl
      have hr := run_append_grow_src (P := P) w t tx ty e i z ht hi hz (some ⟨g, 0, none⟩) n cap xs (run_firstCells_some w.drew i.size n ⟨g, 0, none⟩ n cap xs hown.1 holds) x m news hs (by omega) (by omega) (growslice_fits (by omega) hbytes)
      have hgr := grown cap (by omega) (Value.ownBlock (.slice (some ⟨g, 0, none⟩) n cap))
      exact ⟨_, _, hr, hgr.1, hgr.2, by simp⟩
theorem wpList_append_src {P : Program} {w : World} {ops : Array Oper} {rest : List Oper} {o : Oper} {a : Act} {Q : Exit → Act → World → Prop} (hgd : Region.wanted o (yielded ops a.tmps) = true) (s x : Operand) (t tx : TypeId)
    (ho : o.op = .call { callee := .builtin .append, args := #[s, x], argTypes := #[t, tx] })
    (base : Nat) (e : TypeId) (i : TypeInfo) (z : Value) (size bytes : Nat) (ht : P.underlying t = some (.slice e)) (hi : P.info? e = some i) (hz : i.zero = some z)
    (hsize : i.size = size) (hby : i.bytes = bytes) (hzs : z.cells.size = size) (v : Value) (n : Nat) (xs : List Value) (hv : a.eval s = v) (hown : w.ownsRow base e size v n xs)
    (y : Value) (m : Nat) (news : List Value) (hy : a.eval x = y) (hs : Src P size tx y m news w) (h63 : n + m ≤ maxLen) (hbytes : (n + m) * bytes ≤ 140737488355328) (hbase : base ≤ w.heap.size)
    (h : ∀ v' w', w'.ownsRow base e size v' (n + m) (xs ++ news) → w.grownBy w' v.ownBlock → (v' = .slice none 0 0 ↔ v = .slice none 0 0 ∧ m = 0) → wpList P ops Q rest (a.put o.dst v') w') : wpList P ops Q (o :: rest) a w := by
  obtain ⟨v', w', hr, h2, h3, h4⟩ := run_append_own_src (P := P) (w := w) base t tx o.type e i z size bytes ht hi hz hsize hby hzs v n xs hown y m news hs h63 hbytes hbase
  refine wpList_step fun K hK => ?_
  rw [if_pos hgd]
  unfold Oper.wp execOp
  simp only [ho, resolve, invoke, builtin, Sem.run_bind, Sem.run_pure, Result.andThen_ok, List.map_toArray, List.map_cons, List.map_nil, hv, hy, hr]
  exact hK _ _ (h v' w' h2 h3 h4)

/-! Bytes. -/
def encB (x : UInt8) : Value := .int .u8 (x.toNat : Int)
theorem encB_one (bs : List UInt8) : ∀ u ∈ bs.map encB, u.oneCell' = true := by
  intro u hu
  obtain ⟨_, _, rfl⟩ := List.mem_map.1 hu
  rfl
theorem Bs.src {P : Program} {w : World} {a : Option Addr} {n : Nat} {bs : List UInt8} (h : Bs w a n bs) {tx e' : TypeId} (hk : P.underlying tx = some (.slice e')) (cap : Nat) : Src P 1 tx (.slice a n cap) n (bs.map encB) w := by
  obtain ⟨hl, hc⟩ := h
  by_cases hn : 0 < n
  · obtain ⟨b, off, rfl, _, hcell⟩ := hc hn
    refine Src.ofSlice w hk ⟨b, off, none⟩ n cap _ (by simp [hl]) (fun j u hu => ?_) (encB_one bs)
    rw [List.getElem?_map] at hu
    have hj : j < bs.length := by
      rcases Nat.lt_or_ge j bs.length with h | h
      · exact h
      · rw [List.getElem?_eq_none h] at hu; simp at hu
    rw [List.getElem?_eq_getElem hj] at hu
    simp only [Option.map_some, Option.some.injEq] at hu
    subst hu
    have hadd : (⟨b, off, none⟩ : Addr).add j = ⟨b, off + j, none⟩ := by unfold Addr.add; split <;> simp_all
    rw [hadd]
    exact hcell j hj
  · have h0 : n = 0 := by omega
    subst h0
    have hb : bs = [] := List.eq_nil_of_length_eq_zero hl
    subst hb
    cases a with
    | none => exact Src.ofNil w hk cap
    | some ad => exact Src.ofSlice w hk ad 0 cap [] rfl (fun j u hu => by simp at hu) (fun u hu => by cases hu)
theorem Bs.ofOwn {w : World} {base : Nat} {e : TypeId} {v : Value} {n : Nat} {bs : List UInt8} (h : w.ownsRow base e 1 v n (bs.map encB)) : ∃ a cap, v = .slice a n cap ∧ Bs w a n bs ∧ n ≤ cap := by
  have hl : bs.length = n := by have := h.1; simpa using this
  rcases h.2 with ⟨rfl, rfl⟩ | ⟨g, cap, cur, rfl, hb, hg, hnc, _, _, ht⟩
  · exact ⟨none, 0, rfl, ⟨hl, fun h => by omega⟩, Nat.le_refl _⟩
  · refine ⟨_, cap, rfl, ⟨hl, fun _ => ⟨g, 0, rfl, (Array.getElem?_eq_some_iff.1 hg).1, fun i hi => ?_⟩⟩, hnc⟩
    have := h.cells (g := g) rfl i (encB bs[i]) (by rw [List.getElem?_map, List.getElem?_eq_getElem hi]; rfl)
    have hadd : (⟨g, 0, none⟩ : Addr).add i = ⟨g, 0 + i, none⟩ := by unfold Addr.add; split <;> simp_all
    rw [hadd] at this
    exact this
theorem Bs.lit {w : World} {g n : Nat} {bs : List UInt8} {C : Array Value} {e : TypeId} {fr : Nat × Nat} (hg : w.heap[g]? = some (.cells C e fr)) (hC : C = (bs.map encB).toArray) (hn : bs.length = n) : Bs w (some ⟨g, 0, none⟩) n bs := by
  subst hC
  refine ⟨hn, fun _ => ⟨g, 0, rfl, (Array.getElem?_eq_some_iff.1 hg).1, fun i hi => ?_⟩⟩
  rw [cell_of_row w g (0 + i) _ e fr hg]
  simp [hi, encB]

/-- What a walk is told of a slice of integers that came in (the kit's own words): it is nil; or it leads to a row of 'cap' cells, the numbers 'zs' (the first 'len' are its elements), each fitting its kind. -/
def IsRow (k : IntKind) (w : World) (a : Option Addr) (len cap : Nat) (zs : List Int) : Prop :=
  (a = none ∧ len = 0 ∧ cap = 0 ∧ zs = []) ∨
  ∃ x, a = some x ∧ len ≤ cap ∧ cap ≤ maxLen ∧ zs.length = cap ∧ (∀ i, i < zs.length → w.cell? (x.add i) = some (.int k (zs.getD i 0))) ∧ ∀ n ∈ zs, (Lit.int k n).wf = true
theorem u8_of_int {n : Int} (h : (Lit.int .u8 n).wf = true) : n = ((UInt8.ofNat n.toNat).toNat : Int) := by
  have h0 := bounds_u8 h
  rw [UInt8.toNat_ofNat_of_lt' (by show n.toNat < 256; omega)]
  omega
theorem Bs.ofRow {w : World} {a : Option Addr} {len cap : Nat} {zs : List Int} (h : IsRow .u8 w a len cap zs) : ∃ bs, Bs w a len bs ∧ len ≤ maxLen := by
  rcases h with ⟨rfl, rfl, rfl, rfl⟩ | ⟨x, rfl, hl, hm, hz, hc, hwf⟩
  · exact ⟨[], ⟨rfl, fun h => by omega⟩, by decide⟩
  · refine ⟨(zs.take len).map fun n => UInt8.ofNat n.toNat, ⟨by simp; omega, fun hn => ?_⟩, by omega⟩
    obtain ⟨b, off, spot⟩ := x
    have h0 := hc 0 (by omega)
    have hspot : spot = none := by simpa [Addr.add] using World.cell?_spot h0
    subst hspot
    refine ⟨b, off, rfl, World.block_lt_of_cell? w _ h0, fun i hi => ?_⟩
    have hi' : i < len := by simpa using (by simp at hi; omega : i < len)
    have hadd : (⟨b, off, none⟩ : Addr).add i = ⟨b, off + i, none⟩ := by unfold Addr.add; split <;> simp_all
    have hci := hc i (by omega)
    rw [hadd] at hci
    rw [hci]
    have hzi : zs.getD i 0 = zs[i]'(by omega) := by simp [List.getD, List.getElem?_eq_getElem (by omega : i < zs.length)]
    rw [hzi]
    congr 1
    simp only [List.getElem_map, List.getElem_take]
    exact congrArg (Value.int .u8) (u8_of_int (hwf _ (List.getElem_mem _)))

theorem info_u8 : (Tryz.prog.info? 5).map (fun i => (i.zero, i.size, i.bytes)) = some (some (.int .u8 0), 1, 1) := by kernel_rfl
/-- append of bytes onto bytes of the call's own. -/
theorem wpList_app {w : World} {ops : Array Oper} {rest : List Oper} {o : Oper} {a : Act} {Q : Exit → Act → World → Prop} (hgd : Region.wanted o (yielded ops a.tmps) = true) (s x : Operand) (tx : TypeId)
    (ho : o.op = .call { callee := .builtin .append, args := #[s, x], argTypes := #[41, tx] })
    (base : Nat) (v : Value) (n : Nat) (bs : List UInt8) (hv : a.eval s = v) (hown : w.ownsRow base 5 1 v n (bs.map encB))
    (y : Value) (m : Nat) (cs : List UInt8) (hy : a.eval x = y) (hs : Src Tryz.prog 1 tx y m (cs.map encB) w) (hlen : n + m ≤ 140737488355328) (hbase : base ≤ w.heap.size)
    (h : ∀ v' w', w'.ownsRow base 5 1 v' (n + m) ((bs ++ cs).map encB) → w.grownBy w' v.ownBlock → wpList Tryz.prog ops Q rest (a.put o.dst v') w') : wpList Tryz.prog ops Q (o :: rest) a w := by
  obtain ⟨i0, hi, hz0, hz1, hz2⟩ := info_parts info_u8
  refine wpList_append_src hgd s x 41 tx ho base 5 i0 (.int .u8 0) 1 1 Tryz.underlying41 hi hz0 hz1 hz2 rfl v n (bs.map encB) hv hown y m (cs.map encB) hy hs
    (by unfold maxLen; omega) (by omega) hbase (fun v' w' h1 h2 _ => h v' w' (by rw [List.map_append]; exact h1) h2)
/-- A new row, empty. -/
theorem own_empty (w : World) (base : Nat) (e : TypeId) (hb : base ≤ w.heap.size) : (w.alloc (.cells #[] e)).ownsRow base e 1 (.slice (some ⟨w.heap.size, 0, none⟩) 0 0) 0 (([] : List UInt8).map encB) :=
  World.ownsRow_made w #[] 0 hb (by decide) rfl
theorem below_app {B : Nat} {w0 w w' : World} {e : TypeId} {size : Nat} {v : Value} {n : Nat} {xs : List Value} (hb : Below B w0 w) (hB : B ≤ w.heap.size) (hown : w.ownsRow B e size v n xs) (hg : w.grownBy w' v.ownBlock) : Below B w0 w' :=
  hb.grown hg hB (fun k hk => (hown.lt k hk).1)
theorem own_addr {w : World} {base : Nat} {e : TypeId} {size n cap : Nat} {a : Option Addr} {xs : List Value} (h : w.ownsRow base e size (.slice a n cap) n xs) (hn : 0 < n) : ∃ g, a = some ⟨g, 0, none⟩ ∧ base ≤ g ∧ g < w.heap.size := by
  rcases h.2 with ⟨h', _⟩ | ⟨g, cap', cur, h', hb, hg, _⟩
  · simp at h'; omega
  · simp only [Value.slice.injEq, true_and] at h'
    exact ⟨g, h'.1, hb, (Array.getElem?_eq_some_iff.1 hg).1⟩
theorem own_cellB {w : World} {base : Nat} {e : TypeId} {g n cap : Nat} {bs : List UInt8} (h : w.ownsRow base e 1 (.slice (some ⟨g, 0, none⟩) n cap) n (bs.map encB)) (j : Nat) (hj : j < bs.length) :
    w.cell? ⟨g, j, none⟩ = some (.int .u8 (bs[j].toNat : Int)) := by
  have hl : bs.length = n := by have := h.1; simpa using this
  rw [h.cellAt j (by omega), List.getElem?_map, List.getElem?_eq_getElem hj]
  rfl
end Go.Proofs.YtlpjcfiibbcdjaaGreatDoor
