/- append to a slice that is full. No condition. -/
import Derived.Test.YtlpjcfiibbcdjaaGreatDoorLib2
namespace Go.Proofs.YtlpjcfiibbcdjaaGreatDoor
open Go.ChangeShapes Go.WideShapes Go.ChangeAt Go.RowKit
theorem run_append_full {t e : TypeId} {z : Value} {bytes : Nat} (hO : OneE t e z bytes) {α : Type} {enc : α → Value} (base : Nat) {w : World} (tx ty : TypeId) {a : Option Addr} {n cap : Nat} {xs : List α} (hsl : Sl enc w a n xs)
    (y : Value) (m : Nat) (news : List Value) (hs : Src Tryz.prog 1 tx y m news w) (hfull : cap < n + m) (hnc : n ≤ cap) (hlen : (n + m) * bytes ≤ 140737488355328) (hm : n + m ≤ maxLen) (hbase : base ≤ w.heap.size) :
    ∃ v' w', (Builtin.append_ #[t, tx] ty #[.slice a n cap, y]).run Tryz.prog w = .ok v' w' ∧ w'.ownsRow base e 1 v' (n + m) (xs.map enc ++ news) ∧ Below base w w' := by
  obtain ⟨ht, hinf, hz⟩ := hO
  obtain ⟨i, hi, hz0, hz1, hz2⟩ := info_parts hinf
  have hl := hs.newsLen
  have hfc : (Builtin.firstCells i.size n (.slice a n cap)).run Tryz.prog w.drew = .ok (xs.map enc).toArray w.drew := by
    rw [hz1]
    by_cases hn : 0 < n
    · obtain ⟨b, off, rfl, _, hc⟩ := hsl.2 hn
      refine run_firstCells_some w.drew 1 n _ n cap _ (by simp [hsl.1]) (fun j u hu => ?_)
      rw [List.getElem?_map] at hu
      have hj : j < xs.length := by
        rcases Nat.lt_or_ge j xs.length with h | h
        · exact h
        · rw [List.getElem?_eq_none h] at hu; simp at hu
      rw [List.getElem?_eq_getElem hj] at hu
      simp only [Option.map_some, Option.some.injEq] at hu
      subst hu
      have hadd : (⟨b, off, none⟩ : Addr).add j = ⟨b, off + j, none⟩ := by unfold Addr.add; split <;> simp_all
      rw [hadd]
      exact hc j hj
    · have h0 : n = 0 := by omega
      subst h0
      have hx : xs = [] := List.eq_nil_of_length_eq_zero hsl.1
      subst hx
      cases a with
      | none => simp [Builtin.firstCells]
      | some ad => exact run_firstCells_some w.drew 1 0 ad 0 cap [] rfl (fun j u hu => by simp at hu)
  have hsmall : n + m ≤ 9223372036854775807 := by simp only [maxLen] at hm; omega
  subst hz2
  have hr := run_append_grow_src (P := Tryz.prog) w t tx ty e i z ht hi hz0 a n cap (xs.map enc) hfc y m news (by rw [hz1]; exact hs) hfull (by omega) (growslice_fits (by omega) hlen)
  refine ⟨_, _, hr, ?_, ?_⟩
  · have hlen2 : (xs.map enc ++ news).length = (n + m) * 1 := by simp [hsl.1, hl]
    have hge := grownCap_ge w (n + m) cap e
    have hcm : grownCap w (n + m) cap e ≤ maxLen := grownCap_le_maxLen w (n + m) cap e hm
    refine ⟨hlen2, .inr ⟨w.heap.size, _, _, rfl, hbase, heap_alloc_new w.drew _, hge, hcm, ?_, ?_⟩⟩
    · simp only [Array.size_append, List.size_toArray, size_zeroCells, hz, hlen2]
      omega
    · simp only [Array.toList_append]
      rw [← hlen2]
      exact List.take_left
  · exact ⟨rfl, rfl, rfl, by simp, fun k hk => Below.heap_alloc w.drew _ k (by show k < w.heap.size; omega)⟩
theorem wpList_app_full {t e : TypeId} {z : Value} {bytes : Nat} (hO : OneE t e z bytes) {α : Type} {enc : α → Value} {w : World} {ops : Array Oper} {rest : List Oper} {o : Oper} {a : Act} {Q : Exit → Act → World → Prop} (hgd : Region.wanted o (yielded ops a.tmps) = true) (s x : Operand) (tx : TypeId)
    (ho : o.op = .call { callee := .builtin .append, args := #[s, x], argTypes := #[t, tx] })
    (base : Nat) (ad : Option Addr) (n cap : Nat) (xs : List α) (hv : a.eval s = .slice ad n cap) (hsl : Sl enc w ad n xs)
    (y : Value) (m : Nat) (news : List Value) (hy : a.eval x = y) (hs : Src Tryz.prog 1 tx y m news w) (hfull : cap < n + m) (hnc : n ≤ cap) (hlen : (n + m) * bytes ≤ 140737488355328) (hm : n + m ≤ maxLen) (hbase : base ≤ w.heap.size)
    (h : ∀ v' w', w'.ownsRow base e 1 v' (n + m) (xs.map enc ++ news) → Below base w w' → wpList Tryz.prog ops Q rest (a.put o.dst v') w') : wpList Tryz.prog ops Q (o :: rest) a w := by
  obtain ⟨v', w', hr, h2, h3⟩ := run_append_full hO base tx o.type hsl y m news hs hfull hnc hlen hm hbase
  refine wpList_step fun K hK => ?_
  rw [if_pos hgd]
  unfold Oper.wp execOp
  simp only [ho, resolve, invoke, builtin, Sem.run_bind, Sem.run_pure, Result.andThen_ok, List.map_toArray, List.map_cons, List.map_nil, hv, hy, hr]
  exact hK _ _ (h v' w' h2 h3)
theorem wpList_app_full_lit {t e : TypeId} {z : Value} {bytes : Nat} (hO : OneE t e z bytes) {α : Type} {enc : α → Value} {w : World} {ops : Array Oper} {rest : List Oper} {o : Oper} {a : Act} {Q : Exit → Act → World → Prop} (hgd : Region.wanted o (yielded ops a.tmps) = true) (s x : Operand)
    (ho : o.op = .call { callee := .builtin .append, args := #[s, x], argTypes := #[t, t] })
    (base : Nat) (ad : Option Addr) (n cap : Nat) (xs : List α) (hv : a.eval s = .slice ad n cap) (hsl : Sl enc w ad n xs)
    (C : Array Value) (m c : Nat) (hy : a.eval x = .slice (some ⟨w.heap.size, 0, none⟩) m c) (hC : C.size = m) (hone : C.toList.all (·.oneCell') = true) (hfull : cap < n + m) (hnc : n ≤ cap) (hlen : (n + m) * bytes ≤ 140737488355328) (hm : n + m ≤ maxLen) (hbase : base ≤ w.heap.size)
    (h : ∀ v' w', w'.ownsRow base e 1 v' (n + m) (xs.map enc ++ C.toList) → Below base w w' → wpList Tryz.prog ops Q rest (a.put o.dst v') w') : wpList Tryz.prog ops Q (o :: rest) a (w.alloc (.cells C e)) :=
  wpList_app_full hO hgd s x t ho base ad n cap xs hv (hsl.below ((Below.refl _ _).alloc (Nat.le_refl _) _)) _ m _ hy (Src.lit (heap_alloc_last w _) hC hone hO.1) hfull hnc hlen hm (by simp; omega)
    (fun v' w' h1 h3 => h v' w' h1 (((Below.refl _ _).alloc hbase _).trans h3))
theorem own_mono {w : World} {B B' : Nat} {e : TypeId} {size : Nat} {v : Value} {n : Nat} {xs : List Value} (h : w.ownsRow B e size v n xs) (hB : B' ≤ B) : w.ownsRow B' e size v n xs := by
  obtain ⟨h1, h2⟩ := h
  refine ⟨h1, ?_⟩
  rcases h2 with h2 | ⟨g, cap, cur, hv, hb, hg, h3⟩
  · exact .inl h2
  · exact .inr ⟨g, cap, cur, hv, Nat.le_trans hB hb, hg, h3⟩
theorem results_cell_row_tmp {P : Program} {fn : Func} {p u : Tmp} {ty : TypeId} (h : fn.results = #[.cell p ty, .tmp u]) (tmps : Array Value) (w : World) (g : Nat) (t : TypeId) (cs : Array Value) (fr : Nat × Nat) (d : TypeDesc)
    (hp : tmps.getD p undef = .pointer (some ⟨g, 0, none⟩)) (hg : w.heap[g]? = some (.cells cs t fr))
    (hu : P.underlying ty = some d) (hd : (match d with | .struct _ | .array _ _ => true | _ => false) = true) (hi : (P.info? ty).map (·.size) = some cs.size) :
    (results fn tmps).run P w = .ok (.tuple #[.agg cs, tmps.getD u undef]) w := by
  rw [results_cell_tmp h, hp]
  simp [asAddr, run_loadVar_row w g t ty cs fr d hg hu hd hi, Result.andThen]
theorem Row.cap {k : IntKind} {w : World} {a : Option Addr} {len cap : Nat} {zs : List Int} (h : IsRow k w a len cap zs) : len ≤ cap := by
  rcases h with ⟨rfl, rfl, rfl, rfl⟩ | ⟨x, rfl, hl, hm, hz, hc, hwf⟩
  · exact Nat.le_refl _
  · exact hl
end Go.Proofs.YtlpjcfiibbcdjaaGreatDoor
