/- asm: own texts, merged (wip/merge2.py). No condition. -/
import Derived.Test.YtclpkipaehpkdaaGreatDoorQ00AsmNames
import Derived.Lib.Split
import Derived.Lib.CutLaws
set_option linter.unusedVariables false
set_option linter.unusedSimpArgs false
namespace Go.Proofs.YtclpkipaehpkdaaGreatDoor
open Go.ChangeShapes Go.WideShapes Go.ChangeAt Go.RowKit
theorem run_append_full {t e : TypeId} {z : Value} {bytes : Nat} (hO : OneE t e z bytes) {α : Type} {enc : α → Value} (base : Nat) {w : World} (tx ty : TypeId) {a : Option Addr} {n cap : Nat} {xs : List α} (hsl : Sl enc w a n xs)
    (y : Value) (m : Nat) (news : List Value) (hs : Src Tryz.prog 1 tx y m news w) (hfull : cap < n + m) (hnc : n ≤ cap) (hlen : (n + m) * bytes ≤ 140737488355328) (hm : n + m ≤ maxLen) (hbase : base ≤ w.heap.size) :
    ∃ v' w', (Builtin.append_ #[t, tx] ty #[.slice a n cap, y]).run Tryz.prog w = .ok v' w' ∧ w'.ownsRow base e 1 v' (n + m) (xs.map enc ++ news) ∧ Below base w w' := by
  obtain ⟨ht, hinf, hz⟩ := hO
  obtain ⟨i, hi, hz0, hz1, hz2⟩ := info_parts hinf
  have hl := hs.newsLen
  have hfc : (Builtin.firstCells i.size n (.slice a n cap)).run Tryz.prog w.drew = .ok (xs.map enc).toArray w.drew := by
    rw [hz1]
    by_cases hn : 0 < n
    · obtain ⟨b, off, rfl, _, hc⟩ := hsl.2 hn
      refine run_firstCells_some w.drew 1 n _ n cap _ (by simp [hsl.1]) (fun j u hu => ?_)
      rw [List.getElem?_map] at hu
      have hj : j < xs.length := by
        rcases Nat.lt_or_ge j xs.length with h | h
        · exact h
        · rw [List.getElem?_eq_none h] at hu; simp at hu
      rw [List.getElem?_eq_getElem hj] at hu
      simp only [Option.map_some, Option.some.injEq] at hu
      subst hu
      have hadd : (⟨b, off, none⟩ : Addr).add j = ⟨b, off + j, none⟩ := by unfold Addr.add; split <;> simp_all
      rw [hadd]
      exact hc j hj
    · have h0 : n = 0 := by omega
      subst h0
      have hx : xs = [] := List.eq_nil_of_length_eq_zero hsl.1
      subst hx
      cases a with
      | none => simp [Builtin.firstCells]
      | some ad => exact run_firstCells_some w.drew 1 0 ad 0 cap [] rfl (fun j u hu => by simp at hu)
  have hsmall : n + m ≤ 9223372036854775807 := by simp only [maxLen] at hm; omega
  subst hz2
  have hr := run_append_grow_src (P := Tryz.prog) w t tx ty e i z ht hi hz0 a n cap (xs.map enc) hfc y m news (by rw [hz1]; exact hs) hfull (by omega) (growslice_fits (by omega) hlen)
  refine ⟨_, _, hr, ?_, ?_⟩
  · have hlen2 : (xs.map enc ++ news).length = (n + m) * 1 := by simp [hsl.1, hl]
    have hge := grownCap_ge w (n + m) cap e
    have hcm : grownCap w (n + m) cap e ≤ maxLen := grownCap_le_maxLen w (n + m) cap e hm
    refine ⟨hlen2, .inr ⟨w.heap.size, _, _, rfl, hbase, heap_alloc_new w.drew _, hge, hcm, ?_, ?_⟩⟩
    · simp only [Array.size_append, List.size_toArray, size_zeroCells, hz, hlen2]
      omega
    · simp only [Array.toList_append]
      rw [← hlen2]
      exact List.take_left
  · exact ⟨rfl, rfl, rfl, by simp, fun k hk => Below.heap_alloc w.drew _ k (by show k < w.heap.size; omega)⟩
theorem wpList_app_full {t e : TypeId} {z : Value} {bytes : Nat} (hO : OneE t e z bytes) {α : Type} {enc : α → Value} {w : World} {ops : Array Oper} {rest : List Oper} {o : Oper} {a : Act} {Q : Exit → Act → World → Prop} (hgd : Region.wanted o (yielded ops a.tmps) = true) (s x : Operand) (tx : TypeId)
    (ho : o.op = .call { callee := .builtin .append, args := #[s, x], argTypes := #[t, tx] })
    (base : Nat) (ad : Option Addr) (n cap : Nat) (xs : List α) (hv : a.eval s = .slice ad n cap) (hsl : Sl enc w ad n xs)
    (y : Value) (m : Nat) (news : List Value) (hy : a.eval x = y) (hs : Src Tryz.prog 1 tx y m news w) (hfull : cap < n + m) (hnc : n ≤ cap) (hlen : (n + m) * bytes ≤ 140737488355328) (hm : n + m ≤ maxLen) (hbase : base ≤ w.heap.size)
    (h : ∀ v' w', w'.ownsRow base e 1 v' (n + m) (xs.map enc ++ news) → Below base w w' → wpList Tryz.prog ops Q rest (a.put o.dst v') w') : wpList Tryz.prog ops Q (o :: rest) a w := by
  obtain ⟨v', w', hr, h2, h3⟩ := run_append_full hO base tx o.type hsl y m news hs hfull hnc hlen hm hbase
  refine wpList_step fun K hK => ?_
  rw [if_pos hgd]
  unfold Oper.wp execOp
  simp only [ho, resolve, invoke, builtin, Sem.run_bind, Sem.run_pure, Result.andThen_ok, List.map_toArray, List.map_cons, List.map_nil, hv, hy, hr]
  exact hK _ _ (h v' w' h2 h3)
theorem wpList_app_full_lit {t e : TypeId} {z : Value} {bytes : Nat} (hO : OneE t e z bytes) {α : Type} {enc : α → Value} {w : World} {ops : Array Oper} {rest : List Oper} {o : Oper} {a : Act} {Q : Exit → Act → World → Prop} (hgd : Region.wanted o (yielded ops a.tmps) = true) (s x : Operand)
    (ho : o.op = .call { callee := .builtin .append, args := #[s, x], argTypes := #[t, t] })
    (base : Nat) (ad : Option Addr) (n cap : Nat) (xs : List α) (hv : a.eval s = .slice ad n cap) (hsl : Sl enc w ad n xs)
    (C : Array Value) (m c : Nat) (hy : a.eval x = .slice (some ⟨w.heap.size, 0, none⟩) m c) (hC : C.size = m) (hone : C.toList.all (·.oneCell') = true) (hfull : cap < n + m) (hnc : n ≤ cap) (hlen : (n + m) * bytes ≤ 140737488355328) (hm : n + m ≤ maxLen) (hbase : base ≤ w.heap.size)
    (h : ∀ v' w', w'.ownsRow base e 1 v' (n + m) (xs.map enc ++ C.toList) → Below base w w' → wpList Tryz.prog ops Q rest (a.put o.dst v') w') : wpList Tryz.prog ops Q (o :: rest) a (w.alloc (.cells C e)) :=
  wpList_app_full hO hgd s x t ho base ad n cap xs hv (hsl.below ((Below.refl _ _).alloc (Nat.le_refl _) _)) _ m _ hy (Src.lit (heap_alloc_last w _) hC hone hO.1) hfull hnc hlen hm (by simp; omega)
    (fun v' w' h1 h3 => h v' w' h1 (((Below.refl _ _).alloc hbase _).trans h3))
theorem own_mono {w : World} {B B' : Nat} {e : TypeId} {size : Nat} {v : Value} {n : Nat} {xs : List Value} (h : w.ownsRow B e size v n xs) (hB : B' ≤ B) : w.ownsRow B' e size v n xs := by
  obtain ⟨h1, h2⟩ := h
  refine ⟨h1, ?_⟩
  rcases h2 with h2 | ⟨g, cap, cur, hv, hb, hg, h3⟩
  · exact .inl h2
  · exact .inr ⟨g, cap, cur, hv, Nat.le_trans hB hb, hg, h3⟩
theorem results_cell_row_tmp {P : Program} {fn : Func} {p u : Tmp} {ty : TypeId} (h : fn.results = #[.cell p ty, .tmp u]) (tmps : Array Value) (w : World) (g : Nat) (t : TypeId) (cs : Array Value) (fr : Nat × Nat) (d : TypeDesc)
    (hp : tmps.getD p undef = .pointer (some ⟨g, 0, none⟩)) (hg : w.heap[g]? = some (.cells cs t fr))
    (hu : P.underlying ty = some d) (hd : (match d with | .struct _ | .array _ _ => true | _ => false) = true) (hi : (P.info? ty).map (·.size) = some cs.size) :
    (results fn tmps).run P w = .ok (.tuple #[.agg cs, tmps.getD u undef]) w := by
  rw [results_cell_tmp h, hp]
  simp [asAddr, run_loadVar_row w g t ty cs fr d hg hu hd hi, Result.andThen]
theorem Row.cap {k : IntKind} {w : World} {a : Option Addr} {len cap : Nat} {zs : List Int} (h : IsRow k w a len cap zs) : len ≤ cap := by
  rcases h with ⟨rfl, rfl, rfl, rfl⟩ | ⟨x, rfl, hl, hm, hz, hc, hwf⟩
  · exact Nat.le_refl _
  · exact hl
end Go.Proofs.YtclpkipaehpkdaaGreatDoor

namespace Go.Proofs.YtclpkipaehpkdaaGreatDoor
open Go.RowKit
def E {n : Nat} (v : BitVec n) : Int := (v.toNat : Int)
end Go.Proofs.YtclpkipaehpkdaaGreatDoor

namespace Go.Proofs.YtclpkipaehpkdaaGreatDoor
open Go.ChangeShapes Go.WideShapes Go.ChangeAt Go.RowKit
theorem oneN : OneE 43 5 (.int .u8 0) 1 := ⟨Tryz.underlying43, by kernel_rfl, rfl⟩

def IntR (n : Int) : Prop := -9223372036854775808 ≤ n ∧ n ≤ 9223372036854775807

set_option maxRecDepth 100000 in
set_option maxHeartbeats 1000000 in
theorem right_any (w : World) (n : Int) : Calls Tryz.prog 174 #[.int .i64 n] w fun e w' => e = .returned (.bool (decide (1 ≤ n ∧ n ≤ 8))) ∧ w = w' := by
  by_cases h1 : 1 ≤ n
  · by_cases h2 : n ≤ 8
    · rw [decide_eq_true ⟨h1, h2⟩]
      go_enter Tryz.func174, Tryz.ntmps174
      go_wp2
      go_ret
      exact ⟨rfl, rfl⟩
    · rw [decide_eq_false (by omega)]
      go_enter Tryz.func174, Tryz.ntmps174
      go_wp2
      go_ret
      exact ⟨rfl, rfl⟩
  · rw [decide_eq_false (by omega)]
    go_enter Tryz.func174, Tryz.ntmps174
    go_wp2
    go_ret
    exact ⟨rfl, rfl⟩

set_option maxRecDepth 100000 in
set_option maxHeartbeats 2000000 in
theorem Get_any (w : World) (a : Option Addr) (len cap : Nat) (bs : List UInt8) (i n : Int) (hs : Sl encB w a len bs) (hl : len ≤ 1048576) (hcap : len ≤ cap) (hi : IntR i) (hn : IntR n) :
    Calls Tryz.prog 147 #[.slice a len cap, .int .i64 i, .int .i64 n] w fun e w' => e = .returned (.tuple #[.int .u64 (getR bs i n).1, .int .i64 (getR bs i n).2]) ∧ w = w' := by
  have hbl := hs.1
  have HS := Lib.hid hs
  obtain ⟨i1, i2⟩ := hi
  obtain ⟨n1, n2⟩ := hn
  clear hs
  by_cases c1 : n < 1 ∨ 8 < n
  · have hR : getR bs i n = (0, 1) := by unfold getR; rw [if_pos c1]
    rw [hR]
    have hd : decide (1 ≤ n ∧ n ≤ 8) = false := decide_eq_false (by omega)
    clear hR
    go_enter Tryz.func147, Tryz.ntmps147
    go_wp2_with fail
    refine (right_any _ n).mono ?_
    rw [hd]
    rintro e w' ⟨rfl, rfl⟩
    go_wp2
    go_ret2
    exact ⟨rfl, rfl⟩
  have hd : decide (1 ≤ n ∧ n ≤ 8) = true := decide_eq_true (by omega)
  by_cases c2 : i < 0 ∨ (len : Int) < i ∨ (len : Int) - i < n
  · have hR : getR bs i n = (0, 6) := by unfold getR; rw [if_neg c1, hbl, if_pos c2]
    rw [hR]
    clear hR
    by_cases d1 : i < 0
    · have e1 := decide_eq_true d1
      go_enter Tryz.func147, Tryz.ntmps147
      go_wp2_with fail
      refine (right_any _ n).mono ?_
      rw [hd]
      rintro e w' ⟨rfl, rfl⟩
      go_wp2
      go_ret2
      exact ⟨rfl, rfl⟩
    have e1 := decide_eq_false d1
    by_cases d2 : (len : Int) < i
    · have e2 := decide_eq_true d2
      go_enter Tryz.func147, Tryz.ntmps147
      go_wp2_with fail
      refine (right_any _ n).mono ?_
      rw [hd]
      rintro e w' ⟨rfl, rfl⟩
      go_wp2
      go_ret2
      exact ⟨rfl, rfl⟩
    have e2 := decide_eq_false d2
    have e3 := decide_eq_true (show (len : Int) - i < n by omega)
    go_enter Tryz.func147, Tryz.ntmps147
    go_wp2_with fail
    refine (right_any _ n).mono ?_
    rw [hd]
    rintro e w' ⟨rfl, rfl⟩
    go_wp2
    go_ret2
    exact ⟨rfl, rfl⟩
  · have hR : getR bs i n = (((getN ((bs.drop i.toNat).take n.toNat) : Nat) : Int), (0 : Int)) := by unfold getR; rw [if_neg c1, hbl, if_neg c2]
    rw [hR]
    clear hR
    obtain ⟨j, rfl⟩ : ∃ j : Nat, i = j := ⟨i.toNat, by omega⟩
    obtain ⟨m, rfl⟩ : ∃ m : Nat, n = m := ⟨n.toNat, by omega⟩
    have j1 : j + m ≤ len := by omega
    have m1 : 1 ≤ m := by omega
    have m2 : m ≤ 8 := by omega
    clear i1 i2 n1 n2 c1 c2
    simp only [Int.toNat_natCast]
    obtain ⟨b, off, rfl, hbw, hc⟩ := HS.out.2 (by omega)
    have HC := Lib.hid hc
    obtain ⟨cs, hcs⟩ : ∃ cs, cs = (bs.drop j).take m := ⟨_, rfl⟩
    rw [← hcs]
    have HCS := Lib.hid hcs
    have hcl : cs.length = m := by rw [hcs]; simp; omega
    have HCL := Lib.hid hcl
    clear hcs hc hcl
    have e1 := decide_eq_false (show ¬ (j : Int) < 0 by omega)
    have e2 := decide_eq_false (show ¬ (len : Int) < (j : Int) by omega)
    have e3 := decide_eq_false (show ¬ (len : Int) - (j : Int) < (m : Int) by omega)
    have g1 : (0 : Int) ≤ (j : Int) := by omega
    have g2 : (j : Int) ≤ (len : Int) := by omega
    have g3 : (0 : Int) ≤ (m : Int) := by omega
    have g4 : (m : Int) ≤ (cap : Int) - (j : Int) := by omega
    have g5 : (len : Int) ≤ (cap : Int) := by omega
    go_enter Tryz.func147, Tryz.ntmps147
    go_wp2_with fail
    refine (right_any _ m).mono ?_
    rw [hd]
    rintro e w' ⟨rfl, rfl⟩
    go_wp2_with fail
    go_loopw [8, 38] (fun v i wr => ∃ k x : Nat, k ≤ m ∧ i = .int .i64 k ∧ v = .int .u64 x ∧ Hid (x = getN (cs.take k)) ∧ wr = w) (fun _ i _ => m - (intOf i).toNat)
    case atStart => exact ⟨0, 0, Nat.zero_le _, rfl, rfl, rfl, rfl⟩
    case round =>
      obtain ⟨k, x, hk, rfl, rfl, HX, rfl⟩ := hrel
      by_cases hlt : k < m
      · have hck : wr.cell? ⟨b, off + j + k, none⟩ = some (.int .u8 ((cs[k]'(by rw [HCL.out]; exact hlt)).toNat : Int)) := by
          have h1 := HC.out (j + k) (by omega)
          rw [Nat.add_assoc, h1]
          simp only [HCS.out, List.getElem_take, List.getElem_drop]
          rfl
        obtain ⟨c, hcc⟩ : ∃ c, c = (cs[k]'(by rw [HCL.out]; exact hlt)).toNat := ⟨_, rfl⟩
        rw [← hcc] at hck
        have hcl : c < 256 := by rw [hcc]; exact (cs[k]'(by rw [HCL.out]; exact hlt)).toNat_lt
        have HCC := Lib.hid hcc
        clear hcc
        have hx7 : x < 72057594037927936 := by rw [HX.out]; exact getN_take_lt _ _ (by omega)
        have hor := or64_join (x := x * 256) (y := c) (by omega) hcl (by omega)
        rw [show ((x * 256 : Nat) : Int) = (x : Int) * 256 by omega] at hor
        go_wp2
        go_roundw
        case rel => exact ⟨k + 1, x * 256 + c, by omega, by go_num, by go_num, by show _ = _; rw [getN_take cs k (by rw [HCL.out]; exact hlt), ← HX.out, ← HCC.out], trivial⟩
        case measure => simp [intOf]; omega
      · obtain rfl : k = m := by omega
        go_wp2
        go_ret2
        have h1 := HX.out
        rw [List.take_of_length_le (by rw [HCL.out]; omega)] at h1
        rw [h1]
        exact ⟨rfl, rfl⟩

set_option maxRecDepth 100000 in
set_option maxHeartbeats 2000000 in
theorem Put_any (w : World) (a : Option Addr) (len cap : Nat) (bs : List UInt8) (v n : Nat) (hs : Sl encB w a len bs) (hl : len ≤ 1048576) (hcap : len ≤ cap) (hv : v < 18446744073709551616) (n1 : 1 ≤ n) (n2 : n ≤ 8) :
    Calls Tryz.prog 157 #[.slice a len cap, .int .u64 v, .int .i64 n] w (OwnRet encB 5 w.heap.size w (bs ++ putB v n)) := by
  have HS := Lib.hid hs
  clear hs
  have hd : decide (1 ≤ (n : Int) ∧ (n : Int) ≤ 8) = true := decide_eq_true (by omega)
  have g5 : (len : Int) ≤ (cap : Int) := by omega
  go_enter Tryz.func157, Tryz.ntmps157
  go_wp2_with fail
  refine (right_any _ n).mono ?_
  rw [hd]
  rintro e w' ⟨rfl, rfl⟩
  go_wp2_with fail
  go_loopw [0, 19] (fun s i wr => ∃ k : Nat, k ≤ n ∧ i = .int .i64 k ∧ (k = 0 ∧ s = .slice a len len ∨ 0 < k ∧ Hid (wr.ownsRow w.heap.size 5 1 s (len + k) ((bs ++ (putB v n).take k).map encB))) ∧ Hid (Below w.heap.size w wr)) (fun _ i _ => n - (intOf i).toNat)
  case atStart => exact ⟨0, Nat.zero_le _, rfl, .inl ⟨rfl, rfl⟩, Below.refl _ _⟩
  case round =>
    obtain ⟨k, hk, rfl, hor, HW⟩ := hrel
    by_cases hlt : k < n
    · rcases hor with ⟨rfl, rfl⟩ | ⟨hk0, HO⟩
      · go_wp2_with (at_builtin; refine wpList_app_full_lit (enc := encB) oneN rfl _ _ rfl w.heap.size a len len bs rfl (HS.out.below HW.out) _ 1 _ rfl rfl rfl (by omega) (Nat.le_refl _) (by omega) (by unfold maxLen; omega) HW.out.size ?_; intro v1 w1 hown1 hb1; rw [shr_byte] at hown1; have HO1 := Lib.hid hown1; have HB1 := Lib.hid (HW.out.trans hb1); clear hown1 hb1)
        go_roundw
        case rel => exact ⟨1, by omega, by go_num, .inr ⟨by omega, by rw [putB_take1 v n (by omega), List.map_append]; simp only [List.map_cons, List.map_nil, encB_byte]; exact HO1⟩, HB1⟩
        case measure => simp [intOf]; omega
      · go_wp2_with (at_builtin; refine wpList_app_lit oneN rfl _ _ rfl w.heap.size _ _ _ rfl HO.out _ 1 _ rfl rfl rfl (by omega) (by unfold maxLen; omega) HW.out.size ?_; intro v1 w1 hown1 hg1 hb1; rw [shr_byte] at hown1; have HO1 := Lib.hid hown1; have HB1 := Lib.hid (HW.out.trans hb1); clear hown1 hb1 hg1)
        go_roundw
        case rel => exact ⟨k + 1, by omega, by go_num, .inr ⟨by omega, by rw [putB_take v n k hlt, ← List.append_assoc, List.map_append (l₁ := bs ++ _)]; simp only [List.map_cons, List.map_nil, encB_byte]; exact HO1⟩, HB1⟩
        case measure => simp [intOf]; omega
    · obtain rfl : k = n := by omega
      rcases hor with ⟨rfl, rfl⟩ | ⟨hk0, HO⟩
      · omega
      go_wp2
      go_ret
      exact ⟨_, _, rfl, by have h := HO.out; rwa [List.take_of_length_le (by rw [putB_length]; omega)] at h, HW.out⟩

set_option maxRecDepth 100000 in
set_option maxHeartbeats 2000000 in
theorem Put_odd (w : World) (a : Option Addr) (len cap : Nat) (v n : Int) (hcap : len ≤ cap) (hn : n < 1 ∨ 8 < n) :
    Calls Tryz.prog 157 #[.slice a len cap, .int .u64 v, .int .i64 n] w fun e w' => e = .returned (.slice a len len) ∧ w = w' := by
  have hd : decide (1 ≤ n ∧ n ≤ 8) = false := decide_eq_false (by omega)
  have g5 : (len : Int) ≤ (cap : Int) := by omega
  go_enter Tryz.func157, Tryz.ntmps157
  go_wp2_with fail
  refine (right_any _ n).mono ?_
  rw [hd]
  rintro e w' ⟨rfl, rfl⟩
  go_wp2
  go_ret
  exact ⟨rfl, rfl⟩

end Go.Proofs.YtclpkipaehpkdaaGreatDoor

namespace Go.Proofs.YtclpkipaehpkdaaGreatDoor
open Go.ChangeShapes Go.WideShapes Go.ChangeAt Go.RowKit
structure VW (w : World) : Prop where
  m : ∃ m, w.cell? ⟨0, 0, none⟩ = some (.int .i64 m)
theorem cell_below {w w' : World} {a : Addr} {v : Value} (h : w.cell? a = some v) (hb : Below w.heap.size w w') : w'.cell? a = some v := by
  have hlt : a.block < w.heap.size := by
    rcases Nat.lt_or_ge a.block w.heap.size with h1 | h1
    · exact h1
    · exfalso
      have : w.heap[a.block]? = none := Array.getElem?_eq_none (by omega)
      simp [World.cell?, this] at h
  rw [← h]
  unfold World.cell?
  rw [hb.block _ hlt]
theorem VW.below {w w' : World} (h : VW w) (hb : Below w.heap.size w w') : VW w' := by
  obtain ⟨m, hm⟩ := h
  exact ⟨m, cell_below hm hb⟩
theorem below_dn (w : World) : ∀ n, Below w.heap.size w (w.drewN n)
  | 0 => Below.refl _ _
  | n + 1 => (below_dn w n).drew
theorem dn_heap (w : World) : ∀ n, (w.drewN n).heap = w.heap
  | 0 => rfl
  | n + 1 => dn_heap w n
theorem bytes_str (s : ByteArray) : (⟨s.data.toList.toArray⟩ : ByteArray) = s := by cases s; simp
def sp (c : UInt8) : List UInt8 → List (List UInt8)
  | [] => [[]]
  | b :: l => if b = c then [] :: sp c l else match sp c l with | [] => [[b]] | x :: xs => (b :: x) :: xs
theorem index_one_nil (c : UInt8) : Lib.index [] [c] = -1 := by unfold Lib.index; simp
theorem index_one_cons (b c : UInt8) (l : List UInt8) : Lib.index (b :: l) [c] = if b = c then 0 else if Lib.index l [c] = -1 then -1 else Lib.index l [c] + 1 := by
  rw [Lib.index]
  by_cases h : b = c
  · subst h; simp
  · have : ¬ c = b := fun e => h e.symm
    simp [h, this]
theorem sp_miss (c : UInt8) : ∀ s, Lib.index s [c] = -1 → sp c s = [s]
  | [], _ => rfl
  | b :: l, h => by
    rw [index_one_cons] at h
    split at h
    · cases h
    · next hb =>
      have hg := Lib.index_ge l [c]
      split at h
      · next h1 => simp [sp, hb, sp_miss c l h1]
      · omega
theorem sp_hit (c : UInt8) : ∀ s (i : Nat), Lib.index s [c] = i → sp c s = s.take i :: sp c (s.drop (i + 1))
  | [], i, h => by rw [index_one_nil] at h; omega
  | b :: l, i, h => by
    rw [index_one_cons] at h
    split at h
    · next hb => have : i = 0 := by omega
                 subst this; simp [sp, hb]
    · next hb =>
      have hg := Lib.index_ge l [c]
      split at h
      · omega
      · obtain ⟨k, rfl⟩ : ∃ k, i = k + 1 := ⟨i - 1, by omega⟩
        simp [sp, hb, sp_hit c l k (by omega)]
theorem split_sp (c : UInt8) : ∀ (n : Nat) (s : List UInt8), s.length ≤ n → Lib.splitK [c] 0 (Lib.count s [c]) s = sp c s ∧ (sp c s).length = Lib.count s [c] + 1 := by
  intro n
  induction n with
  | zero =>
    intro s h
    have : s = [] := List.eq_nil_of_length_eq_zero (by omega)
    subst this
    rw [Lib.count_miss (index_one_nil c)]
    exact ⟨rfl, rfl⟩
  | succ n ih =>
    intro s h
    by_cases h1 : Lib.index s [c] = -1
    · rw [Lib.count_miss h1, sp_miss c s h1]; exact ⟨rfl, rfl⟩
    · have hg := Lib.index_ge s [c]
      obtain ⟨i, hi⟩ : ∃ i : Nat, Lib.index s [c] = i := ⟨(Lib.index s [c]).toNat, by omega⟩
      have hne : 0 < s.length := by
        rcases Nat.eq_zero_or_pos s.length with h0 | h0
        · have : s = [] := List.eq_nil_of_length_eq_zero h0
          subst this; exact absurd (index_one_nil c) h1
        · exact h0
      obtain ⟨e1, e2⟩ := ih (s.drop (i + 1)) (by rw [List.length_drop]; omega)
      rw [Lib.count_hit (by simp) hi, sp_hit c s i hi]
      constructor
      · rw [Nat.add_comm, Lib.splitK, if_neg (by simp [hi]), hi]
        simp only [Int.toNat_natCast, Nat.add_zero, List.length_singleton]
        rw [e1]
      · simp only [List.length_cons, List.length_nil, Nat.zero_add]
        rw [e2]; omega
theorem Split_any (w : World) (s : List UInt8) (c : UInt8) (hs : s.length ≤ 4294967000) (hv : VW w) :
    Calls Tryz.prog 84 #[.string ⟨s.toArray⟩, .string ⟨#[c]⟩] w fun e w' =>
      e = .returned (.slice (some ⟨w.heap.size, 0, none⟩) (sp c s).length (sp c s).length) ∧ w' = w.alloc (.cells ((sp c s).map fun x => Value.string ⟨x.toArray⟩).toArray 9) := by
  obtain ⟨m, hm⟩ := hv.m
  refine (Tryz.strings_Split ⟨s.toArray⟩ ⟨#[c]⟩ m w (by simp [ByteArray.size]; omega) hm (Nat.le_refl 1)).mono ?_
  rintro e w' ⟨rfl, rfl⟩
  obtain ⟨e1, e2⟩ := split_sp c s.length s (Nat.le_refl _)
  have e3 := Lib.splitB_data ⟨#[c]⟩ 0 (Lib.countB ⟨s.toArray⟩ ⟨#[c]⟩) ⟨s.toArray⟩
  have e4 : (Lib.splitB ⟨#[c]⟩ 0 (Lib.countB ⟨s.toArray⟩ ⟨#[c]⟩) ⟨s.toArray⟩).map Value.string = (sp c s).map fun x => Value.string ⟨x.toArray⟩ := by
    rw [← e1]
    rw [show Lib.splitK [c] 0 (Lib.count s [c]) s = _ from e3.symm, List.map_map]
    refine List.map_congr_left fun x _ => ?_
    simp [bytes_str]
  rw [e2]
  exact ⟨rfl, by rw [e4]⟩
theorem cut_miss (c : UInt8) (s : List UInt8) (h : Lib.index s [c] = -1) : Lib.cut s [c] = (s, [], false) := by unfold Lib.cut; rw [if_neg (by omega)]
theorem cut_hit (c : UInt8) (s : List UInt8) (i : Nat) (h : Lib.index s [c] = i) : Lib.cut s [c] = (s.take i, s.drop (i + 1), true) := by unfold Lib.cut; rw [if_pos (by omega), h]; simp
theorem Cut_any (w : World) (s : List UInt8) (c : UInt8) (hs : s.length ≤ 4294967000) (hv : VW w) :
    Calls Tryz.prog 96 #[.string ⟨s.toArray⟩, .string ⟨#[c]⟩] w fun e w' =>
      e = .returned (.tuple #[.string ⟨(Lib.cut s [c]).1.toArray⟩, .string ⟨(Lib.cut s [c]).2.1.toArray⟩, .bool (Lib.cut s [c]).2.2]) ∧ Below w.heap.size w w' ∧ w'.heap = w.heap := by
  obtain ⟨m, hm⟩ := hv.m
  refine (Tryz.strings_Cut ⟨s.toArray⟩ ⟨#[c]⟩ m w (by simp [ByteArray.size]; omega) hm).mono ?_
  rintro e w' ⟨rfl, n, rfl⟩
  exact ⟨rfl, below_dn w n, dn_heap w n⟩
theorem str_app (xs ys : List UInt8) : ((⟨xs.toArray⟩ : ByteArray) ++ (⟨ys.toArray⟩ : ByteArray)) = ⟨(xs ++ ys).toArray⟩ := by
  apply ByteArray.ext
  simp
end Go.Proofs.YtclpkipaehpkdaaGreatDoor

namespace Go.Proofs.YtclpkipaehpkdaaGreatDoor
def encU (x : UInt16) : Value := .int .u16 (x.toNat : Int)
def tailN (bs : List UInt8) (i : Nat) : Nat × Bool :=
  match bs[i]? with
  | some c => if c.toNat / 64 = 2 then (c.toNat % 64, true) else (0, false)
  | none => (0, false)
theorem tailN_lt (bs : List UInt8) (i : Nat) : (tailN bs i).1 < 64 := by
  unfold tailN
  split
  · split
    · exact Nat.mod_lt _ (by decide)
    · decide
  · decide
def takeOf (c : Nat) (x : Nat) (one : Bool) (y : Nat) (both : Bool) : Nat × Nat :=
  if c ≠ 0 ∧ c < 128 then (c, 1)
  else if c / 32 = 6 ∧ one = true then (if c % 32 * 64 + x = 0 ∨ 128 ≤ c % 32 * 64 + x then (c % 32 * 64 + x, 2) else (0, 0))
  else if c / 16 = 14 ∧ one = true ∧ both = true then (if 2048 ≤ c % 16 * 4096 + x * 64 + y then (c % 16 * 4096 + x * 64 + y, 3) else (0, 0))
  else (0, 0)
def takeN (bs : List UInt8) : Nat × Nat := takeOf ((bs[0]?).getD 0).toNat (tailN bs 1).1 (tailN bs 1).2 (tailN bs 2).1 (tailN bs 2).2
theorem or16_join {x y : Nat} (i : Nat) (hx : x % 2 ^ i = 0) (hy : y < 2 ^ i) (h : x + y < 65536) : bits .or .u16 (x : Int) (y : Int) = (x : Int) + y := by
  rw [u16_or_nat x y (by omega) (by omega), nat_join i x y hx hy]
  push_cast; rfl
def decodeF : Nat → List UInt8 → Option (List UInt16)
  | _, [] => some []
  | 0, _ => none
  | f + 1, c :: t => if (takeN (c :: t)).2 = 0 then none else (decodeF f ((c :: t).drop (takeN (c :: t)).2)).map (UInt16.ofNat (takeN (c :: t)).1 :: ·)
def decodeB (bs : List UInt8) : Option (List UInt16) := decodeF bs.length bs
theorem tailN_some {bs : List UInt8} {i : Nat} (h : (tailN bs i).2 = true) : i < bs.length := by
  unfold tailN at h
  split at h
  · rename_i c hc
    exact (List.getElem?_eq_some_iff.1 hc).1
  · simp at h
theorem takeN_le {bs : List UInt8} (h : bs ≠ []) : (takeN bs).2 ≤ bs.length ∧ (takeN bs).1 < 65536 := by
  have hl : 0 < bs.length := List.length_pos_iff.2 h
  have hx := tailN_lt bs 1
  have hy := tailN_lt bs 2
  have hc := (bs[0]?.getD 0).toNat_lt
  unfold takeN takeOf
  split
  · exact ⟨hl, by simp only; omega⟩
  split
  · rename_i h1
    have := tailN_some h1.2
    split
    · exact ⟨this, by simp only; omega⟩
    · exact ⟨by simp, by simp⟩
  split
  · rename_i h1
    have := tailN_some h1.2.2
    split
    · exact ⟨this, by simp only; omega⟩
    · exact ⟨by simp, by simp⟩
  · exact ⟨by simp, by simp⟩
theorem decodeF_step {f : Nat} {bs : List UInt8} (hf : bs.length ≤ f + 1) (h : bs ≠ []) : decodeF (f + 1) bs = if (takeN bs).2 = 0 then none else (decodeF f (bs.drop (takeN bs).2)).map (UInt16.ofNat (takeN bs).1 :: ·) := by
  cases bs with
  | nil => exact absurd rfl h
  | cons c t => rw [decodeF]

end Go.Proofs.YtclpkipaehpkdaaGreatDoor

namespace Go.Proofs.YtclpkipaehpkdaaGreatDoor
open Go.ChangeShapes Go.WideShapes Go.ChangeAt Go.RowKit
theorem oneU : OneE 215 231 (.int .u16 0) 2 := ⟨Tryz.underlying215, by kernel_rfl, rfl⟩

set_option maxRecDepth 100000 in
set_option maxHeartbeats 1000000 in
theorem tail_any (w : World) (a : Option Addr) (n cap : Nat) (bs : List UInt8) (i : Nat) (hs : Sl encB w a n bs) (hn : n ≤ 65536) (hi : i ≤ 65536) :
    Calls Tryz.prog 186 #[.slice a n cap, .int .i64 i] w fun e w' => e = .returned (.tuple #[.int .u16 ((tailN bs i).1 : Nat), .bool (tailN bs i).2]) ∧ w = w' := by
  have HS := Lib.hid hs
  clear hs
  by_cases hin : i < n
  · obtain ⟨b, off, rfl, hbl, hc⟩ := HS.out.2 (by omega)
    have hil : i < bs.length := by rw [HS.out.1]; exact hin
    have hck : w.cell? ⟨b, off + i, none⟩ = some (.int .u8 (bs[i].toNat : Int)) := hc i hil
    have hT : tailN bs i = if bs[i].toNat / 64 = 2 then (bs[i].toNat % 64, true) else (0, false) := by
      unfold tailN; rw [List.getElem?_eq_getElem hil]
    obtain ⟨c, hcq⟩ : ∃ c, c = bs[i].toNat := ⟨_, rfl⟩
    have hc2 : c < 256 := by have := bs[i].toNat_lt; omega
    rw [← hcq] at hck hT
    have HT := Lib.hid hT
    clear hT hcq hc hbl
    by_cases h2 : c / 64 = 2
    · have HH := Lib.hid h2
      have h3 : ((c : Int) / 64 != 2) = false := by simp; omega
      clear h2
      go_enter Tryz.func186, Tryz.ntmps186
      go_wp2
      go_ret2
      exact ⟨by rw [HT.out, if_pos HH.out]; rfl, rfl⟩
    · have HH := Lib.hid h2
      have h3 : ((c : Int) / 64 != 2) = true := by simp; omega
      clear h2
      go_enter Tryz.func186, Tryz.ntmps186
      go_wp2
      go_ret2
      exact ⟨by rw [HT.out, if_neg HH.out]; rfl, rfl⟩
  · have hT : tailN bs i = (0, false) := by
      unfold tailN; rw [List.getElem?_eq_none (by rw [HS.out.1]; omega)]
    have HT := Lib.hid hT
    clear hT
    go_enter Tryz.func186, Tryz.ntmps186
    go_wp2
    go_ret2
    exact ⟨by rw [HT.out]; rfl, rfl⟩

def TakeRet (w : World) (p : Nat × Nat) (e : Ending) (w' : World) : Prop := e = .returned (.tuple #[.int .u16 (p.1 : Nat), .int .i64 (p.2 : Nat)]) ∧ w = w'

set_option maxRecDepth 100000 in
set_option maxHeartbeats 2000000 in
theorem take_any (w : World) (a : Option Addr) (n cap : Nat) (bs : List UInt8) (hs : Sl encB w a n bs) (hn : n ≤ 65536) (hp : 0 < n) :
    Calls Tryz.prog 183 #[.slice a n cap] w (TakeRet w (takeN bs)) := by
  have HS := Lib.hid hs
  clear hs
  obtain ⟨b, off, rfl, hbl, hc⟩ := HS.out.2 hp
  have hil : 0 < bs.length := by rw [HS.out.1]; exact hp
  have hck : w.cell? ⟨b, off, none⟩ = some (.int .u8 (bs[0].toNat : Int)) := hc 0 hil
  have hx := tailN_lt bs 1
  have hy := tailN_lt bs 2
  have hT : takeN bs = takeOf bs[0].toNat (tailN bs 1).1 (tailN bs 1).2 (tailN bs 2).1 (tailN bs 2).2 := by
    unfold takeN; rw [List.getElem?_eq_getElem hil]; rfl
  have t1 := fun w' hh => tail_any w' (some ⟨b, off, none⟩) n cap bs 1 hh hn (by decide)
  have t2 := fun w' hh => tail_any w' (some ⟨b, off, none⟩) n cap bs 2 hh hn (by decide)
  obtain ⟨c, hcq⟩ : ∃ c, c = bs[0].toNat := ⟨_, rfl⟩
  have hc2 : c < 256 := by have := bs[0].toNat_lt; omega
  rw [← hcq] at hck hT
  obtain ⟨x, hxq⟩ : ∃ x, x = (tailN bs 1).1 := ⟨_, rfl⟩
  obtain ⟨one, h1q⟩ : ∃ x, x = (tailN bs 1).2 := ⟨_, rfl⟩
  obtain ⟨y, hyq⟩ : ∃ x, x = (tailN bs 2).1 := ⟨_, rfl⟩
  obtain ⟨both, h2q⟩ : ∃ x, x = (tailN bs 2).2 := ⟨_, rfl⟩
  rw [← hxq] at hx hT t1
  rw [← h1q] at hT t1
  rw [← hyq] at hy hT t2
  rw [← h2q] at hT t2
  have T1 := Lib.hid t1
  have T2 := Lib.hid t2
  rw [hT]
  clear hxq h1q hyq h2q hcq hc hbl hT t1 t2
  have o1 := or16_join (x := c % 32 * 64) (y := x) 6 (by omega) (by omega) (by omega)
  have o2 := or16_join (x := c % 16 * 4096) (y := x * 64) 12 (by omega) (by omega) (by omega)
  have o3 := or16_join (x := c % 16 * 4096 + x * 64) (y := y) 6 (by omega) (by omega) (by omega)
  push_cast at o1 o2 o3
  have a1 := u8_and15 (x := (c : Int)) (by omega) (by omega)
  go_enter Tryz.func183, Tryz.ntmps183
  go_wp2_with fail
  refine (T1.out _ HS.out).mono ?_
  rintro e w1 ⟨rfl, rfl⟩
  go_wp2_with fail
  refine (T2.out _ HS.out).mono ?_
  rintro e w1 ⟨rfl, rfl⟩
  clear T1 T2
  by_cases c1 : c ≠ 0 ∧ c < 128
  · have HR := Lib.hid (show takeOf c x one y both = (c, 1) by unfold takeOf; rw [if_pos c1])
    obtain ⟨c1, c2⟩ := c1
    have c3 : ((c : Int) != 0) = true := by simp; omega
    clear c1
    go_wp2
    go_ret2
    exact ⟨by rw [HR.out]; rfl, rfl⟩
  have HN := Lib.hid c1
  by_cases c0 : c = 0
  · subst c0
    have HR := Lib.hid (show takeOf 0 x one y both = (0, 0) by unfold takeOf; simp)
    clear c1
    go_wp2
    go_ret2
    exact ⟨by rw [HR.out]; rfl, rfl⟩
  have c2 : 128 ≤ c := by omega
  have c3 : ((c : Int) != 0) = true := by simp; omega
  clear c1 c0
  by_cases c6 : c / 32 = 6
  · have h6 : ((c : Int) / 32 == 6) = true := by simp; omega
    have h14 : ((c : Int) / 16 == 14) = false := by simp; omega
    have H6 := Lib.hid c6
    have H14 := Lib.hid (show ¬ c / 16 = 14 by omega)
    clear c6
    cases one
    · have HR := Lib.hid (show takeOf c x false y both = (0, 0) by unfold takeOf; rw [if_neg HN.out, if_neg (by simp), if_neg (by simp)])
      go_wp2
      go_ret2
      exact ⟨by rw [HR.out]; rfl, rfl⟩
    · by_cases u0 : c % 32 * 64 + x = 0
      · have HR := Lib.hid (show takeOf c x true y both = (c % 32 * 64 + x, 2) by unfold takeOf; rw [if_neg HN.out, if_pos ⟨H6.out, rfl⟩, if_pos (.inl u0)])
        have u1 : (((c : Int) % 32 * 64 + x == 0)) = true := by simp; omega
        clear u0
        go_wp2
        go_ret2
        exact ⟨by rw [HR.out]; rfl, rfl⟩
      · have u1 : (((c : Int) % 32 * 64 + x == 0)) = false := by simp; omega
        have HU := Lib.hid u0
        clear u0
        by_cases u2 : 128 ≤ c % 32 * 64 + x
        · have HR := Lib.hid (show takeOf c x true y both = (c % 32 * 64 + x, 2) by unfold takeOf; rw [if_neg HN.out, if_pos ⟨H6.out, rfl⟩, if_pos (.inr u2)])
          go_wp2
          go_ret2
          exact ⟨by rw [HR.out]; rfl, rfl⟩
        · have HR := Lib.hid (show takeOf c x true y both = (0, 0) by unfold takeOf; rw [if_neg HN.out, if_pos ⟨H6.out, rfl⟩, if_neg (by have := HU.out; omega)])
          go_wp2
          go_ret2
          exact ⟨by rw [HR.out]; rfl, rfl⟩
  · have h6 : ((c : Int) / 32 == 6) = false := by simp; omega
    have H6 := Lib.hid c6
    clear c6
    by_cases c14 : c / 16 = 14
    · have h14 : ((c : Int) / 16 == 14) = true := by simp; omega
      have H14 := Lib.hid c14
      clear c14
      cases one
      · have HR := Lib.hid (show takeOf c x false y both = (0, 0) by unfold takeOf; rw [if_neg HN.out, if_neg (by simp), if_neg (by simp)])
        go_wp2
        go_ret2
        exact ⟨by rw [HR.out]; rfl, rfl⟩
      cases both
      · have HR := Lib.hid (show takeOf c x true y false = (0, 0) by unfold takeOf; rw [if_neg HN.out, if_neg (by simp [H6.out]), if_neg (by simp)])
        go_wp2
        go_ret2
        exact ⟨by rw [HR.out]; rfl, rfl⟩
      by_cases u2 : 2048 ≤ c % 16 * 4096 + x * 64 + y
      · have HR := Lib.hid (show takeOf c x true y true = (c % 16 * 4096 + x * 64 + y, 3) by unfold takeOf; rw [if_neg HN.out, if_neg (by simp [H6.out]), if_pos ⟨H14.out, rfl, rfl⟩, if_pos u2])
        go_wp2
        go_ret2
        exact ⟨by rw [HR.out]; rfl, rfl⟩
      · have HR := Lib.hid (show takeOf c x true y true = (0, 0) by unfold takeOf; rw [if_neg HN.out, if_neg (by simp [H6.out]), if_pos ⟨H14.out, rfl, rfl⟩, if_neg u2])
        go_wp2
        go_ret2
        exact ⟨by rw [HR.out]; rfl, rfl⟩
    · have h14 : ((c : Int) / 16 == 14) = false := by simp; omega
      have HR := Lib.hid (show takeOf c x one y both = (0, 0) by unfold takeOf; rw [if_neg HN.out, if_neg (by simp [H6.out]), if_neg (by simp [c14])])
      clear c14
      go_wp2
      go_ret2
      exact ⟨by rw [HR.out]; rfl, rfl⟩
end Go.Proofs.YtclpkipaehpkdaaGreatDoor

