/- Bytes of the call's own, or a full slice of them: append and num.Put. No condition. -/
import Derived.Test.YtbcldlbmbdfejaaQ02ImageBytes
import Derived.Test.YtbcldlbmbdfejaaQ00ImageBytes
import Derived.Test.YtbcldlbmbdfejaaQ01ImageBytes
import Derived.Test.YtbcldlbmbdfejaaQ05ImageBytes
namespace Go.Proofs.Ytbcldlbmbdfejaa
open Go.ChangeShapes Go.WideShapes Go.ChangeAt Go.RowKit
/-- Blocks of other types than e stay. -/
def KeptT (e : TypeId) (w w' : World) : Prop := w.heap.size ≤ w'.heap.size ∧ ∀ (g : Nat) (cs : Array Value) (t : TypeId) (fr : Nat × Nat), w.heap[g]? = some (.cells cs t fr) → t ≠ e → w'.heap[g]? = some (.cells cs t fr)
theorem own_keptT {w w' : World} {B : Nat} {e e' : TypeId} {size : Nat} {v : Value} {n : Nat} {xs : List Value} (h : w.ownsRow B e size v n xs) (hk : KeptT e' w w') (hne : e ≠ e') : w'.ownsRow B e size v n xs := by
  refine ⟨h.1, ?_⟩
  rcases h.2 with ⟨h1, h2⟩ | ⟨g, cap, cur, hv, hb, hg, r⟩
  · exact .inl ⟨h1, h2⟩
  · exact .inr ⟨g, cap, cur, hv, hb, hk.2 _ _ _ _ hg hne, r⟩
theorem kept_typeE {w w' : World} {B : Nat} {e t : TypeId} {size : Nat} {v : Value} {n g : Nat} {xs : List Value} {o : Obj} {cs : Array Value} {fr : Nat × Nat} (ho : w.ownsRow B e size v n xs) (hg : (w.alloc o).grownBy w' v.ownBlock) (hx : w.heap[g]? = some (.cells cs t fr)) (hne : e ≠ t) : w'.heap[g]? = some (.cells cs t fr) := by
  have hlt := (Array.getElem?_eq_some_iff.1 hx).1
  rw [hg.block g (by simp; omega) ?_, Below.heap_alloc _ _ _ hlt]
  · exact hx
  · intro he
    rcases ho.2 with ⟨rfl, _⟩ | ⟨g2, cap, cur, rfl, _, hg2, _⟩
    · simp [Value.ownBlock] at he
    · simp [Value.ownBlock] at he
      subst he
      rw [hg2] at hx
      simp at hx
      exact hne hx.2.1
theorem kept_typeF {w w' : World} {B : Nat} {e t : TypeId} {size : Nat} {v : Value} {n g : Nat} {xs : List Value} {cs : Array Value} {fr : Nat × Nat} (ho : w.ownsRow B e size v n xs) (hg : w.grownBy w' v.ownBlock) (hx : w.heap[g]? = some (.cells cs t fr)) (hne : e ≠ t) : w'.heap[g]? = some (.cells cs t fr) := by
  have hlt := (Array.getElem?_eq_some_iff.1 hx).1
  rw [hg.block g hlt ?_]
  · exact hx
  · intro he
    rcases ho.2 with ⟨rfl, _⟩ | ⟨g2, cap, cur, rfl, _, hg2, _⟩
    · simp [Value.ownBlock] at he
    · simp [Value.ownBlock] at he
      subst he
      rw [hg2] at hx
      simp at hx
      exact hne hx.2.1
/-- What append onto a row of e leaves. -/
theorem KeptT.app {w w' : World} {B : Nat} {e : TypeId} {size : Nat} {v : Value} {n : Nat} {xs : List Value} {o : Obj} (ho : w.ownsRow B e size v n xs) (hg : (w.alloc o).grownBy w' v.ownBlock) : KeptT e w w' := by
  refine ⟨?_, fun g cs t fr hx hne => kept_typeE ho hg hx (Ne.symm hne)⟩
  have h := hg.size
  simp at h
  omega
theorem KeptT.app0 {w w' : World} {B : Nat} {e : TypeId} {size : Nat} {v : Value} {n : Nat} {xs : List Value} (ho : w.ownsRow B e size v n xs) (hg : w.grownBy w' v.ownBlock) : KeptT e w w' :=
  ⟨hg.size, fun _ _ _ _ hx hne => kept_typeF ho hg hx (Ne.symm hne)⟩
theorem KeptT.of_below {e : TypeId} {w w' : World} (h : Below w.heap.size w w') : KeptT e w w' :=
  ⟨h.size, fun g cs t fr hx _ => by rw [h.block g (Array.getElem?_eq_some_iff.1 hx).1]; exact hx⟩
/-- Bytes of the call's own, or a slice that is full. -/
def OwnOr (w : World) (B : Nat) (v : Value) (m : Nat) (bs : List UInt8) : Prop :=
  w.ownsRow B 5 1 v m (bs.map encB) ∨ ∃ g C fr, v = .slice (some ⟨g, 0, none⟩) m m ∧ B ≤ g ∧ w.heap[g]? = some (.cells C 5 fr) ∧ Sl encB w (some ⟨g, 0, none⟩) m bs
theorem OwnOr.nil (w : World) (B : Nat) : OwnOr w B (.slice none 0 0) 0 [] := .inl (World.ownsRow_nil _ _ _ _)
theorem OwnOr.len {w : World} {B : Nat} {v : Value} {m : Nat} {bs : List UInt8} (h : OwnOr w B v m bs) : bs.length = m := by
  rcases h with h | ⟨g, C, fr, _, _, _, h⟩
  · have := h.1; simpa using this
  · exact h.1
theorem OwnOr.sl {w : World} {B : Nat} {v : Value} {m : Nat} {bs : List UInt8} (h : OwnOr w B v m bs) : ∃ a c, v = .slice a m c ∧ Sl encB w a m bs ∧ m ≤ c := by
  rcases h with h | ⟨g, C, fr, rfl, _, _, h⟩
  · obtain ⟨a, c, rfl, hs, hc⟩ := Sl.ofOwn h
    exact ⟨a, c, rfl, hs, hc⟩
  · exact ⟨_, m, rfl, h, Nat.le_refl _⟩
theorem OwnOr.below {w w' : World} {B : Nat} {v : Value} {m : Nat} {bs : List UInt8} (h : OwnOr w B v m bs) (hb : Below w.heap.size w w') : OwnOr w' B v m bs := by
  rcases h with h | ⟨g, C, fr, rfl, hg, hc, h⟩
  · exact .inl (own_below h hb)
  · exact .inr ⟨g, C, fr, rfl, hg, by rw [hb.block g (Array.getElem?_eq_some_iff.1 hc).1]; exact hc, h.below hb⟩
theorem OwnOr.keptT {w w' : World} {B : Nat} {e : TypeId} {v : Value} {m : Nat} {bs : List UInt8} (h : OwnOr w B v m bs) (hk : KeptT e w w') (hne : 5 ≠ e) : OwnOr w' B v m bs := by
  rcases h with h | ⟨g, C, fr, rfl, hg, hc, h⟩
  · exact .inl (own_keptT h hk hne)
  · have hc' := hk.2 _ _ _ _ hc hne
    refine .inr ⟨g, C, fr, rfl, hg, hc', h.1, fun hn => ?_⟩
    obtain ⟨b, off, ha, hlt, hcell⟩ := h.2 hn
    simp only [Option.some.injEq, Addr.mk.injEq] at ha
    obtain ⟨rfl, rfl, _⟩ := ha
    refine ⟨g, 0, rfl, Nat.lt_of_lt_of_le hlt hk.1, fun i hi => ?_⟩
    rw [← hcell i hi]
    unfold World.cell?
    rw [hc, hc']
theorem OwnOr.mono {w : World} {B B' : Nat} {v : Value} {m : Nat} {bs : List UInt8} (h : OwnOr w B v m bs) (hB : B' ≤ B) : OwnOr w B' v m bs := by
  rcases h with h | ⟨g, C, fr, rfl, hg, hc, h⟩
  · exact .inl (own_mono h hB)
  · exact .inr ⟨g, C, fr, rfl, by omega, hc, h⟩
theorem wpList_appX {w : World} {ops : Array Oper} {rest : List Oper} {o : Oper} {a : Act} {Q : Exit → Act → World → Prop} (hgd : Region.wanted o (yielded ops a.tmps) = true) (s x : Operand)
    (ho : o.op = .call { callee := .builtin .append, args := #[s, x], argTypes := #[35, 35] })
    (B : Nat) (v : Value) (m : Nat) (bs : List UInt8) (hv : a.eval s = v) (hX : OwnOr w B v m bs)
    (C : Array Value) (k c sz : Nat) (hy : a.eval x = .slice (some ⟨sz, 0, none⟩) k c) (hsz : w.heap.size = sz) (hC : C.size = k) (hone : C.toList.all (·.oneCell') = true) (hk : 0 < k) (hlen : m + k ≤ 140737488355328) (hB : B ≤ w.heap.size)
    (h : ∀ v' w', w'.ownsRow B 5 1 v' (m + k) (bs.map encB ++ C.toList) → KeptT 5 w w' → Below B w w' → wpList Try.prog ops Q rest (a.put o.dst v') w') : wpList Try.prog ops Q (o :: rest) a (w.alloc (.cells C 5)) := by
  subst hsz
  rcases hX with hX | ⟨g, C0, fr, rfl, hg, hc, hX⟩
  · exact wpList_app_lit oneN hgd s x ho B v m _ hv hX C k c hy hC hone (by omega) (by unfold maxLen; omega) hB (fun v' w' h1 h2 h3 => h v' w' h1 (KeptT.app hX h2) h3)
  · exact wpList_app_full_lit (enc := encB) oneN hgd s x ho w.heap.size _ m m bs hv hX C k c hy hC hone (by omega) (Nat.le_refl _) (by omega) (by unfold maxLen; omega) (Nat.le_refl _) (fun v' w' h1 h3 => h v' w' (own_mono h1 hB) (KeptT.of_below h3) (h3.mono hB))
/-- num.Put on bytes of one's own, any width from 0 to 8. -/
def PutRet (B : Nat) (m : Nat) (bs : List UInt8) (w : World) (e : Ending) (w' : World) : Prop := ∃ v, e = .returned v ∧ OwnOr w' B v m bs ∧ Below w.heap.size w w'
theorem PutX (w : World) (B : Nat) (v : Value) (m : Nat) (bs : List UInt8) (x n : Nat) (h : OwnOr w B v m bs) (hB : B ≤ w.heap.size) (hm : m ≤ 1048576) (hm0 : 0 < m) (hx : x < 18446744073709551616) (hn : n ≤ 8) :
    Calls Try.prog 45 #[v, .int .u64 x, .int .i64 n] w (PutRet B (m + n) (bs ++ putB x n) w) := by
  by_cases h0 : n = 0
  · subst h0
    rcases h with h | ⟨g, C, fr, rfl, hg, hc, h⟩
    · have hs := Sl.ofOwn h
      rcases h.2 with ⟨rfl, h2⟩ | ⟨g, cap, cur, rfl, hb, hg, hmc, r⟩
      · have h1 := h.1
        simp only [h2, List.length_nil] at h1
        omega
      · obtain ⟨a, c, ha, hs, hc⟩ := hs
        simp only [Value.slice.injEq] at ha
        obtain ⟨rfl, _, rfl⟩ := ha
        refine (Put_odd w _ m cap x 0 hmc (by decide)).mono ?_
        rintro e w' ⟨rfl, rfl⟩
        refine ⟨_, rfl, .inr ⟨g, cur, (0, 0), rfl, hb, hg, ?_⟩, Below.refl _ _⟩
        rw [show bs ++ putB x 0 = bs by simp [putB]]
        exact hs
    · refine (Put_odd w _ m m x 0 (Nat.le_refl _) (by decide)).mono ?_
      rintro e w' ⟨rfl, rfl⟩
      refine ⟨_, rfl, .inr ⟨g, C, fr, rfl, hg, hc, ?_⟩, Below.refl _ _⟩
      rw [show bs ++ putB x 0 = bs by simp [putB]]
      exact h
  · obtain ⟨a, c, rfl, hs, hc⟩ := h.sl
    refine (Put_any w a m c bs x n hs hm hc hx (by omega) hn).mono ?_
    rintro e w' ⟨v', m', rfl, ho, hb⟩
    obtain rfl : m' = m + n := by
      have h1 := ho.1
      rw [List.length_map, List.length_append, putB_length, hs.1] at h1
      omega
    exact ⟨_, rfl, .inl (own_mono ho hB), hb⟩
/-- The reference's, too. -/
theorem refPutX (w : World) (B : Nat) (v : Value) (m : Nat) (bs : List UInt8) (x n : Nat) (h : OwnOr w B v m bs) (hB : B ≤ w.heap.size) (hm : m ≤ 1048576) (hx : x < 18446744073709551616) (hn : n ≤ 8) :
    Calls Try.prog 76 #[v, .int .u64 x, .int .i64 n] w (PutRet B (m + n) (bs ++ putB x n) w) := by
  obtain ⟨a, c, rfl, hs, hc⟩ := h.sl
  by_cases h0 : n = 0
  · subst h0
    refine (refPut_odd w a m c bs x 0 hs hm (by decide)).mono ?_
    rintro e w' ⟨v', m', rfl, ho, hb⟩
    obtain rfl : m' = m + 0 := by
      have h1 := ho.1
      rw [List.length_map, hs.1] at h1
      omega
    refine ⟨_, rfl, .inl (own_mono ?_ hB), hb⟩
    rw [show bs ++ putB x 0 = bs by simp [putB]]
    exact ho
  · refine (refPut_any w a m c bs x n hs hm hx (by omega) hn).mono ?_
    rintro e w' ⟨v', m', rfl, ho, hb⟩
    obtain rfl : m' = m + n := by
      have h1 := ho.1
      rw [List.length_map, List.length_append, putB_length, hs.1] at h1
      omega
    exact ⟨_, rfl, .inl (own_mono ho hB), hb⟩
/-- append as a lone step onto bytes of one's own or a full slice. -/
theorem wp_appKX {w : World} (ops : Array Oper) {o : Oper} {a : Act} {K : Act → World → Prop} {Q : Exit → Act → World → Prop} (hgd : Region.wanted o (yielded ops a.tmps) = true) (s x : Operand) (tx : TypeId)
    (ho : o.op = .call { callee := .builtin .append, args := #[s, x], argTypes := #[35, tx] })
    (B : Nat) (v : Value) (m : Nat) (bs : List UInt8) (hv : a.eval s = v) (hX : OwnOr w B v m bs)
    (y : Value) (k : Nat) (news : List Value) (hy : a.eval x = y) (hs : Src Try.prog 1 tx y k news w) (hk : 0 < k) (hlen : m + k ≤ 140737488355328) (hB : B ≤ w.heap.size)
    (h : ∀ v' w', w'.ownsRow B 5 1 v' (m + k) (bs.map encB ++ news) → KeptT 5 w w' → Below B w w' → K (a.put o.dst v') w') : Oper.wp Try.prog o a w K Q := by
  rcases hX with hX | ⟨g, C0, fr, rfl, hg, hc, hX⟩
  · exact wp_appK oneN (ops := ops) hgd s x tx ho B v m _ hv hX y k news hy hs (by omega) (by unfold maxLen; omega) hB (fun v' w' h1 h2 h3 => h v' w' h1 (KeptT.app0 hX h2) h3)
  · obtain ⟨v', w', hr, h2, h3⟩ := run_append_full oneN w.heap.size tx o.type hX y k news hs (by omega) (Nat.le_refl _) (by omega) (by unfold maxLen; omega) (Nat.le_refl _)
    unfold Oper.wp execOp
    simp only [ho, resolve, invoke, builtin, Sem.run_bind, Sem.run_pure, Result.andThen_ok, List.map_toArray, List.map_cons, List.map_nil, hv, hy, hr]
    exact h v' w' (own_mono h2 hB) (KeptT.of_below h3) (h3.mono hB)
theorem KeptT.trans {e : TypeId} {w w1 w2 : World} (h : KeptT e w w1) (k : KeptT e w1 w2) : KeptT e w w2 := ⟨Nat.le_trans h.1 k.1, fun g cs t fr hg ht => k.2 g cs t fr (h.2 g cs t fr hg ht) ht⟩
theorem KeptT.refl {e : TypeId} (w : World) : KeptT e w w := ⟨Nat.le_refl _, fun _ _ _ _ h _ => h⟩
end Go.Proofs.Ytbcldlbmbdfejaa
/- image: whether numbers have room. No condition. -/
namespace Go.Proofs.Ytbcldlbmbdfejaa
open Go.ChangeShapes Go.WideShapes Go.ChangeAt Go.RowKit
/-- Has a number room in n bytes? -/
def roomB (v : Int) (n : Nat) : Bool := decide (0 ≤ v ∧ v < 2 ^ (8 * n))
def u64V (n : Int) : Nat := (n % 18446744073709551616).toNat
theorem u64V_lt (n : Int) : u64V n < 18446744073709551616 := by unfold u64V; omega
theorem u64V_wrap (n : Int) : IntKind.u64.wrap n = (u64V n : Int) := by rw [IntKind.wrap_u64]; unfold u64V; omega
theorem u64V_nat {n : Nat} (h : n < 18446744073709551616) : u64V n = n := by unfold u64V; omega
/-- Has a number with its sign room? -/
def sgnB (v : Int) (n : Nat) : Bool := if n = 0 then decide (v = 0) else decide (signB (u64V v) n = v)
theorem ret_boolI {a b : Bool} (h : a = b) : Ending.returned (.bool a) = .returned (.bool b) := by rw [h]
set_option maxRecDepth 100000 in
set_option maxHeartbeats 4000000 in
theorem fits_any (w : World) (v : Int) (n : Nat) (hv : IntR v) (hn : n = 0 ∨ n = 1 ∨ n = 2 ∨ n = 4) : Calls Try.prog 43 #[.int .i64 v, .int .i64 n] w fun e w' => e = .returned (.bool (roomB v n)) ∧ w = w' := by
  obtain ⟨h1, h2⟩ := hv
  by_cases h0 : 0 ≤ v
  · have e0 := decide_eq_true h0
    rcases hn with rfl | rfl | rfl | rfl
    all_goals
      go_enter Try.func43, Try.ntmps43
      go_wp2_with fail
      go_ret
      refine ⟨ret_boolI ?_, rfl⟩
      unfold roomB
      rw [Bool.eq_iff_iff]
      simp
      omega
  · have e0 := decide_eq_false h0
    have hr : roomB v n = false := decide_eq_false (fun h => h0 h.1)
    rw [hr]
    clear hr
    go_enter Try.func43, Try.ntmps43
    go_wp2_with fail
    go_ret
    exact ⟨rfl, rfl⟩
set_option maxRecDepth 100000 in
set_option maxHeartbeats 4000000 in
theorem refFits_any (w : World) (v : Int) (n : Nat) (hv : IntR v) (hn : n = 0 ∨ n = 1 ∨ n = 2 ∨ n = 4) : Calls Try.prog 74 #[.int .i64 v, .int .i64 n] w fun e w' => e = .returned (.bool (roomB v n)) ∧ w = w' := by
  obtain ⟨h1, h2⟩ := hv
  by_cases h0 : 0 ≤ v
  · have e0 := decide_eq_true h0
    rcases hn with rfl | rfl | rfl | rfl
    all_goals
      go_enter Try.func74, Try.ntmps74
      go_wp2_with fail
      go_ret
      refine ⟨ret_boolI ?_, rfl⟩
      unfold roomB
      rw [Bool.eq_iff_iff]
      simp
      omega
  · have e0 := decide_eq_false h0
    have hr : roomB v n = false := decide_eq_false (fun h => h0 h.1)
    rw [hr]
    clear hr
    go_enter Try.func74, Try.ntmps74
    go_wp2_with fail
    go_ret
    exact ⟨rfl, rfl⟩
theorem sgnB_8 {v : Int} (hv : IntR v) : sgnB v 8 = true := by
  unfold sgnB
  rw [if_neg (by omega)]
  refine decide_eq_true ?_
  obtain ⟨h1, h2⟩ := hv
  rw [show ((8 : Nat) : Int) = 8 from rfl, signB_8]
  unfold u64V wrap64
  omega
set_option maxRecDepth 100000 in
set_option maxHeartbeats 4000000 in
theorem signed_any (w : World) (v : Int) (n : Nat) (hv : IntR v) (hn : n ≤ 8) : Calls Try.prog 44 #[.int .i64 v, .int .i64 n] w fun e w' => e = .returned (.bool (sgnB v n)) ∧ w = w' := by
  by_cases h0 : n = 0
  · subst h0
    go_enter Try.func44, Try.ntmps44
    by_cases hz : v = 0
    · have e1 : (v == 0) = true := by simp [hz]
      clear hz
      go_wp2_with fail
      go_ret
      refine ⟨ret_boolI ?_, rfl⟩
      unfold sgnB
      simp at e1 ⊢
      exact e1
    · have e1 : (v == 0) = false := by simp [hz]
      clear hz
      go_wp2_with fail
      go_ret
      refine ⟨ret_boolI ?_, rfl⟩
      unfold sgnB
      simp at e1 ⊢
      exact e1
  · have e0 : ((n : Int) == 0) = false := beq_eq_false_iff_ne.2 (by omega)
    have e1 : decide (0 < n) = true := decide_eq_true (by omega)
    have hs := Lib.hid (Sign_any w (u64V v) n ⟨by omega, by have := u64V_lt v; omega⟩ (by unfold IntR; omega))
    have hu := u64V_wrap v
    have hl := u64V_lt v
    have hr : sgnB v n = decide (signB (u64V v) n = v) := by unfold sgnB; rw [if_neg h0]
    rw [hr]
    clear hr
    generalize signB (u64V v) n = x at *
    generalize u64V v = u at *
    clear h0
    go_enter Try.func44, Try.ntmps44
    go_wp2_with fail
    refine hs.out.mono ?_
    rintro e w' ⟨rfl, rfl⟩
    go_wp2_with fail
    go_ret
    refine ⟨ret_boolI ?_, rfl⟩
    rw [Bool.eq_iff_iff]
    simp
set_option maxRecDepth 100000 in
set_option maxHeartbeats 4000000 in
theorem refSigned_any (w : World) (v : Int) (n : Nat) (hv : IntR v) (hn : n ≤ 8) : Calls Try.prog 75 #[.int .i64 v, .int .i64 n] w fun e w' => e = .returned (.bool (sgnB v n)) ∧ w = w' := by
  by_cases h8 : n = 8
  · subst h8
    rw [sgnB_8 hv]
    go_enter Try.func75, Try.ntmps75
    go_wp2_with fail
    go_ret
    exact ⟨rfl, rfl⟩
  by_cases h0 : n = 0
  · subst h0
    go_enter Try.func75, Try.ntmps75
    by_cases hz : v = 0
    · have e1 : (v == 0) = true := by simp [hz]
      clear hz h8
      go_wp2_with fail
      go_ret
      refine ⟨ret_boolI ?_, rfl⟩
      unfold sgnB
      simp at e1 ⊢
      exact e1
    · have e1 : (v == 0) = false := by simp [hz]
      clear hz h8
      go_wp2_with fail
      go_ret
      refine ⟨ret_boolI ?_, rfl⟩
      unfold sgnB
      simp at e1 ⊢
      exact e1
  · have e8 : ((n : Int) == 8) = false := beq_eq_false_iff_ne.2 (by omega)
    have e0 : ((n : Int) == 0) = false := beq_eq_false_iff_ne.2 (by omega)
    have e1 : decide (0 < n) = true := decide_eq_true (by omega)
    have hs := Lib.hid (refSign_any w (u64V v) n ⟨by omega, by have := u64V_lt v; omega⟩ (by unfold IntR; omega))
    have hu := u64V_wrap v
    have hl := u64V_lt v
    have hr : sgnB v n = decide (signB (u64V v) n = v) := by unfold sgnB; rw [if_neg h0]
    rw [hr]
    clear hr
    generalize signB (u64V v) n = x at *
    generalize u64V v = u at *
    clear h0 h8
    go_enter Try.func75, Try.ntmps75
    go_wp2_with fail
    refine hs.out.mono ?_
    rintro e w' ⟨rfl, rfl⟩
    go_wp2_with fail
    go_ret
    refine ⟨ret_boolI ?_, rfl⟩
    rw [Bool.eq_iff_iff]
    simp
    exact eq_comm
end Go.Proofs.Ytbcldlbmbdfejaa
/- image: Link, the program's. No condition. -/
namespace Go.Proofs.Ytbcldlbmbdfejaa
open Go.ChangeShapes Go.WideShapes Go.ChangeAt Go.RowKit
/-- An instruction. -/
structure LK where
  op : Nat
  a : Int
  b : Int
  n : Int
def LK.cells (r : LK) : List Value := [.int .u8 (r.op : Nat), .int .i64 r.a, .int .i64 r.b, .int .i64 r.n]
theorem LK.len (r : LK) : r.cells.length = 4 := rfl
def LK.right (r : LK) : Prop := r.op < 256 ∧ IntR r.a ∧ IntR r.b ∧ IntR r.n
def LK.ok (r : LK) : Bool := (imgW r.op).2.2.2 && roomB r.a (imgW r.op).1 && roomB r.b (imgW r.op).2.1 && sgnB r.n (imgW r.op).2.2.1
def LK.bytes (r : LK) : List UInt8 := [UInt8.ofNat r.op] ++ putB (u64V r.a) (imgW r.op).1 ++ putB (u64V r.b) (imgW r.op).2.1 ++ putB (u64V r.n) (imgW r.op).2.2.1
def lkB (L : List LK) : List UInt8 := L.flatMap LK.bytes
def lkOk (L : List LK) : Bool := L.all LK.ok
def placesL (L : List LK) : List Nat := (List.range (L.length + 1)).map fun k => (lkB (L.take k)).length
def encP (x : Nat) : Value := .int .i64 (x : Int)
theorem oneI : OneE 24 3 (.int .i64 0) 8 := ⟨Try.underlying24, by kernel_rfl, rfl⟩
theorem LK.bytes_len {r : LK} (h : r.op < 256) : r.bytes.length ≤ 12 := by
  unfold LK.bytes
  have := imgW_small ⟨r.op, h⟩
  simp only at this
  simp [putB_length]
  omega
theorem lkB_take (L : List LK) (j : Nat) (r : LK) (h : L[j]? = some r) : lkB (L.take (j + 1)) = lkB (L.take j) ++ r.bytes := by
  obtain ⟨hj, he⟩ := List.getElem?_eq_some_iff.1 h
  unfold lkB
  rw [List.take_succ_eq_append_getElem hj, List.flatMap_append, he]
  simp
theorem lkOk_take (L : List LK) (j : Nat) (r : LK) (h : L[j]? = some r) : lkOk (L.take (j + 1)) = (lkOk (L.take j) && r.ok) := by
  obtain ⟨hj, he⟩ := List.getElem?_eq_some_iff.1 h
  unfold lkOk
  rw [List.take_succ_eq_append_getElem hj, List.all_append, he]
  simp
theorem lkOk_bad {L : List LK} {j : Nat} {r : LK} (h : L[j]? = some r) (hr : r.ok = false) : lkOk L = false := by
  unfold lkOk
  rw [List.all_eq_false]
  exact ⟨r, List.mem_of_getElem? h, by simp [hr]⟩
theorem placesL_take (L : List LK) (j : Nat) (hj : j < L.length) : placesL (L.take (j + 1)) = placesL (L.take j) ++ [(lkB (L.take (j + 1))).length] := by
  unfold placesL
  have h1 : (L.take (j + 1)).length = j + 1 := by rw [List.length_take]; omega
  have h2 : (L.take j).length = j := by rw [List.length_take]; omega
  rw [h1, h2, List.range_succ (n := j + 1), List.map_append, List.map_singleton, List.take_take, Nat.min_self]
  congr 1
  apply List.map_congr_left
  intro k hk
  have := List.mem_range.1 hk
  rw [List.take_take, List.take_take, Nat.min_eq_left (by omega), Nat.min_eq_left (by omega)]
theorem placesL_len (L : List LK) : (placesL L).length = L.length + 1 := by unfold placesL; simp
/-- What Link answers. -/
def LinkRet (good bad : Value) (L : List LK) (w : World) (e : Ending) (w' : World) : Prop :=
  (lkOk L = true ∧ ∃ va m vp, e = .returned (.tuple #[va, vp, good]) ∧ OwnOr w' w.heap.size va m (lkB L) ∧ w'.ownsRow w.heap.size 3 1 vp (L.length + 1) ((placesL L).map encP) ∧ Below w.heap.size w w') ∨
  (lkOk L = false ∧ e = .returned (.tuple #[.slice none 0 0, .slice none 0 0, bad]) ∧ Below w.heap.size w w')
/-- A slice of instructions. -/
def Ls (w : World) (a : Option Addr) (n : Nat) (L : List LK) : Prop := Ss 4 LK.cells w a n L
structure LAt (w : World) (b o : Nat) (r : LK) : Prop where
  c0 : w.cell? ⟨b, o, none⟩ = some (.int .u8 (r.op : Nat))
  c1 : w.cell? ⟨b, o + 1, none⟩ = some (.int .i64 r.a)
  c2 : w.cell? ⟨b, o + 2, none⟩ = some (.int .i64 r.b)
  c3 : w.cell? ⟨b, o + 3, none⟩ = some (.int .i64 r.n)
theorem Ls.at {w : World} {a : Option Addr} {n : Nat} {L : List LK} (h : Ls w a n L) (i : Nat) (hi : i < n) : ∃ b off r, a = some ⟨b, off, none⟩ ∧ b < w.heap.size ∧ L[i]? = some r ∧ LAt w b (off + i * 4) r := by
  obtain ⟨b, off, ha, hlt, hc⟩ := h.2 (by omega)
  have hl : i < L.length := by rw [h.1]; exact hi
  exact ⟨b, off, L[i], ha, hlt, List.getElem?_eq_getElem hl, hc i hl 0 (by omega), hc i hl 1 (by omega), hc i hl 2 (by omega), hc i hl 3 (by omega)⟩
theorem Blk4.keptT {e : TypeId} {w w1 : World} {g : Nat} {x y z u : Value} {t : TypeId} (h : Blk4 w g x y z u t) (k : KeptT e w w1) (hne : t ≠ e) : Blk4 w1 g x y z u t := k.2 _ _ _ _ h hne
theorem Blk3.keptT {e : TypeId} {w w1 : World} {g : Nat} {x y z : Value} {t : TypeId} (h : Blk3 w g x y z t) (k : KeptT e w w1) (hne : t ≠ e) : Blk3 w1 g x y z t := k.2 _ _ _ _ h hne
theorem encB_natI (o : Nat) (h : o < 256) : Value.int .u8 (o : Nat) = encB (UInt8.ofNat o) := by unfold encB; rw [UInt8.toNat_ofNat_of_lt' h]
theorem own_litP (w : World) (base : Nat) (C : Array Value) (e : TypeId) (m : Nat) (hb : base ≤ w.heap.size) (hC : C.size = m * 1) (hm : m ≤ maxLen) : (w.alloc (.cells C e)).ownsRow base e 1 (.slice (some ⟨w.heap.size, 0, none⟩) m m) m C.toList :=
  ⟨by simpa using hC, .inr ⟨w.heap.size, m, C, rfl, hb, heap_alloc_last w _, Nat.le_refl _, hm, hC, by rw [List.take_of_length_le (by simpa using Nat.le_of_eq hC)]⟩⟩
set_option maxRecDepth 100000 in
set_option maxHeartbeats 16000000 in
theorem Link_any (w : World) (a : Option Addr) (n cap : Nat) (L : List LK) (hs : Ls w a n L) (hn : n ≤ 200) (hw : ∀ r ∈ L, r.right) : Calls Try.prog 15 #[.slice a n cap] w (LinkRet (.int .i64 0) (.int .i64 8) L w) := by
  have HS := Lib.hid hs
  have HLn := Lib.hid hs.1
  have HW := Lib.hid hw
  clear hs hw
  go_enter Try.func15, Try.ntmps15
  go_upto_region 3 with fail
  have HP0 := Lib.hid (own_litP w w.heap.size #[.int .i64 0] 3 1 (Nat.le_refl _) rfl (by decide))
  have HB0 := Lib.hid ((Below.refl w.heap.size w).alloc (Nat.le_refl _) (.cells #[.int .i64 0] 3))
  generalize w.alloc (.cells #[.int .i64 0] 3) = w1 at *
  go_wp2_with fail
  go_loopg [14, 5, 6] n (fun gn i vb vp wr => ∃ j m : Nat, j ≤ n ∧ gn = n - j ∧ i = .int .i64 j ∧ m ≤ 12 * j ∧ Hid (lkOk (L.take j) = true) ∧ Hid (OwnOr wr w.heap.size vb m (lkB (L.take j))) ∧ Hid (wr.ownsRow w.heap.size 3 1 vp (j + 1) ((placesL (L.take j)).map encP)) ∧ Hid (Below w.heap.size w wr))
  case atStart => exact ⟨0, 0, by omega, by omega, by go_num, by omega, Lib.hid rfl, Lib.hid (OwnOr.nil _ _), HP0, HB0⟩
  case round =>
    obtain ⟨j, m, hj, rfl, rfl, hm, HK, HO, HP, HB⟩ := hrel
    by_cases hlt : j < n
    · obtain ⟨b, off, r, rfl, _, hr, q⟩ := Ls.at (Ss.below HS.out HB.out) j hlt
      obtain ⟨q0, q1, q2, q3⟩ := q
      have hwr := HW.out r (List.mem_of_getElem? hr)
      have HKT := Lib.hid (lkOk_take L j r hr)
      have HBT := Lib.hid (lkB_take L j r hr)
      have HPT := Lib.hid (placesL_take L j (List.getElem?_eq_some_iff.1 hr).1)
      have HBAD := Lib.hid (fun h => lkOk_bad hr h)
      have HBL := Lib.hid (LK.bytes_len hwr.1)
      obtain ⟨o, x, y, z⟩ := r
      obtain ⟨ho, hx, hy, hz⟩ := hwr
      simp only at q0 q1 q2 q3 ho hx hy hz
      obtain ⟨wa, wb, wn, ok, hq⟩ : ∃ wa wb wn ok, imgW o = (wa, wb, wn, ok) := ⟨_, _, _, _, rfl⟩
      have hsm := imgW_small ⟨o, ho⟩
      simp only [hq] at hsm
      obtain ⟨ha2, hb1, hn8⟩ := hsm
      have HROK := Lib.hid (show LK.ok ⟨o, x, y, z⟩ = (ok && roomB x wa && roomB y wb && sgnB z wn) by unfold LK.ok; simp only [hq])
      have HRBY := Lib.hid (show LK.bytes ⟨o, x, y, z⟩ = [UInt8.ofNat o] ++ putB (u64V x) wa ++ putB (u64V y) wb ++ putB (u64V z) wn by unfold LK.bytes; simp only [hq])
      have HWD := Lib.hid (fun w' => widths_any w' o ho)
      rw [hq] at HWD
      have HFA := Lib.hid (fun w' => fits_any w' x wa hx (by omega))
      have HFB := Lib.hid (fun w' => fits_any w' y wb hy (by omega))
      have HFN := Lib.hid (fun w' => signed_any w' z wn hz hn8)
      have HLB := Lib.hid (by have := HO.out.len; exact this)
      clear hr hq
      generalize roomB x wa = fa at *
      generalize roomB y wb = fb at *
      generalize sgnB z wn = fn at *
      generalize lkB (L.take j) = e at *
      go_upto_region 6 with fail
      have hal : Below wr.heap.size wr (wr.alloc (.cells #[.int .u8 (o : Nat), .int .i64 x, .int .i64 y, .int .i64 z] 54)) := (Below.refl _ _).alloc (Nat.le_refl _) _
      have HX1 := Lib.hid (show Blk4 (wr.alloc (.cells #[.int .u8 (o : Nat), .int .i64 x, .int .i64 y, .int .i64 z] 54)) wr.heap.size (.int .u8 (o : Nat)) (.int .i64 x) (.int .i64 y) (.int .i64 z) 54 from heap_alloc_last wr _)
      have HB1 := Lib.hid (HB.out.trans (hal.mono HB.out.size))
      have HO1 := Lib.hid (HO.out.below hal)
      have HP1 := Lib.hid (own_below HP.out hal)
      have hgl : wr.heap.size < (wr.alloc (.cells #[.int .u8 (o : Nat), .int .i64 x, .int .i64 y, .int .i64 z] 54)).heap.size := by simp
      clear hal q0 q1 q2 q3 HB HO HP
      generalize wr.alloc (.cells #[.int .u8 (o : Nat), .int .i64 x, .int .i64 y, .int .i64 z] 54) = W1 at *
      generalize wr.heap.size = gx at *
      have hxc := HX1.out.box.c0
      go_wp2_with fail
      refine (HWD.out W1).mono ?_
      rintro e' W2 ⟨rfl, hb2⟩
      have HX2 := Lib.hid (HX1.out.below hb2)
      have HB2 := Lib.hid (HB1.out.trans (hb2.mono HB1.out.size))
      have HO2 := Lib.hid (HO1.out.below hb2)
      have HP2 := Lib.hid (own_below HP1.out hb2)
      have hgl2 : gx < W2.heap.size := Nat.lt_of_lt_of_le hgl hb2.size
      clear hb2 HX1 HB1 HO1 HP1 hxc HWD hgl
      unfold WV
      simp only
      go_upto_region 7 with fail
      have hal : Below W2.heap.size W2 (W2.alloc (.cells #[.int .i64 (wa : Nat), .int .i64 (wb : Nat), .int .i64 (wn : Nat)] 98)) := (Below.refl _ _).alloc (Nat.le_refl _) _
      have HQ3 := Lib.hid (show Blk3 (W2.alloc (.cells #[.int .i64 (wa : Nat), .int .i64 (wb : Nat), .int .i64 (wn : Nat)] 98)) W2.heap.size (.int .i64 (wa : Nat)) (.int .i64 (wb : Nat)) (.int .i64 (wn : Nat)) 98 from heap_alloc_last W2 _)
      have HX3 := Lib.hid (HX2.out.below hal)
      have HB3 := Lib.hid (HB2.out.trans (hal.mono HB2.out.size))
      have HO3 := Lib.hid (HO2.out.below hal)
      have HP3 := Lib.hid (own_below HP2.out hal)
      clear hal HX2 HB2 HO2 HP2 hgl2
      generalize W2.alloc (.cells #[.int .i64 (wa : Nat), .int .i64 (wb : Nat), .int .i64 (wn : Nat)] 98) = W3 at *
      generalize W2.heap.size = gw at *
      obtain ⟨c0, c1, c2, c3, f0, f1, f2, f3, lt4⟩ := HX3.out.box
      obtain ⟨p0, p1, p2, g0, g1, g2, lt3⟩ := HQ3.out.box
      cases ok with
      | false =>
        have HE := Lib.hid (HBAD.out (by rw [HROK.out]; rfl))
        clear HBAD HROK
        go_wp2_with fail
        go_ret3
        exact .inr ⟨HE.out, rfl, HB3.out⟩
      | true =>
      go_wp2_with fail
      refine (HFA.out W3).mono ?_
      rintro e' w' ⟨rfl, rfl⟩
      cases fa with
      | false =>
        have HE := Lib.hid (HBAD.out (by rw [HROK.out]; rfl))
        clear HBAD HROK
        go_wp2_with fail
        go_ret3
        exact .inr ⟨HE.out, rfl, HB3.out⟩
      | true =>
      go_wp2_with fail
      refine (HFB.out W3).mono ?_
      rintro e' w' ⟨rfl, rfl⟩
      cases fb with
      | false =>
        have HE := Lib.hid (HBAD.out (by rw [HROK.out]; rfl))
        clear HBAD HROK
        go_wp2_with fail
        go_ret3
        exact .inr ⟨HE.out, rfl, HB3.out⟩
      | true =>
      go_wp2_with fail
      refine (HFN.out W3).mono ?_
      rintro e' w' ⟨rfl, rfl⟩
      cases fn with
      | false =>
        have HE := Lib.hid (HBAD.out (by rw [HROK.out]; rfl))
        clear HBAD HROK
        go_wp2_with fail
        go_ret3
        exact .inr ⟨HE.out, rfl, HB3.out⟩
      | true =>
      have HG := Lib.hid (show lkOk (L.take (j + 1)) = true by rw [HKT.out, HK.out, HROK.out]; rfl)
      have HRL := Lib.hid (show lkB (L.take (j + 1)) = e ++ [UInt8.ofNat o] ++ putB (u64V x) wa ++ putB (u64V y) wb ++ putB (u64V z) wn by rw [HBT.out, HRBY.out]; simp only [List.append_assoc])
      have hux := u64V_wrap x
      have huy := u64V_wrap y
      have huz := u64V_wrap z
      have HLX := Lib.hid (u64V_lt x)
      have HLY := Lib.hid (u64V_lt y)
      have HLZ := Lib.hid (u64V_lt z)
      generalize u64V x = ux at *
      generalize u64V y = uy at *
      generalize u64V z = uz at *
      clear HBAD HROK HRBY HFA HFB HFN HKT HBL
      go_upto_region 9 with fail
      obtain ⟨va, vc, rfl, _, _⟩ := HO3.out.sl
      have HEB := Lib.hid (encB_natI o ho)
      have hSw : NS gx gw o x y z wa wb wn W3.drew := ⟨HX3.out.below (Below.refl _ _).drew, HQ3.out.below (Below.refl _ _).drew⟩
      have l0 := fun z' (h : NS gx gw o x y z wa wb wn z') => h.1.box.c0
      have l1 := fun z' (h : NS gx gw o x y z wa wb wn z') => h.1.box.c1
      have l2 := fun z' (h : NS gx gw o x y z wa wb wn z') => h.1.box.c2
      have l3 := fun z' (h : NS gx gw o x y z wa wb wn z') => h.1.box.c3
      have l4 := fun z' (h : NS gx gw o x y z wa wb wn z') => h.2.box.c0
      have l5 := fun z' (h : NS gx gw o x y z wa wb wn z') => h.2.box.c1
      have l6 := fun z' (h : NS gx gw o x y z wa wb wn z') => h.2.box.c2
      clear c0 c1 c2 c3 f0 f1 f2 f3 lt4 p0 p1 p2 g0 g1 g2 lt3
      refine wp_region_lexS (NS gx gw o x y z wa wb wn) (.of [(0, true), (1, true), (2, true), (5, true), (6, true), (7, true), (8, true), (9, true), (3, false), (4, false), (10, false)] (.stir [(11, true)])) (by kernel_rfl) (by kernel_rfl) (fun c a d v w h => by cases d <;> exact h) ?_
      iterate 8
        refine lexS_step (fun K hK => ?_)
        simp only [lexOp, List.getElem?_toArray, List.getElem?_cons_succ, List.getElem?_cons_zero]
        rw [if_pos (by rfl)]
        apply Exists.intro
        refine ⟨fun w' hS' => ?_, hSw, ?_⟩
        · first | (go_simp <;> with_reducible rfl) | (go_simp; go_bits; with_reducible rfl)
        go_simp
        try go_bits
        refine hK _ _ ?_
        clear hK K
      refine lexS_step (fun K hK => ?_)
      simp only [lexOp, List.getElem?_toArray, List.getElem?_cons_succ, List.getElem?_cons_zero]
      rw [if_pos (by rfl)]
      go_step
      have hal : Below W3.heap.size W3 (W3.drew.alloc (.cells #[.int .u8 (o : Nat)] 5)) := (Below.refl _ _).drew.alloc (by simp) _
      replace hSw : NS gx gw o x y z wa wb wn (W3.drew.alloc (.cells #[.int .u8 (o : Nat)] 5)) := ⟨HX3.out.below hal, HQ3.out.below hal⟩
      refine ⟨hSw, hK _ _ ?_⟩
      clear hK K
      refine lexS_step (fun K hK => ?_)
      simp only [lexOp, List.getElem?_toArray, List.getElem?_cons_succ, List.getElem?_cons_zero]
      rw [if_pos (by rfl)]
      change Oper.wp _ _ _ _ _ _
      refine wp_appKX #[] rfl _ _ _ rfl w.heap.size _ m _ rfl (HO3.out.below hal) (.slice (some ⟨W3.heap.size, 0, none⟩) 1 1) 1 _ rfl (Src.litS (w := W3.drew) (z := 1) (m := 1) (c := 1) (C := #[.int .u8 (o : Nat)]) (e := 5) rfl rfl Try.underlying35) (by omega) (by omega) (Nat.le_trans HB3.out.size hal.size) ?_
      intro v4 W4 hown4 hk4 hb4
      rw [show (#[Value.int .u8 (o : Nat)] : Array Value).toList = [UInt8.ofNat o].map encB by rw [HEB.out]; rfl, ← List.map_append] at hown4
      replace hSw : NS gx gw o x y z wa wb wn W4 := ⟨hSw.1.keptT hk4 (by decide), hSw.2.keptT hk4 (by decide)⟩
      have HB4 := Lib.hid ((HB3.out.trans (hal.mono HB3.out.size)).trans hb4)
      have HP4 := Lib.hid (own_keptT (own_below HP3.out hal) hk4 (by decide))
      obtain ⟨a4, c4, rfl, _, _⟩ := Sl.ofOwn hown4
      have HO4 := Lib.hid (show OwnOr W4 w.heap.size (.slice a4 (m + 1) c4) (m + 1) (e ++ [UInt8.ofNat o]) from .inl hown4)
      refine ⟨hSw, hK _ _ ?_⟩
      clear hK K hown4 hk4 hb4 hal HO3 HB3 HX3 HQ3 HP3
      refine lexS_step (fun K hK => ?_)
      simp only [lexOp, List.getElem?_toArray, List.getElem?_cons_succ, List.getElem?_cons_zero]
      rw [if_pos (by rfl)]
      go_step
      refine (PutX W4 w.heap.size _ (m + 1) _ ux wa HO4.out HB4.out.size (by omega) (by omega) HLX.out (by omega)).mono ?_
      rintro e' W5 ⟨v5, rfl, ho5, hb5⟩
      replace hSw : NS gx gw o x y z wa wb wn W5 := ⟨hSw.1.below hb5, hSw.2.below hb5⟩
      have HB5 := Lib.hid (HB4.out.trans (hb5.mono HB4.out.size))
      have HP5 := Lib.hid (own_below HP4.out hb5)
      obtain ⟨a5, c5, rfl, _, _⟩ := ho5.sl
      have HO5 := Lib.hid ho5
      refine ⟨hSw, ?_⟩
      go_simp
      refine hK _ _ ?_
      clear hK K ho5 hb5 HO4 HB4 HP4
      refine lexS_stir (fun y' => y' = W5) (fun y' hy => hy ▸ hSw) rfl ?_
      iterate 1
        refine stir_step (fun K hK => ?_)
        simp only [stirOp, List.getElem?_toArray, List.getElem?_cons_succ, List.getElem?_cons_zero]
        rw [if_pos (by rfl)]
        apply Exists.intro
        refine ⟨fun w' hS' => ?_, ?_⟩
        · first | (go_simp <;> with_reducible rfl) | (go_simp; go_bits; with_reducible rfl)
        go_simp
        try go_bits
        refine hK _ ?_
        clear hK K
      refine stir_nil (fun y' hy => ?_)
      obtain rfl : W5 = y' := hy.symm
      go_upto_region 10 with fail
      replace hSw : NS gx gw o x y z wa wb wn W5.drew := ⟨hSw.1.below (Below.refl _ _).drew, hSw.2.below (Below.refl _ _).drew⟩
      refine wp_region_lexS (NS gx gw o x y z wa wb wn) (.of [(0, true), (1, true), (2, true), (3, true), (4, true), (5, true), (7, true), (8, true), (9, true), (10, true), (11, true), (6, false), (12, false)] (.stir [(13, true)])) (by kernel_rfl) (by kernel_rfl) (fun c a d v w h => by cases d <;> exact h) ?_
      iterate 11
        refine lexS_step (fun K hK => ?_)
        simp only [lexOp, List.getElem?_toArray, List.getElem?_cons_succ, List.getElem?_cons_zero]
        rw [if_pos (by rfl)]
        apply Exists.intro
        refine ⟨fun w' hS' => ?_, hSw, ?_⟩
        · first | (go_simp <;> with_reducible rfl) | (go_simp; go_bits; with_reducible rfl)
        go_simp
        try go_bits
        refine hK _ _ ?_
        clear hK K
      refine lexS_step (fun K hK => ?_)
      simp only [lexOp, List.getElem?_toArray, List.getElem?_cons_succ, List.getElem?_cons_zero]
      rw [if_pos (by rfl)]
      go_step
      refine (PutX W5.drew w.heap.size _ (m + 1 + wa) _ uy wb (HO5.out.below (Below.refl _ _).drew) HB5.out.size (by omega) (by omega) HLY.out (by omega)).mono ?_
      rintro e' W6 ⟨v6, rfl, ho6, hb6⟩
      have hb56 : Below W5.heap.size W5 W6 := ((Below.refl _ _).drew).trans hb6
      replace hSw : NS gx gw o x y z wa wb wn W6 := ⟨hSw.1.below hb6, hSw.2.below hb6⟩
      have HB6 := Lib.hid (HB5.out.trans (hb56.mono HB5.out.size))
      have HP6 := Lib.hid (own_below HP5.out hb56)
      obtain ⟨a6, c6, rfl, _, _⟩ := ho6.sl
      have HO6 := Lib.hid ho6
      refine ⟨hSw, ?_⟩
      go_simp
      refine hK _ _ ?_
      clear hK K ho6 hb6 hb56 HO5 HB5 HP5
      refine lexS_step (fun K hK => ?_)
      simp only [lexOp, List.getElem?_toArray, List.getElem?_cons_succ, List.getElem?_cons_zero]
      rw [if_pos (by rfl)]
      go_step
      refine (PutX W6 w.heap.size _ (m + 1 + wa + wb) _ uz wn HO6.out HB6.out.size (by omega) (by omega) HLZ.out (by omega)).mono ?_
      rintro e' W7 ⟨v7, rfl, ho7, hb7⟩
      replace hSw : NS gx gw o x y z wa wb wn W7 := ⟨hSw.1.below hb7, hSw.2.below hb7⟩
      have HB7 := Lib.hid (HB6.out.trans (hb7.mono HB6.out.size))
      have HP7 := Lib.hid (own_below HP6.out hb7)
      obtain ⟨a7, c7, rfl, _, _⟩ := ho7.sl
      have HO7 := Lib.hid ho7
      refine ⟨hSw, ?_⟩
      go_simp
      refine hK _ _ ?_
      clear hK K ho7 hb7 HO6 HB6 HP6
      refine lexS_stir (fun y' => y' = W7) (fun y' hy => hy ▸ hSw) rfl ?_
      iterate 1
        refine stir_step (fun K hK => ?_)
        simp only [stirOp, List.getElem?_toArray, List.getElem?_cons_succ, List.getElem?_cons_zero]
        rw [if_pos (by rfl)]
        apply Exists.intro
        refine ⟨fun w' hS' => ?_, ?_⟩
        · first | (go_simp <;> with_reducible rfl) | (go_simp; go_bits; with_reducible rfl)
        go_simp
        try go_bits
        refine hK _ ?_
        clear hK K
      refine stir_nil (fun y' hy => ?_)
      obtain rfl : W7 = y' := hy.symm
      rw [← HRL.out] at HO7
      have HLR := Lib.hid HO7.out.len
      obtain ⟨mm, hmm⟩ : ∃ k, k = m + 1 + wa + wb + wn := ⟨_, rfl⟩
      rw [← hmm] at HO7 HLR ⊢
      have hmm12 : mm ≤ 12 * (j + 1) := by omega
      clear hmm hSw l0 l1 l2 l3 l4 l5 l6 HRL HBT HEB
      go_wp2_with (at_builtin; refine wpList_app_lit2 oneI rfl _ _ rfl w.heap.size _ (j + 1) _ rfl HP7.out _ 1 _ _ rfl (by simp) rfl rfl (by omega) (by unfold maxLen; omega) HB7.out.size ?_; intro v8 W8 hown8 hg8 hb8; have hk8 : KeptT 3 W7 W8 := KeptT.app HP7.out hg8; have HO8 := Lib.hid (HO7.out.keptT hk8 (by decide)); have HB8 := Lib.hid (HB7.out.trans hb8); have HP8 := Lib.hid hown8; clear hown8 hg8 hb8 hk8)
      go_roundg (n - (j + 1))
      case measure => omega
      case rel =>
        refine ⟨j + 1, mm, by omega, rfl, by go_num, hmm12, HG, HO8, ?_, HB8⟩
        refine Lib.hid ?_
        rw [HPT.out, HLR.out, List.map_append]
        exact HP8.out
    · obtain rfl : j = n := by omega
      have HLE := Lib.hid (show L.take j = L by rw [List.take_of_length_le (by rw [HLn.out]; exact Nat.le_refl _)])
      rw [HLE.out] at HO HK HP
      go_wp2_with fail
      go_ret3
      refine .inl ⟨HK.out, _, m, _, rfl, HO.out, ?_, HB.out⟩
      rw [HLn.out]
      exact HP.out
end Go.Proofs.Ytbcldlbmbdfejaa
