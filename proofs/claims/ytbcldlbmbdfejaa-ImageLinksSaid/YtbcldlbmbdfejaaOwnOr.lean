/- Bytes of the call's own, or a full slice of them: append and num.Put. No condition. -/
import Derived.Test.YtbcldlbmbdfejaaNumFn
import Derived.Test.YtbcldlbmbdfejaaLib3
import Derived.Test.YtbcldlbmbdfejaaSs2
namespace Go.Proofs.Ytbcldlbmbdfejaa
open Go.ChangeShapes Go.WideShapes Go.ChangeAt Go.RowKit
/-- Blocks of other types than e stay. -/
def KeptT (e : TypeId) (w w' : World) : Prop := w.heap.size ≤ w'.heap.size ∧ ∀ (g : Nat) (cs : Array Value) (t : TypeId) (fr : Nat × Nat), w.heap[g]? = some (.cells cs t fr) → t ≠ e → w'.heap[g]? = some (.cells cs t fr)
theorem own_keptT {w w' : World} {B : Nat} {e e' : TypeId} {size : Nat} {v : Value} {n : Nat} {xs : List Value} (h : w.ownsRow B e size v n xs) (hk : KeptT e' w w') (hne : e ≠ e') : w'.ownsRow B e size v n xs := by
  refine ⟨h.1, ?_⟩
  rcases h.2 with ⟨h1, h2⟩ | ⟨g, cap, cur, hv, hb, hg, r⟩
  · exact .inl ⟨h1, h2⟩
  · exact .inr ⟨g, cap, cur, hv, hb, hk.2 _ _ _ _ hg hne, r⟩
theorem kept_typeE {w w' : World} {B : Nat} {e t : TypeId} {size : Nat} {v : Value} {n g : Nat} {xs : List Value} {o : Obj} {cs : Array Value} {fr : Nat × Nat} (ho : w.ownsRow B e size v n xs) (hg : (w.alloc o).grownBy w' v.ownBlock) (hx : w.heap[g]? = some (.cells cs t fr)) (hne : e ≠ t) : w'.heap[g]? = some (.cells cs t fr) := by
  have hlt := (Array.getElem?_eq_some_iff.1 hx).1
  rw [hg.block g (by simp; omega) ?_, Below.heap_alloc _ _ _ hlt]
  · exact hx
  · intro he
    rcases ho.2 with ⟨rfl, _⟩ | ⟨g2, cap, cur, rfl, _, hg2, _⟩
    · simp [Value.ownBlock] at he
    · simp [Value.ownBlock] at he
      subst he
      rw [hg2] at hx
      simp at hx
      exact hne hx.2.1
theorem kept_typeF {w w' : World} {B : Nat} {e t : TypeId} {size : Nat} {v : Value} {n g : Nat} {xs : List Value} {cs : Array Value} {fr : Nat × Nat} (ho : w.ownsRow B e size v n xs) (hg : w.grownBy w' v.ownBlock) (hx : w.heap[g]? = some (.cells cs t fr)) (hne : e ≠ t) : w'.heap[g]? = some (.cells cs t fr) := by
  have hlt := (Array.getElem?_eq_some_iff.1 hx).1
  rw [hg.block g hlt ?_]
  · exact hx
  · intro he
    rcases ho.2 with ⟨rfl, _⟩ | ⟨g2, cap, cur, rfl, _, hg2, _⟩
    · simp [Value.ownBlock] at he
    · simp [Value.ownBlock] at he
      subst he
      rw [hg2] at hx
      simp at hx
      exact hne hx.2.1
/-- What append onto a row of e leaves. -/
theorem KeptT.app {w w' : World} {B : Nat} {e : TypeId} {size : Nat} {v : Value} {n : Nat} {xs : List Value} {o : Obj} (ho : w.ownsRow B e size v n xs) (hg : (w.alloc o).grownBy w' v.ownBlock) : KeptT e w w' := by
  refine ⟨?_, fun g cs t fr hx hne => kept_typeE ho hg hx (Ne.symm hne)⟩
  have h := hg.size
  simp at h
  omega
theorem KeptT.app0 {w w' : World} {B : Nat} {e : TypeId} {size : Nat} {v : Value} {n : Nat} {xs : List Value} (ho : w.ownsRow B e size v n xs) (hg : w.grownBy w' v.ownBlock) : KeptT e w w' :=
  ⟨hg.size, fun _ _ _ _ hx hne => kept_typeF ho hg hx (Ne.symm hne)⟩
theorem KeptT.of_below {e : TypeId} {w w' : World} (h : Below w.heap.size w w') : KeptT e w w' :=
  ⟨h.size, fun g cs t fr hx _ => by rw [h.block g (Array.getElem?_eq_some_iff.1 hx).1]; exact hx⟩
/-- Bytes of the call's own, or a slice that is full. -/
def OwnOr (w : World) (B : Nat) (v : Value) (m : Nat) (bs : List UInt8) : Prop :=
  w.ownsRow B 5 1 v m (bs.map encB) ∨ ∃ g C fr, v = .slice (some ⟨g, 0, none⟩) m m ∧ B ≤ g ∧ w.heap[g]? = some (.cells C 5 fr) ∧ Sl encB w (some ⟨g, 0, none⟩) m bs
theorem OwnOr.nil (w : World) (B : Nat) : OwnOr w B (.slice none 0 0) 0 [] := .inl (World.ownsRow_nil _ _ _ _)
theorem OwnOr.len {w : World} {B : Nat} {v : Value} {m : Nat} {bs : List UInt8} (h : OwnOr w B v m bs) : bs.length = m := by
  rcases h with h | ⟨g, C, fr, _, _, _, h⟩
  · have := h.1; simpa using this
  · exact h.1
theorem OwnOr.sl {w : World} {B : Nat} {v : Value} {m : Nat} {bs : List UInt8} (h : OwnOr w B v m bs) : ∃ a c, v = .slice a m c ∧ Sl encB w a m bs ∧ m ≤ c := by
  rcases h with h | ⟨g, C, fr, rfl, _, _, h⟩
  · obtain ⟨a, c, rfl, hs, hc⟩ := Sl.ofOwn h
    exact ⟨a, c, rfl, hs, hc⟩
  · exact ⟨_, m, rfl, h, Nat.le_refl _⟩
theorem OwnOr.below {w w' : World} {B : Nat} {v : Value} {m : Nat} {bs : List UInt8} (h : OwnOr w B v m bs) (hb : Below w.heap.size w w') : OwnOr w' B v m bs := by
  rcases h with h | ⟨g, C, fr, rfl, hg, hc, h⟩
  · exact .inl (own_below h hb)
  · exact .inr ⟨g, C, fr, rfl, hg, by rw [hb.block g (Array.getElem?_eq_some_iff.1 hc).1]; exact hc, h.below hb⟩
theorem OwnOr.keptT {w w' : World} {B : Nat} {e : TypeId} {v : Value} {m : Nat} {bs : List UInt8} (h : OwnOr w B v m bs) (hk : KeptT e w w') (hne : 5 ≠ e) : OwnOr w' B v m bs := by
  rcases h with h | ⟨g, C, fr, rfl, hg, hc, h⟩
  · exact .inl (own_keptT h hk hne)
  · have hc' := hk.2 _ _ _ _ hc hne
    refine .inr ⟨g, C, fr, rfl, hg, hc', h.1, fun hn => ?_⟩
    obtain ⟨b, off, ha, hlt, hcell⟩ := h.2 hn
    simp only [Option.some.injEq, Addr.mk.injEq] at ha
    obtain ⟨rfl, rfl, _⟩ := ha
    refine ⟨g, 0, rfl, Nat.lt_of_lt_of_le hlt hk.1, fun i hi => ?_⟩
    rw [← hcell i hi]
    unfold World.cell?
    rw [hc, hc']
theorem OwnOr.mono {w : World} {B B' : Nat} {v : Value} {m : Nat} {bs : List UInt8} (h : OwnOr w B v m bs) (hB : B' ≤ B) : OwnOr w B' v m bs := by
  rcases h with h | ⟨g, C, fr, rfl, hg, hc, h⟩
  · exact .inl (own_mono h hB)
  · exact .inr ⟨g, C, fr, rfl, by omega, hc, h⟩
theorem wpList_appX {w : World} {ops : Array Oper} {rest : List Oper} {o : Oper} {a : Act} {Q : Exit → Act → World → Prop} (hgd : Region.wanted o (yielded ops a.tmps) = true) (s x : Operand)
    (ho : o.op = .call { callee := .builtin .append, args := #[s, x], argTypes := #[35, 35] })
    (B : Nat) (v : Value) (m : Nat) (bs : List UInt8) (hv : a.eval s = v) (hX : OwnOr w B v m bs)
    (C : Array Value) (k c sz : Nat) (hy : a.eval x = .slice (some ⟨sz, 0, none⟩) k c) (hsz : w.heap.size = sz) (hC : C.size = k) (hone : C.toList.all (·.oneCell') = true) (hk : 0 < k) (hlen : m + k ≤ 140737488355328) (hB : B ≤ w.heap.size)
    (h : ∀ v' w', w'.ownsRow B 5 1 v' (m + k) (bs.map encB ++ C.toList) → KeptT 5 w w' → Below B w w' → wpList Try.prog ops Q rest (a.put o.dst v') w') : wpList Try.prog ops Q (o :: rest) a (w.alloc (.cells C 5)) := by
  subst hsz
  rcases hX with hX | ⟨g, C0, fr, rfl, hg, hc, hX⟩
  · exact wpList_app_lit oneN hgd s x ho B v m _ hv hX C k c hy hC hone (by omega) (by unfold maxLen; omega) hB (fun v' w' h1 h2 h3 => h v' w' h1 (KeptT.app hX h2) h3)
  · exact wpList_app_full_lit (enc := encB) oneN hgd s x ho w.heap.size _ m m bs hv hX C k c hy hC hone (by omega) (Nat.le_refl _) (by omega) (by unfold maxLen; omega) (Nat.le_refl _) (fun v' w' h1 h3 => h v' w' (own_mono h1 hB) (KeptT.of_below h3) (h3.mono hB))
/-- num.Put on bytes of one's own, any width from 0 to 8. -/
def PutRet (B : Nat) (m : Nat) (bs : List UInt8) (w : World) (e : Ending) (w' : World) : Prop := ∃ v, e = .returned v ∧ OwnOr w' B v m bs ∧ Below w.heap.size w w'
theorem PutX (w : World) (B : Nat) (v : Value) (m : Nat) (bs : List UInt8) (x n : Nat) (h : OwnOr w B v m bs) (hB : B ≤ w.heap.size) (hm : m ≤ 1048576) (hm0 : 0 < m) (hx : x < 18446744073709551616) (hn : n ≤ 8) :
    Calls Try.prog 45 #[v, .int .u64 x, .int .i64 n] w (PutRet B (m + n) (bs ++ putB x n) w) := by
  by_cases h0 : n = 0
  · subst h0
    rcases h with h | ⟨g, C, fr, rfl, hg, hc, h⟩
    · have hs := Sl.ofOwn h
      rcases h.2 with ⟨rfl, h2⟩ | ⟨g, cap, cur, rfl, hb, hg, hmc, r⟩
      · have h1 := h.1
        simp only [h2, List.length_nil] at h1
        omega
      · obtain ⟨a, c, ha, hs, hc⟩ := hs
        simp only [Value.slice.injEq] at ha
        obtain ⟨rfl, _, rfl⟩ := ha
        refine (Put_odd w _ m cap x 0 hmc (by decide)).mono ?_
        rintro e w' ⟨rfl, rfl⟩
        refine ⟨_, rfl, .inr ⟨g, cur, (0, 0), rfl, hb, hg, ?_⟩, Below.refl _ _⟩
        rw [show bs ++ putB x 0 = bs by simp [putB]]
        exact hs
    · refine (Put_odd w _ m m x 0 (Nat.le_refl _) (by decide)).mono ?_
      rintro e w' ⟨rfl, rfl⟩
      refine ⟨_, rfl, .inr ⟨g, C, fr, rfl, hg, hc, ?_⟩, Below.refl _ _⟩
      rw [show bs ++ putB x 0 = bs by simp [putB]]
      exact h
  · obtain ⟨a, c, rfl, hs, hc⟩ := h.sl
    refine (Put_any w a m c bs x n hs hm hc hx (by omega) hn).mono ?_
    rintro e w' ⟨v', m', rfl, ho, hb⟩
    obtain rfl : m' = m + n := by
      have h1 := ho.1
      rw [List.length_map, List.length_append, putB_length, hs.1] at h1
      omega
    exact ⟨_, rfl, .inl (own_mono ho hB), hb⟩
/-- The reference's, too. -/
theorem refPutX (w : World) (B : Nat) (v : Value) (m : Nat) (bs : List UInt8) (x n : Nat) (h : OwnOr w B v m bs) (hB : B ≤ w.heap.size) (hm : m ≤ 1048576) (hx : x < 18446744073709551616) (hn : n ≤ 8) :
    Calls Try.prog 76 #[v, .int .u64 x, .int .i64 n] w (PutRet B (m + n) (bs ++ putB x n) w) := by
  obtain ⟨a, c, rfl, hs, hc⟩ := h.sl
  by_cases h0 : n = 0
  · subst h0
    refine (refPut_odd w a m c bs x 0 hs hm (by decide)).mono ?_
    rintro e w' ⟨v', m', rfl, ho, hb⟩
    obtain rfl : m' = m + 0 := by
      have h1 := ho.1
      rw [List.length_map, hs.1] at h1
      omega
    refine ⟨_, rfl, .inl (own_mono ?_ hB), hb⟩
    rw [show bs ++ putB x 0 = bs by simp [putB]]
    exact ho
  · refine (refPut_any w a m c bs x n hs hm hx (by omega) hn).mono ?_
    rintro e w' ⟨v', m', rfl, ho, hb⟩
    obtain rfl : m' = m + n := by
      have h1 := ho.1
      rw [List.length_map, List.length_append, putB_length, hs.1] at h1
      omega
    exact ⟨_, rfl, .inl (own_mono ho hB), hb⟩
/-- append as a lone step onto bytes of one's own or a full slice. -/
theorem wp_appKX {w : World} (ops : Array Oper) {o : Oper} {a : Act} {K : Act → World → Prop} {Q : Exit → Act → World → Prop} (hgd : Region.wanted o (yielded ops a.tmps) = true) (s x : Operand) (tx : TypeId)
    (ho : o.op = .call { callee := .builtin .append, args := #[s, x], argTypes := #[35, tx] })
    (B : Nat) (v : Value) (m : Nat) (bs : List UInt8) (hv : a.eval s = v) (hX : OwnOr w B v m bs)
    (y : Value) (k : Nat) (news : List Value) (hy : a.eval x = y) (hs : Src Try.prog 1 tx y k news w) (hk : 0 < k) (hlen : m + k ≤ 140737488355328) (hB : B ≤ w.heap.size)
    (h : ∀ v' w', w'.ownsRow B 5 1 v' (m + k) (bs.map encB ++ news) → KeptT 5 w w' → Below B w w' → K (a.put o.dst v') w') : Oper.wp Try.prog o a w K Q := by
  rcases hX with hX | ⟨g, C0, fr, rfl, hg, hc, hX⟩
  · exact wp_appK oneN (ops := ops) hgd s x tx ho B v m _ hv hX y k news hy hs (by omega) (by unfold maxLen; omega) hB (fun v' w' h1 h2 h3 => h v' w' h1 (KeptT.app0 hX h2) h3)
  · obtain ⟨v', w', hr, h2, h3⟩ := run_append_full oneN w.heap.size tx o.type hX y k news hs (by omega) (Nat.le_refl _) (by omega) (by unfold maxLen; omega) (Nat.le_refl _)
    unfold Oper.wp execOp
    simp only [ho, resolve, invoke, builtin, Sem.run_bind, Sem.run_pure, Result.andThen_ok, List.map_toArray, List.map_cons, List.map_nil, hv, hy, hr]
    exact h v' w' (own_mono h2 hB) (KeptT.of_below h3) (h3.mono hB)
theorem KeptT.trans {e : TypeId} {w w1 w2 : World} (h : KeptT e w w1) (k : KeptT e w1 w2) : KeptT e w w2 := ⟨Nat.le_trans h.1 k.1, fun g cs t fr hg ht => k.2 g cs t fr (h.2 g cs t fr hg ht) ht⟩
theorem KeptT.refl {e : TypeId} (w : World) : KeptT e w w := ⟨Nat.le_refl _, fun _ _ _ _ h _ => h⟩
end Go.Proofs.Ytbcldlbmbdfejaa
