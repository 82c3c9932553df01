/- Bytes of the call's own, or a full slice of them: append and num.Put. No condition. -/
import Derived.Test.YtnfhiakdbakpgaaQ02KlassCuts
import Derived.Test.YtnfhiakdbakpgaaQ00KlassCuts
import Derived.Test.YtnfhiakdbakpgaaQ04KlassCuts
import Derived.Test.YtnfhiakdbakpgaaQ08KlassCuts
import Derived.Laws.EntriesVeiled
namespace Go.Proofs.Ytnfhiakdbakpgaa
open Go.ChangeShapes Go.WideShapes Go.ChangeAt Go.RowKit
/-- Blocks of other types than e stay. -/
def KeptT (e : TypeId) (w w' : World) : Prop := w.heap.size ≤ w'.heap.size ∧ ∀ (g : Nat) (cs : Array Value) (t : TypeId) (fr : Nat × Nat), w.heap[g]? = some (.cells cs t fr) → t ≠ e → w'.heap[g]? = some (.cells cs t fr)
theorem own_keptT {w w' : World} {B : Nat} {e e' : TypeId} {size : Nat} {v : Value} {n : Nat} {xs : List Value} (h : w.ownsRow B e size v n xs) (hk : KeptT e' w w') (hne : e ≠ e') : w'.ownsRow B e size v n xs := by
  refine ⟨h.1, ?_⟩
  rcases h.2 with ⟨h1, h2⟩ | ⟨g, cap, cur, hv, hb, hg, r⟩
  · exact .inl ⟨h1, h2⟩
  · exact .inr ⟨g, cap, cur, hv, hb, hk.2 _ _ _ _ hg hne, r⟩
theorem kept_typeE {w w' : World} {B : Nat} {e t : TypeId} {size : Nat} {v : Value} {n g : Nat} {xs : List Value} {o : Obj} {cs : Array Value} {fr : Nat × Nat} (ho : w.ownsRow B e size v n xs) (hg : (w.alloc o).grownBy w' v.ownBlock) (hx : w.heap[g]? = some (.cells cs t fr)) (hne : e ≠ t) : w'.heap[g]? = some (.cells cs t fr) := by
  have hlt := (Array.getElem?_eq_some_iff.1 hx).1
  rw [hg.block g (by simp; omega) ?_, Below.heap_alloc _ _ _ hlt]
  · exact hx
  · intro he
    rcases ho.2 with ⟨rfl, _⟩ | ⟨g2, cap, cur, rfl, _, hg2, _⟩
    · simp [Value.ownBlock] at he
    · simp [Value.ownBlock] at he
      subst he
      rw [hg2] at hx
      simp at hx
      exact hne hx.2.1
theorem kept_typeF {w w' : World} {B : Nat} {e t : TypeId} {size : Nat} {v : Value} {n g : Nat} {xs : List Value} {cs : Array Value} {fr : Nat × Nat} (ho : w.ownsRow B e size v n xs) (hg : w.grownBy w' v.ownBlock) (hx : w.heap[g]? = some (.cells cs t fr)) (hne : e ≠ t) : w'.heap[g]? = some (.cells cs t fr) := by
  have hlt := (Array.getElem?_eq_some_iff.1 hx).1
  rw [hg.block g hlt ?_]
  · exact hx
  · intro he
    rcases ho.2 with ⟨rfl, _⟩ | ⟨g2, cap, cur, rfl, _, hg2, _⟩
    · simp [Value.ownBlock] at he
    · simp [Value.ownBlock] at he
      subst he
      rw [hg2] at hx
      simp at hx
      exact hne hx.2.1
/-- What append onto a row of e leaves. -/
theorem KeptT.app {w w' : World} {B : Nat} {e : TypeId} {size : Nat} {v : Value} {n : Nat} {xs : List Value} {o : Obj} (ho : w.ownsRow B e size v n xs) (hg : (w.alloc o).grownBy w' v.ownBlock) : KeptT e w w' := by
  refine ⟨?_, fun g cs t fr hx hne => kept_typeE ho hg hx (Ne.symm hne)⟩
  have h := hg.size
  simp at h
  omega
theorem KeptT.app0 {w w' : World} {B : Nat} {e : TypeId} {size : Nat} {v : Value} {n : Nat} {xs : List Value} (ho : w.ownsRow B e size v n xs) (hg : w.grownBy w' v.ownBlock) : KeptT e w w' :=
  ⟨hg.size, fun _ _ _ _ hx hne => kept_typeF ho hg hx (Ne.symm hne)⟩
theorem KeptT.of_below {e : TypeId} {w w' : World} (h : Below w.heap.size w w') : KeptT e w w' :=
  ⟨h.size, fun g cs t fr hx _ => by rw [h.block g (Array.getElem?_eq_some_iff.1 hx).1]; exact hx⟩
/-- Bytes of the call's own, or a slice that is full. -/
def OwnOr (w : World) (B : Nat) (v : Value) (m : Nat) (bs : List UInt8) : Prop :=
  w.ownsRow B 5 1 v m (bs.map encB) ∨ ∃ g C fr, v = .slice (some ⟨g, 0, none⟩) m m ∧ B ≤ g ∧ w.heap[g]? = some (.cells C 5 fr) ∧ Sl encB w (some ⟨g, 0, none⟩) m bs
theorem OwnOr.nil (w : World) (B : Nat) : OwnOr w B (.slice none 0 0) 0 [] := .inl (World.ownsRow_nil _ _ _ _)
theorem OwnOr.len {w : World} {B : Nat} {v : Value} {m : Nat} {bs : List UInt8} (h : OwnOr w B v m bs) : bs.length = m := by
  rcases h with h | ⟨g, C, fr, _, _, _, h⟩
  · have := h.1; simpa using this
  · exact h.1
theorem OwnOr.sl {w : World} {B : Nat} {v : Value} {m : Nat} {bs : List UInt8} (h : OwnOr w B v m bs) : ∃ a c, v = .slice a m c ∧ Sl encB w a m bs ∧ m ≤ c := by
  rcases h with h | ⟨g, C, fr, rfl, _, _, h⟩
  · obtain ⟨a, c, rfl, hs, hc⟩ := Sl.ofOwn h
    exact ⟨a, c, rfl, hs, hc⟩
  · exact ⟨_, m, rfl, h, Nat.le_refl _⟩
theorem OwnOr.below {w w' : World} {B : Nat} {v : Value} {m : Nat} {bs : List UInt8} (h : OwnOr w B v m bs) (hb : Below w.heap.size w w') : OwnOr w' B v m bs := by
  rcases h with h | ⟨g, C, fr, rfl, hg, hc, h⟩
  · exact .inl (own_below h hb)
  · exact .inr ⟨g, C, fr, rfl, hg, by rw [hb.block g (Array.getElem?_eq_some_iff.1 hc).1]; exact hc, h.below hb⟩
theorem OwnOr.keptT {w w' : World} {B : Nat} {e : TypeId} {v : Value} {m : Nat} {bs : List UInt8} (h : OwnOr w B v m bs) (hk : KeptT e w w') (hne : 5 ≠ e) : OwnOr w' B v m bs := by
  rcases h with h | ⟨g, C, fr, rfl, hg, hc, h⟩
  · exact .inl (own_keptT h hk hne)
  · have hc' := hk.2 _ _ _ _ hc hne
    refine .inr ⟨g, C, fr, rfl, hg, hc', h.1, fun hn => ?_⟩
    obtain ⟨b, off, ha, hlt, hcell⟩ := h.2 hn
    simp only [Option.some.injEq, Addr.mk.injEq] at ha
    obtain ⟨rfl, rfl, _⟩ := ha
    refine ⟨g, 0, rfl, Nat.lt_of_lt_of_le hlt hk.1, fun i hi => ?_⟩
    rw [← hcell i hi]
    unfold World.cell?
    rw [hc, hc']
theorem OwnOr.mono {w : World} {B B' : Nat} {v : Value} {m : Nat} {bs : List UInt8} (h : OwnOr w B v m bs) (hB : B' ≤ B) : OwnOr w B' v m bs := by
  rcases h with h | ⟨g, C, fr, rfl, hg, hc, h⟩
  · exact .inl (own_mono h hB)
  · exact .inr ⟨g, C, fr, rfl, by omega, hc, h⟩
theorem wpList_appX {w : World} {ops : Array Oper} {rest : List Oper} {o : Oper} {a : Act} {Q : Exit → Act → World → Prop} (hgd : Region.wanted o (yielded ops a.tmps) = true) (s x : Operand)
    (ho : o.op = .call { callee := .builtin .append, args := #[s, x], argTypes := #[29, 29] })
    (B : Nat) (v : Value) (m : Nat) (bs : List UInt8) (hv : a.eval s = v) (hX : OwnOr w B v m bs)
    (C : Array Value) (k c sz : Nat) (hy : a.eval x = .slice (some ⟨sz, 0, none⟩) k c) (hsz : w.heap.size = sz) (hC : C.size = k) (hone : C.toList.all (·.oneCell') = true) (hk : 0 < k) (hlen : m + k ≤ 140737488355328) (hB : B ≤ w.heap.size)
    (h : ∀ v' w', w'.ownsRow B 5 1 v' (m + k) (bs.map encB ++ C.toList) → KeptT 5 w w' → Below B w w' → wpList Try.prog ops Q rest (a.put o.dst v') w') : wpList Try.prog ops Q (o :: rest) a (w.alloc (.cells C 5)) := by
  subst hsz
  rcases hX with hX | ⟨g, C0, fr, rfl, hg, hc, hX⟩
  · exact wpList_app_lit oneN hgd s x ho B v m _ hv hX C k c hy hC hone (by omega) (by unfold maxLen; omega) hB (fun v' w' h1 h2 h3 => h v' w' h1 (KeptT.app hX h2) h3)
  · exact wpList_app_full_lit (enc := encB) oneN hgd s x ho w.heap.size _ m m bs hv hX C k c hy hC hone (by omega) (Nat.le_refl _) (by omega) (by unfold maxLen; omega) (Nat.le_refl _) (fun v' w' h1 h3 => h v' w' (own_mono h1 hB) (KeptT.of_below h3) (h3.mono hB))
/-- num.Put on bytes of one's own, any width from 0 to 8. -/
def PutRet (B : Nat) (m : Nat) (bs : List UInt8) (w : World) (e : Ending) (w' : World) : Prop := ∃ v, e = .returned v ∧ OwnOr w' B v m bs ∧ Below w.heap.size w w'
theorem PutX (w : World) (B : Nat) (v : Value) (m : Nat) (bs : List UInt8) (x n : Nat) (h : OwnOr w B v m bs) (hB : B ≤ w.heap.size) (hm : m ≤ 1048576) (hm0 : 0 < m) (hx : x < 18446744073709551616) (hn : n ≤ 8) :
    Calls Try.prog 49 #[v, .int .u64 x, .int .i64 n] w (PutRet B (m + n) (bs ++ putB x n) w) := by
  by_cases h0 : n = 0
  · subst h0
    rcases h with h | ⟨g, C, fr, rfl, hg, hc, h⟩
    · have hs := Sl.ofOwn h
      rcases h.2 with ⟨rfl, h2⟩ | ⟨g, cap, cur, rfl, hb, hg, hmc, r⟩
      · have h1 := h.1
        simp only [h2, List.length_nil] at h1
        omega
      · obtain ⟨a, c, ha, hs, hc⟩ := hs
        simp only [Value.slice.injEq] at ha
        obtain ⟨rfl, _, rfl⟩ := ha
        refine (Put_odd w _ m cap x 0 hmc (by decide)).mono ?_
        rintro e w' ⟨rfl, rfl⟩
        refine ⟨_, rfl, .inr ⟨g, cur, (0, 0), rfl, hb, hg, ?_⟩, Below.refl _ _⟩
        rw [show bs ++ putB x 0 = bs by simp [putB]]
        exact hs
    · refine (Put_odd w _ m m x 0 (Nat.le_refl _) (by decide)).mono ?_
      rintro e w' ⟨rfl, rfl⟩
      refine ⟨_, rfl, .inr ⟨g, C, fr, rfl, hg, hc, ?_⟩, Below.refl _ _⟩
      rw [show bs ++ putB x 0 = bs by simp [putB]]
      exact h
  · obtain ⟨a, c, rfl, hs, hc⟩ := h.sl
    refine (Put_any w a m c bs x n hs hm hc hx (by omega) hn).mono ?_
    rintro e w' ⟨v', m', rfl, ho, hb⟩
    obtain rfl : m' = m + n := by
      have h1 := ho.1
      rw [List.length_map, List.length_append, putB_length, hs.1] at h1
      omega
    exact ⟨_, rfl, .inl (own_mono ho hB), hb⟩
/-- The reference's, too. -/
theorem refPutX (w : World) (B : Nat) (v : Value) (m : Nat) (bs : List UInt8) (x n : Nat) (h : OwnOr w B v m bs) (hB : B ≤ w.heap.size) (hm : m ≤ 1048576) (hx : x < 18446744073709551616) (hn : n ≤ 8) :
    Calls Try.prog 42 #[v, .int .u64 x, .int .i64 n] w (PutRet B (m + n) (bs ++ putB x n) w) := by
  obtain ⟨a, c, rfl, hs, hc⟩ := h.sl
  by_cases h0 : n = 0
  · subst h0
    refine (refPut_odd w a m c bs x 0 hs hm (by decide)).mono ?_
    rintro e w' ⟨v', m', rfl, ho, hb⟩
    obtain rfl : m' = m + 0 := by
      have h1 := ho.1
      rw [List.length_map, hs.1] at h1
      omega
    refine ⟨_, rfl, .inl (own_mono ?_ hB), hb⟩
    rw [show bs ++ putB x 0 = bs by simp [putB]]
    exact ho
  · refine (refPut_any w a m c bs x n hs hm hx (by omega) hn).mono ?_
    rintro e w' ⟨v', m', rfl, ho, hb⟩
    obtain rfl : m' = m + n := by
      have h1 := ho.1
      rw [List.length_map, List.length_append, putB_length, hs.1] at h1
      omega
    exact ⟨_, rfl, .inl (own_mono ho hB), hb⟩
/-- append as a lone step onto bytes of one's own or a full slice. -/
theorem wp_appKX {w : World} (ops : Array Oper) {o : Oper} {a : Act} {K : Act → World → Prop} {Q : Exit → Act → World → Prop} (hgd : Region.wanted o (yielded ops a.tmps) = true) (s x : Operand) (tx : TypeId)
    (ho : o.op = .call { callee := .builtin .append, args := #[s, x], argTypes := #[29, tx] })
    (B : Nat) (v : Value) (m : Nat) (bs : List UInt8) (hv : a.eval s = v) (hX : OwnOr w B v m bs)
    (y : Value) (k : Nat) (news : List Value) (hy : a.eval x = y) (hs : Src Try.prog 1 tx y k news w) (hk : 0 < k) (hlen : m + k ≤ 140737488355328) (hB : B ≤ w.heap.size)
    (h : ∀ v' w', w'.ownsRow B 5 1 v' (m + k) (bs.map encB ++ news) → KeptT 5 w w' → Below B w w' → K (a.put o.dst v') w') : Oper.wp Try.prog o a w K Q := by
  rcases hX with hX | ⟨g, C0, fr, rfl, hg, hc, hX⟩
  · exact wp_appK oneN (ops := ops) hgd s x tx ho B v m _ hv hX y k news hy hs (by omega) (by unfold maxLen; omega) hB (fun v' w' h1 h2 h3 => h v' w' h1 (KeptT.app0 hX h2) h3)
  · obtain ⟨v', w', hr, h2, h3⟩ := run_append_full oneN w.heap.size tx o.type hX y k news hs (by omega) (Nat.le_refl _) (by omega) (by unfold maxLen; omega) (Nat.le_refl _)
    unfold Oper.wp execOp
    simp only [ho, resolve, invoke, builtin, Sem.run_bind, Sem.run_pure, Result.andThen_ok, List.map_toArray, List.map_cons, List.map_nil, hv, hy, hr]
    exact h v' w' (own_mono h2 hB) (KeptT.of_below h3) (h3.mono hB)
theorem KeptT.trans {e : TypeId} {w w1 w2 : World} (h : KeptT e w w1) (k : KeptT e w1 w2) : KeptT e w w2 := ⟨Nat.le_trans h.1 k.1, fun g cs t fr hg ht => k.2 g cs t fr (h.2 g cs t fr hg ht) ht⟩
theorem KeptT.refl {e : TypeId} (w : World) : KeptT e w w := ⟨Nat.le_refl _, fun _ _ _ _ h _ => h⟩
end Go.Proofs.Ytnfhiakdbakpgaa
/- Blocks of three cells. Over any program. -/
namespace Go.Proofs.Ytnfhiakdbakpgaa
open Go.ChangeShapes Go.WideShapes Go.ChangeAt Go.RowKit
structure Box3 (w w1 : World) (g : Nat) (x y z : Value) : Prop where
  c0 : w1.cell? ⟨g, 0, none⟩ = some x
  c1 : w1.cell? ⟨g, 1, none⟩ = some y
  c2 : w1.cell? ⟨g, 2, none⟩ = some z
  f0 : w1.frozen? ⟨g, 0, none⟩ = false
  f1 : w1.frozen? ⟨g, 1, none⟩ = false
  f2 : w1.frozen? ⟨g, 2, none⟩ = false
  lt : g < w1.heap.size
theorem Box3.of {w w1 : World} {g : Nat} {x y z : Value} {t : TypeId} (h : w.heap[g]? = some (.cells #[x, y, z] t)) (hb : Below w.heap.size w w1) : Box3 w w1 g x y z := by
  have hlt : g < w.heap.size := (Array.getElem?_eq_some_iff.1 h).1
  have hg : w1.heap[g]? = some (.cells #[x, y, z] t) := by rw [hb.block _ hlt]; exact h
  refine ⟨?_, ?_, ?_, ?_, ?_, ?_, (Array.getElem?_eq_some_iff.1 hg).1⟩
  · rw [cell_of_row w1 _ 0 _ _ _ hg]; rfl
  · rw [cell_of_row w1 _ 1 _ _ _ hg]; rfl
  · rw [cell_of_row w1 _ 2 _ _ _ hg]; rfl
  all_goals (unfold World.frozen?; rw [hg]; rfl)
theorem heap_set3 {w : World} {g : Nat} {cs : Array Value} {t : TypeId} {fr : Nat × Nat} (h : w.heap[g]? = some (.cells cs t fr)) (o : Nat) (v : Value) : (w.setCell ⟨g, o, none⟩ v).heap[g]? = some (.cells (cs.setIfInBounds o v) t fr) := by
  unfold World.setCell
  simp [Array.getElem?_modify, h]
/-- A block of three cells behind which the walk goes. -/
def Blk3 (w : World) (g : Nat) (x y z : Value) (t : TypeId) : Prop := w.heap[g]? = some (.cells #[x, y, z] t)
theorem Blk3.below {w w1 : World} {g : Nat} {x y z : Value} {t : TypeId} (h : Blk3 w g x y z t) (hb : Below w.heap.size w w1) : Blk3 w1 g x y z t := by
  unfold Blk3
  rw [hb.block _ (Array.getElem?_eq_some_iff.1 h).1]; exact h
theorem Blk3.box {w : World} {g : Nat} {x y z : Value} {t : TypeId} (h : Blk3 w g x y z t) : Box3 w w g x y z := Box3.of h (Below.refl _ _)
theorem Blk3.set {w : World} {g : Nat} {x y z x' y' z' : Value} {t : TypeId} (h : Blk3 w g x y z t) : Blk3 (((w.setCell ⟨g, 0, none⟩ x').setCell ⟨g, 1, none⟩ y').setCell ⟨g, 2, none⟩ z') g x' y' z' t :=
  heap_set3 (heap_set3 (heap_set3 h 0 x') 1 y') 2 z'
theorem keep33 (g : Nat) (w : World) (x y z : Value) : Below g w (((w.setCell ⟨g, 0, none⟩ x).setCell ⟨g, 1, none⟩ y).setCell ⟨g, 2, none⟩ z) :=
  (((Below.refl g w).setCell (p := ⟨g, 0, none⟩) (Nat.le_refl g) x).setCell (p := ⟨g, 1, none⟩) (Nat.le_refl g) y).setCell (p := ⟨g, 2, none⟩) (Nat.le_refl g) z
theorem Blk3.other {w : World} {g h o : Nat} {x y z v : Value} {t : TypeId} (k : Blk3 w g x y z t) (hne : g ≠ h) : Blk3 (w.setCell ⟨h, o, none⟩ v) g x y z t := by
  unfold Blk3 World.setCell
  have hne' : ¬ h = g := fun e => hne e.symm
  simp [Array.getElem?_modify, hne']
  exact k
theorem Blk3.belowB {w w1 : World} {B g : Nat} {x y z : Value} {t : TypeId} (h : Blk3 w g x y z t) (hb : Below B w w1) (hlt : g < B) : Blk3 w1 g x y z t := by
  unfold Blk3
  rw [hb.block _ hlt]; exact h
end Go.Proofs.Ytnfhiakdbakpgaa
/- Blocks of two cells; what keeps all but one block. Over any program. -/
namespace Go.Proofs.Ytnfhiakdbakpgaa
open Go.ChangeShapes Go.WideShapes Go.ChangeAt Go.RowKit
structure Box2 (w : World) (g : Nat) (x y : Value) : Prop where
  c0 : w.cell? ⟨g, 0, none⟩ = some x
  c1 : w.cell? ⟨g, 1, none⟩ = some y
  f0 : w.frozen? ⟨g, 0, none⟩ = false
  f1 : w.frozen? ⟨g, 1, none⟩ = false
  lt : g < w.heap.size
def Blk2 (w : World) (g : Nat) (x y : Value) (t : TypeId) : Prop := w.heap[g]? = some (.cells #[x, y] t)
theorem Blk2.box {w : World} {g : Nat} {x y : Value} {t : TypeId} (h : Blk2 w g x y t) : Box2 w g x y := by
  unfold Blk2 at h
  refine ⟨?_, ?_, ?_, ?_, (Array.getElem?_eq_some_iff.1 h).1⟩
  · rw [cell_of_row w _ 0 _ _ _ h]; rfl
  · rw [cell_of_row w _ 1 _ _ _ h]; rfl
  all_goals (unfold World.frozen?; rw [h]; rfl)
theorem Blk2.belowB {w w1 : World} {B g : Nat} {x y : Value} {t : TypeId} (h : Blk2 w g x y t) (hb : Below B w w1) (hlt : g < B) : Blk2 w1 g x y t := by
  unfold Blk2
  rw [hb.block _ hlt]; exact h
theorem Blk2.below {w w1 : World} {g : Nat} {x y : Value} {t : TypeId} (h : Blk2 w g x y t) (hb : Below w.heap.size w w1) : Blk2 w1 g x y t := h.belowB hb (Array.getElem?_eq_some_iff.1 h).1
theorem Blk2.other {w : World} {g h o : Nat} {x y v : Value} {t : TypeId} (k : Blk2 w g x y t) (hne : g ≠ h) : Blk2 (w.setCell ⟨h, o, none⟩ v) g x y t := by
  unfold Blk2 World.setCell
  have hne' : ¬ h = g := fun e => hne e.symm
  simp [Array.getElem?_modify, hne']
  exact k
theorem Blk2.set0 {w : World} {g : Nat} {x y v : Value} {t : TypeId} (h : Blk2 w g x y t) : Blk2 (w.setCell ⟨g, 0, none⟩ v) g v y t := heap_set3 h 0 v
theorem Blk2.set1 {w : World} {g : Nat} {x y v : Value} {t : TypeId} (h : Blk2 w g x y t) : Blk2 (w.setCell ⟨g, 1, none⟩ v) g x v t := heap_set3 h 1 v
/-- What is there stays, but for block g. -/
structure Keep1 (g : Nat) (w w' : World) : Prop where
  os : w'.os = w.os
  tape : w'.tape = w.tape
  output : w'.output = w.output
  size : w.heap.size ≤ w'.heap.size
  block : ∀ k, k < w.heap.size → k ≠ g → w'.heap[k]? = w.heap[k]?
theorem Keep1.refl (g : Nat) (w : World) : Keep1 g w w := ⟨rfl, rfl, rfl, Nat.le_refl _, fun _ _ _ => rfl⟩
theorem Keep1.trans {g : Nat} {w w1 w2 : World} (h : Keep1 g w w1) (k : Keep1 g w1 w2) : Keep1 g w w2 :=
  ⟨k.os.trans h.os, k.tape.trans h.tape, k.output.trans h.output, Nat.le_trans h.size k.size, fun i hi hg => by rw [k.block i (Nat.lt_of_lt_of_le hi h.size) hg, h.block i hi hg]⟩
theorem Keep1.of {g : Nat} {w w1 : World} (h : Below w.heap.size w w1) : Keep1 g w w1 := ⟨h.os, h.tape, h.output, h.size, fun k hk _ => h.block k hk⟩
theorem Keep1.drew {g : Nat} {w w1 : World} (h : Keep1 g w w1) : Keep1 g w w1.drew := ⟨h.os, h.tape, h.output, h.size, h.block⟩
theorem Keep1.drewN {g : Nat} {w w1 : World} (h : Keep1 g w w1) (n : Nat) : Keep1 g w (w1.drewN n) := ⟨h.os, h.tape, h.output, h.size, h.block⟩
theorem Keep1.set {g : Nat} {w w1 : World} (h : Keep1 g w w1) (o : Nat) (v : Value) : Keep1 g w (w1.setCell ⟨g, o, none⟩ v) :=
  ⟨h.os, h.tape, h.output, by have := h.size; unfold World.setCell; simpa using this, fun k hk hg => by
    rw [← h.block k hk hg]
    unfold World.setCell
    have hne' : ¬ g = k := fun e => hg e.symm
    simp [Array.getElem?_modify, hne']⟩
theorem Keep1.below {g B : Nat} {w0 w w' : World} (h : Keep1 g w w') (hb : Below B w0 w) (hB : B ≤ w0.heap.size) (hg : B ≤ g) : Below B w0 w' :=
  ⟨h.os.trans hb.os, h.tape.trans hb.tape, h.output.trans hb.output, Nat.le_trans hb.size h.size, fun k hk => by
    rw [h.block k (Nat.lt_of_lt_of_le (Nat.lt_of_lt_of_le hk hB) hb.size) (by omega)]; exact hb.block k hk⟩
/-- A slice that is not in block g. -/
def Off1 (x : Option Addr) (n g : Nat) : Prop := 0 < n → ∀ b off, x = some ⟨b, off, none⟩ → b ≠ g
theorem Off1.old {α : Type} {enc : α → Value} {w : World} {x : Option Addr} {n g : Nat} {xs : List α} (h : Sl enc w x n xs) (hg : w.heap.size ≤ g) : Off1 x n g := by
  intro hn b off hx
  obtain ⟨b', off', hx', hlt, _⟩ := h.2 hn
  rw [hx] at hx'
  simp only [Option.some.injEq, Addr.mk.injEq] at hx'
  omega
theorem Off1.new {x off n g : Nat} (h : g ≠ x) : Off1 (some ⟨x, off, none⟩) n g := fun _ b o e => by cases e; exact Ne.symm h
theorem Off1.nil {a : Option Addr} {g : Nat} : Off1 a 0 g := fun h => absurd h (by omega)
theorem Sl.keep1 {α : Type} {enc : α → Value} {g : Nat} {w w' : World} {x : Option Addr} {n : Nat} {xs : List α} (hs : Sl enc w x n xs) (h : Keep1 g w w') (h1 : Off1 x n g) : Sl enc w' x n xs := by
  refine ⟨hs.1, fun hn => ?_⟩
  obtain ⟨b, off, ha, hlt, hc⟩ := hs.2 hn
  refine ⟨b, off, ha, Nat.lt_of_lt_of_le hlt h.size, fun i hi => ?_⟩
  rw [← hc i hi]
  unfold World.cell?
  rw [h.block b hlt (h1 hn b off ha)]
theorem Off1.own {w : World} {B : Nat} {e : TypeId} {a : Option Addr} {n c g : Nat} {xs : List Value} (h : w.ownsRow B e 1 (.slice a n c) n xs) (hg : g < B) : Off1 a n g := by
  intro hn b off hx
  obtain ⟨g', hx', hB, _⟩ := own_addr h hn
  rw [hx] at hx'
  simp only [Option.some.injEq, Addr.mk.injEq] at hx'
  omega
theorem own_keep1 {g : Nat} {w w' : World} {B : Nat} {e : TypeId} {size : Nat} {v : Value} {n : Nat} {xs : List Value} (h : w.ownsRow B e size v n xs) (k : Keep1 g w w') (hg : g < B) : w'.ownsRow B e size v n xs := by
  refine ⟨h.1, ?_⟩
  rcases h.2 with ⟨h1, h2⟩ | ⟨b, cap, cur, hv, hb, hc, r⟩
  · exact .inl ⟨h1, h2⟩
  · exact .inr ⟨b, cap, cur, hv, hb, by rw [k.block b (Array.getElem?_eq_some_iff.1 hc).1 (by omega)]; exact hc, r⟩
theorem keep1_app {g : Nat} {w w1 w2 : World} {e : TypeId} {size : Nat} {v : Value} {n : Nat} {xs : List Value} (k : Keep1 g w w1) (h : w1.ownsRow w.heap.size e size v n xs) (hg : w1.grownBy w2 v.ownBlock) : Keep1 g w w2 := by
  refine ⟨hg.os.trans k.os, hg.tape.trans k.tape, hg.output.trans k.output, Nat.le_trans k.size hg.size, fun i hi hne => ?_⟩
  rw [hg.block i (Nat.lt_of_lt_of_le hi k.size) ?_, k.block i hi hne]
  intro he
  rcases h.2 with ⟨rfl, _⟩ | ⟨b, cap, cur, rfl, hb, _⟩
  · simp [Value.ownBlock] at he
  · simp [Value.ownBlock] at he
    omega
theorem keep1_appA {g : Nat} {w w1 w2 : World} {o : Obj} {e : TypeId} {size : Nat} {v : Value} {n : Nat} {xs : List Value} (k : Keep1 g w w1) (h : w1.ownsRow w.heap.size e size v n xs) (hg : (w1.alloc o).grownBy w2 v.ownBlock) : Keep1 g w w2 :=
  keep1_app (k.trans (Keep1.of ((Below.refl _ _).alloc (Nat.le_refl _) o))) (h.alloc o) hg
end Go.Proofs.Ytnfhiakdbakpgaa
/- Rows of the heap. Over any program. -/
namespace Go.Proofs.Ytnfhiakdbakpgaa
open Go.ChangeShapes Go.WideShapes Go.ChangeAt Go.RowKit
theorem row_cell {w : World} {g : Nat} {C : Array Value} {t : TypeId} {fr : Nat × Nat} (h : w.heap[g]? = some (.cells C t fr)) (k : Nat) {v : Value} (hk : C[k]? = some v) : w.cell? ⟨g, k, none⟩ = some v := by
  rw [cell_of_row w g k _ _ _ h]; exact hk
theorem row_melt {w : World} {g : Nat} {C : Array Value} {t : TypeId} (h : w.heap[g]? = some (.cells C t)) (k : Nat) : w.frozen? ⟨g, k, none⟩ = false := by
  unfold World.frozen?
  rw [h]
  simp
theorem row_lt {w : World} {g : Nat} {C : Array Value} {t : TypeId} {fr : Nat × Nat} (h : w.heap[g]? = some (.cells C t fr)) : g < w.heap.size := (Array.getElem?_eq_some_iff.1 h).1
theorem row_below {w w' : World} {g : Nat} {o : Obj} (h : w.heap[g]? = some o) (hb : Below w.heap.size w w') : w'.heap[g]? = some o := by rw [hb.block g (Array.getElem?_eq_some_iff.1 h).1]; exact h
theorem keep1_setC {g : Nat} {w w1 : World} (k : Keep1 g w w1) {c : Nat} (hc : w.heap.size ≤ c) (o : Nat) (v : Value) : Keep1 g w (w1.setCell ⟨c, o, none⟩ v) :=
  ⟨k.os, k.tape, k.output, by have := k.size; unfold World.setCell; simpa using this, fun i hi hg => by
    rw [← k.block i hi hg]
    unfold World.setCell
    have hne' : ¬ c = i := by omega
    simp [Array.getElem?_modify, hne']⟩
theorem keptT_set {w : World} {c : Nat} {cs : Array Value} {t : TypeId} {fr : Nat × Nat} (h : w.heap[c]? = some (.cells cs t fr)) (o : Nat) (v : Value) : KeptT t w (w.setCell ⟨c, o, none⟩ v) := by
  refine ⟨by unfold World.setCell; simp, fun i cs' t' fr' hi hne => ?_⟩
  have hic : i ≠ c := by
    rintro rfl
    rw [h] at hi
    simp at hi
    exact hne hi.2.1.symm
  unfold World.setCell
  have hne' : ¬ c = i := fun e => hic e.symm
  simp [Array.getElem?_modify, hne', hi]
theorem heap_other {w : World} {g h : Nat} {ob : Obj} (hg : w.heap[g]? = some ob) (hne : g ≠ h) (o : Nat) (v : Value) : (w.setCell ⟨h, o, none⟩ v).heap[g]? = some ob := by
  unfold World.setCell
  have hne' : ¬ h = g := fun e => hne e.symm
  simp [Array.getElem?_modify, hne', hg]
end Go.Proofs.Ytnfhiakdbakpgaa
/- klass: what a class is, and whether it may be. Plain. -/
namespace Go.Proofs.Ytnfhiakdbakpgaa
open Go.ChangeShapes Go.WideShapes Go.ChangeAt Go.RowKit
/-- A type in a stack map. -/
structure KS where
  tag : Int
  a : Int
def KS.cells (s : KS) : List Value := [.int .i64 s.tag, .int .i64 s.a]
theorem KS.cells_length (s : KS) : s.cells.length = 2 := rfl
/-- A trap. -/
structure KT where
  fr : Int
  tt : Int
  pl : Int
  cl : Int
def KT.cells (t : KT) : List Value := [.int .i64 t.fr, .int .i64 t.tt, .int .i64 t.pl, .int .i64 t.cl]
theorem KT.cells_length (t : KT) : t.cells.length = 4 := rfl
/-- A field. -/
structure KD where
  fl : Int
  nm : Int
  ds : Int
def KD.cells (d : KD) : List Value := [.int .i64 d.fl, .int .i64 d.nm, .int .i64 d.ds]
theorem KD.cells_length (d : KD) : d.cells.length = 3 := rfl
/-- A stack map, with the places of its rows. -/
structure KP where
  pl : Int
  la : Option Addr
  ln : Nat
  lc : Nat
  loc : List KS
  sa : Option Addr
  sn : Nat
  sc : Nat
  stk : List KS
def KP.cells (p : KP) : List Value := [.int .i64 p.pl, .slice p.la p.ln p.lc, .slice p.sa p.sn p.sc]
theorem KP.cells_length (p : KP) : p.cells.length = 3 := rfl
structure KP.Rd (p : KP) (w : World) : Prop where
  loc : Ss 2 KS.cells w p.la p.ln p.loc
  stk : Ss 2 KS.cells w p.sa p.sn p.stk
theorem KP.Rd.below {p : KP} {w w' : World} (h : p.Rd w) (hb : Below w.heap.size w w') : p.Rd w' := ⟨h.loc.below hb, h.stk.below hb⟩
/-- A method, with the places of its rows. -/
structure KM where
  fl : Int
  nm : Int
  ds : Int
  st : Int
  lo : Int
  ca : Option Addr
  cn : Nat
  cc : Nat
  code : List UInt8
  ta : Option Addr
  tn : Nat
  tc : Nat
  traps : List KT
  ma : Option Addr
  mn : Nat
  mc : Nat
  maps : List KP
def KM.cells (m : KM) : List Value := [.int .i64 m.fl, .int .i64 m.nm, .int .i64 m.ds, .int .i64 m.st, .int .i64 m.lo, .slice m.ca m.cn m.cc, .slice m.ta m.tn m.tc, .slice m.ma m.mn m.mc]
theorem KM.cells_length (m : KM) : m.cells.length = 8 := rfl
structure KM.Rd (m : KM) (w : World) : Prop where
  code : Sl encB w m.ca m.cn m.code
  cle : m.cn ≤ m.cc
  traps : Ss 4 KT.cells w m.ta m.tn m.traps
  maps : Ss 3 KP.cells w m.ma m.mn m.maps
  each : ∀ p ∈ m.maps, p.Rd w
theorem KM.Rd.below {m : KM} {w w' : World} (h : m.Rd w) (hb : Below w.heap.size w w') : m.Rd w' := ⟨h.code.below hb, h.cle, h.traps.below hb, h.maps.below hb, fun p hp => (h.each p hp).below hb⟩
/-- A class, with the places of its rows. -/
structure KF where
  pa : Option Addr
  pn : Nat
  pc : Nat
  pool : List KV
  th : Int
  su : Int
  fa : Option Addr
  fn : Nat
  fc : Nat
  fields : List KD
  ma : Option Addr
  mn : Nat
  mc : Nat
  methods : List KM
def KF.cells (f : KF) : List Value := [.slice f.pa f.pn f.pc, .int .i64 f.th, .int .i64 f.su, .slice f.fa f.fn f.fc, .slice f.ma f.mn f.mc]
structure KF.Rd (f : KF) (w : World) : Prop where
  pool : Ks w f.pa f.pn f.pool
  fields : Ss 3 KD.cells w f.fa f.fn f.fields
  methods : Ss 8 KM.cells w f.ma f.mn f.methods
  each : ∀ m ∈ f.methods, m.Rd w
theorem KF.Rd.below {f : KF} {w w' : World} (h : f.Rd w) (hb : Below w.heap.size w w') : f.Rd w' := ⟨h.pool.below hb, h.fields.below hb, h.methods.below hb, fun m hm => (h.each m hm).below hb⟩
/-- Is a place a text with these bytes? -/
def isTx (s : List UInt8) (c : KV) : Bool := decide (c.tag = 1 ∧ c.s = s)
/-- The first place of a text, or 0. -/
def findT (L : List KV) (s : List UInt8) : Nat := (L.findIdx? (isTx s)).getD 0
theorem findT_no {L : List KV} {s : List UInt8} (h : ∀ k, k < L.length → isTx s (kAt L k) = false) : findT L s = 0 := by
  unfold findT
  rw [List.findIdx?_eq_none_iff.2 (fun x hx => by
    obtain ⟨i, hi, rfl⟩ := List.getElem_of_mem hx
    rw [← kAt_get L i hi]; exact h i hi)]
  rfl
theorem findT_at {L : List KV} {s : List UInt8} (j : Nat) (hj : j < L.length) (h : ∀ k, k < j → isTx s (kAt L k) = false) (ht : isTx s (kAt L j) = true) : findT L s = j := by
  unfold findT
  rw [List.findIdx?_eq_some_iff_getElem.2 ⟨hj, by rw [← kAt_get L j hj]; exact ht, fun k hk => by rw [← kAt_get L k (by omega), h k hk]; decide⟩]
  rfl
theorem findT_lt (L : List KV) (s : List UInt8) : findT L s < L.length ∨ findT L s = 0 := by
  unfold findT
  cases h : L.findIdx? (isTx s) with
  | none => exact .inr rfl
  | some j => exact .inl (List.findIdx?_eq_some_iff_getElem.1 h).1
def clsOk (L : List KV) (i : Int) : Bool := (classAt L i).2
def slotOk (L : List KV) (s : KS) : Bool := if s.tag = 7 then clsOk L s.a else decide (s.tag = 0 ∨ s.tag = 1 ∨ s.tag = 4 ∨ s.tag = 5) && decide (s.a = 0)
def slotsOk (L : List KV) (most : Int) (l : List KS) : Bool := decide ((l.length : Int) ≤ most) && l.all (slotOk L)
def membOk (L : List KV) (fl nm ds : Int) : Bool := decide (fl = 0 ∨ fl = 8) && isT L nm 1 && isT L ds 1
def wideOk (n : Int) : Bool := decide (0 ≤ n ∧ n ≤ 65535)
def trapOk (L : List KV) (t : KT) : Bool := [t.fr, t.tt, t.pl].all wideOk && (decide (t.cl = 0) || clsOk L t.cl)
def mapOk (L : List KV) (p : KP) : Bool := wideOk p.pl && slotsOk L 64 p.loc && slotsOk L 64 p.stk
def sCode : List UInt8 := [67, 111, 100, 101]
def sMap : List UInt8 := [83, 116, 97, 99, 107, 77, 97, 112]
def sizesOk (m : KM) : Bool := decide (0 ≤ m.st ∧ m.st ≤ 64 ∧ 0 ≤ m.lo ∧ m.lo ≤ 64)
def lensOk (m : KM) : Bool := decide (0 < m.code.length ∧ m.code.length ≤ 4096 ∧ m.traps.length ≤ 255 ∧ m.maps.length ≤ 255)
def namesOk (L : List KV) (m : KM) : Bool := decide (0 < findT L sCode ∧ (m.maps.length = 0 ∨ 0 < findT L sMap))
def methOk (L : List KV) (m : KM) : Bool := membOk L m.fl m.nm m.ds && sizesOk m && lensOk m && m.traps.all (trapOk L) && m.maps.all (mapOk L) && namesOk L m
def classOk (f : KF) : Bool := poolOk f.pool && clsOk f.pool f.th && (decide (f.su = 0) || clsOk f.pool f.su) && decide (f.fields.length ≤ 64 ∧ f.methods.length ≤ 64) &&
  f.fields.all (fun d => membOk f.pool d.fl d.nm d.ds) && f.methods.all (methOk f.pool)
theorem all_take {α : Type} (p : α → Bool) (l : List α) (j : Nat) (x : α) (h : l[j]? = some x) : (l.take (j + 1)).all p = ((l.take j).all p && p x) := by
  obtain ⟨hj, he⟩ := List.getElem?_eq_some_iff.1 h
  rw [List.take_succ_eq_append_getElem hj, List.all_append, he]
  simp
theorem Ss.getC {α : Type} {z : Nat} {enc : α → List Value} {w : World} {a : Option Addr} {n : Nat} {xs : List α} (h : Ss z enc w a n xs) (j : Nat) (hj : j < n) : ∃ b off x, a = some ⟨b, off, none⟩ ∧ b < w.heap.size ∧ xs[j]? = some x ∧ ∀ i, i < z → w.cell? ⟨b, off + j * z + i, none⟩ = (enc x)[i]? := by
  obtain ⟨b, off, ha, hlt, hc⟩ := h.2 (by omega)
  have hl : j < xs.length := by rw [h.1]; exact hj
  exact ⟨b, off, xs[j], ha, hlt, List.getElem?_eq_getElem hl, hc j hl⟩
end Go.Proofs.Ytnfhiakdbakpgaa
/- klass: the first place of a text. No condition. -/
namespace Go.Proofs.Ytnfhiakdbakpgaa
open Go.ChangeShapes Go.WideShapes Go.ChangeAt Go.RowKit
theorem isTx_yes {s : List UInt8} {c : KV} (h : c.tag = 1) : isTx s c = decide (c.s = s) := by unfold isTx; simp [h]
theorem isTx_not {s : List UInt8} {c : KV} (h : c.tag ≠ 1) : isTx s c = false := by unfold isTx; simp [h]
set_option maxRecDepth 100000 in
set_option maxHeartbeats 4000000 in
theorem findc_any (w : World) (c : KV) (s : List UInt8) (g : Nat) (hg : w.heap[g]? = some (.cells #[.string ⟨s.toArray⟩] 9)) :
    Calls Try.prog 51 #[kV c, .pointer (some ⟨g, 0, none⟩)] w (BoolRet (isTx s c) w) := by
  obtain ⟨ct, ca, cb, cn, cs⟩ := c
  have lt := row_lt hg
  have q0 := row_cell hg 0 rfl
  have hne : w.heap.size ≠ g := by omega
  have q0' : (w.alloc (.cells #[.int .i64 ct, .int .i64 ca, .int .i64 cb, .int .i64 cn, .string ⟨cs.toArray⟩] 42)).cell? ⟨g, 0, none⟩ = some (.string ⟨s.toArray⟩) := cellS_below (below_1 _ _) q0
  by_cases h : ct = 1
  · subst h
    rw [isTx_yes rfl]
    unfold kV
    clear hg
    go_enter Try.func51, Try.ntmps51
    go_wp2_with fail
    go_ret
    exact ⟨by show _ = Ending.returned (.bool (decide (cs = s))); congr 2; by_cases h : cs = s <;> simp [h], below_1 _ _⟩
  · rw [isTx_not h]
    unfold kV
    have e1 : (ct == 1) = false := by simp [h]
    clear hg h
    go_enter Try.func51, Try.ntmps51
    go_wp2_with fail
    go_ret
    exact ⟨rfl, below_1 _ _⟩
/-- What IndexFunc answers. -/
def idxT (L : List KV) (s : List UInt8) : Int := match L.findIdx? (isTx s) with | some j => (j : Int) | none => -1
theorem idxT_find (L : List KV) (s : List UInt8) : (findT L s : Int) = max (idxT L s) 0 := by
  unfold findT idxT
  cases L.findIdx? (isTx s) <;> simp <;> omega
theorem idxT_no {L : List KV} {s : List UInt8} (h : ∀ k, k < L.length → isTx s (kAt L k) = false) : idxT L s = -1 := by
  unfold idxT
  rw [List.findIdx?_eq_none_iff.2 (fun x hx => by
    obtain ⟨i, hi, rfl⟩ := List.getElem_of_mem hx
    rw [← kAt_get L i hi]; exact h i hi)]
theorem idxT_at {L : List KV} {s : List UInt8} (j : Nat) (hj : j < L.length) (h : ∀ k, k < j → isTx s (kAt L k) = false) (ht : isTx s (kAt L j) = true) : idxT L s = j := by
  unfold idxT
  rw [List.findIdx?_eq_some_iff_getElem.2 ⟨hj, by rw [← kAt_get L j hj]; exact ht, fun k hk => by rw [← kAt_get L k (by omega), h k hk]; decide⟩]
set_option maxRecDepth 100000 in
set_option maxHeartbeats 4000000 in
theorem index_any (w : World) (a : Option Addr) (n cap : Nat) (L : List KV) (s : List UInt8) (g : Nat) (hs : Ks w a n L) (hn : n ≤ 65536) (hg : w.heap[g]? = some (.cells #[.string ⟨s.toArray⟩] 9)) :
    Calls Try.prog 50 #[.slice a n cap, .func (.func 51) #[] #[.pointer (some ⟨g, 0, none⟩)]] w fun e w' => e = .returned (.int .i64 (idxT L s)) ∧ Below w.heap.size w w' := by
  have HS := Lib.hid hs
  have HLn := Lib.hid hs.1
  have HG := Lib.hid hg
  clear hs hg
  go_enter Try.func50, Try.ntmps50
  go_wp2_with fail
  go_loopg [8] n (fun gn i wr => ∃ j : Nat, j ≤ n ∧ gn = n - j ∧ i = .int .i64 j ∧ Hid (∀ k, k < j → isTx s (kAt L k) = false) ∧ Hid (Below w.heap.size w wr))
  case atStart => exact ⟨0, by omega, by omega, by go_num, Lib.hid (fun k h => by omega), Lib.hid (Below.refl _ _)⟩
  case round =>
    obtain ⟨j, hj, rfl, rfl, HP, HB⟩ := hrel
    by_cases hlt : j < n
    · obtain ⟨b, off, rfl, _, hk⟩ := (HS.out.below HB.out).at j hlt
      obtain ⟨q0, q1, q2, q3, q4⟩ := hk
      have HC := Lib.hid (findc_any wr (kAt L j) s g (row_below HG.out HB.out))
      have HPJ := Lib.hid (idxT_at (L := L) (s := s) j (by rw [HLn.out]; exact hlt) HP.out)
      have HPN := Lib.hid (show isTx s (kAt L j) = false → ∀ k, k < j + 1 → isTx s (kAt L k) = false from fun h k hk => by
        rcases Nat.lt_or_ge k j with hkj | hkj
        · exact HP.out k hkj
        · have : k = j := by omega
          subst this; exact h)
      generalize isTx s (kAt L j) = tx at *
      unfold kV at HC
      generalize (kAt L j).tag = ct at *
      generalize (kAt L j).a = ca at *
      generalize (kAt L j).b = cb at *
      generalize (kAt L j).n = cn at *
      generalize (kAt L j).s = cs at *
      have hj1 : (j : Int) < n := by omega
      go_wp2_with fail
      refine HC.out.mono ?_
      rintro e w1 ⟨rfl, hb⟩
      have HB1 := Lib.hid (HB.out.trans (hb.mono HB.out.size))
      clear hb q0 q1 q2 q3 q4 HC
      cases tx
      · go_wp2_with fail
        go_roundg (n - (j + 1))
        case measure => omega
        case rel => exact ⟨j + 1, by omega, rfl, by go_num, Lib.hid (HPN.out (by simp)), HB1⟩
      · go_wp2_with fail
        go_ret
        exact ⟨by rw [HPJ.out (by simp)]; rfl, HB1.out⟩
    · obtain rfl : j = n := by omega
      have HN := Lib.hid (idxT_no (L := L) (s := s) (by rw [HLn.out]; exact HP.out))
      go_wp2_with fail
      go_ret
      exact ⟨by rw [HN.out]; rfl, HB.out⟩
set_option maxRecDepth 100000 in
set_option maxHeartbeats 4000000 in
theorem find_any (w : World) (a : Option Addr) (n cap : Nat) (L : List KV) (s : List UInt8) (hs : Ks w a n L) (hn : n ≤ 65536) :
    Calls Try.prog 19 #[.slice a n cap, .string ⟨s.toArray⟩] w fun e w' => e = .returned (.int .i64 (findT L s)) ∧ Below w.heap.size w w' := by
  have hb1 : Below w.heap.size w (w.alloc (.cells #[.string ⟨s.toArray⟩] 9)) := below_1 _ _
  have HC := Lib.hid (index_any (w.alloc (.cells #[.string ⟨s.toArray⟩] 9)) a n cap L s w.heap.size (hs.below hb1) hn (heap_alloc_last w _))
  have HM := Lib.hid (idxT_find L s)
  have HB := Lib.hid hb1
  clear hs hb1
  go_enter Try.func19, Try.ntmps19
  go_wp2_with fail
  refine HC.out.mono ?_
  rintro e w1 ⟨rfl, hb⟩
  have HB1 := Lib.hid (HB.out.trans (hb.mono HB.out.size))
  clear hb HC
  generalize idxT L s = r at *
  by_cases hr : r < 0
  · have HR := Lib.hid (show (findT L s : Int) = 0 by have := HM.out; omega)
    go_wp2_with fail
    go_ret
    exact ⟨by rw [HR.out]; rfl, HB1.out⟩
  · have HR := Lib.hid (show (findT L s : Int) = r by have := HM.out; omega)
    go_wp2_with fail
    go_ret
    exact ⟨by rw [HR.out]; rfl, HB1.out⟩
end Go.Proofs.Ytnfhiakdbakpgaa
/- klass: what has to hold. No condition. -/
namespace Go.Proofs.Ytnfhiakdbakpgaa
open Go.ChangeShapes Go.WideShapes Go.ChangeAt Go.RowKit
/-- An int as a value. -/
def encZ (v : Int) : Value := .int .i64 v
theorem Ss.keep1 {α : Type} {z : Nat} {enc : α → List Value} {g : Nat} {w w' : World} {x : Option Addr} {n : Nat} {xs : List α} (hs : Ss z enc w x n xs) (h : Keep1 g w w') (h1 : Off1 x n g) : Ss z enc w' x n xs := by
  refine ⟨hs.1, fun hn => ?_⟩
  obtain ⟨b, off, ha, hlt, hc⟩ := hs.2 hn
  refine ⟨b, off, ha, Nat.lt_of_lt_of_le hlt h.size, fun i hi j hj => ?_⟩
  rw [← hc i hi j hj]
  unfold World.cell?
  rw [h.block b hlt (h1 hn b off ha)]
theorem Off1.oldS {α : Type} {z : Nat} {enc : α → List Value} {w : World} {x : Option Addr} {n g : Nat} {xs : List α} (h : Ss z enc w x n xs) (hg : w.heap.size ≤ g) : Off1 x n g := by
  intro hn b off hx
  obtain ⟨b', off', hx', hlt, _⟩ := h.2 hn
  rw [hx] at hx'
  simp only [Option.some.injEq, Addr.mk.injEq] at hx'
  omega
/-- A looker in block g. -/
structure LkS (w : World) (g : Nat) (a : Option Addr) (n cap : Nat) (L : List KV) (odd : Bool) : Prop where
  k : Blk2 w g (.slice a n cap) (.bool odd) 71
  ks : Ks w a n L
  sm : n ≤ 65536
  off : Off1 a n g
theorem LkS.below {w w' : World} {g : Nat} {a : Option Addr} {n cap : Nat} {L : List KV} {odd : Bool} (h : LkS w g a n cap L odd) (hb : Below w.heap.size w w') : LkS w' g a n cap L odd := ⟨h.k.below hb, h.ks.below hb, h.sm, h.off⟩
theorem LkS.lt {w : World} {g : Nat} {a : Option Addr} {n cap : Nat} {L : List KV} {odd : Bool} (h : LkS w g a n cap L odd) : g < w.heap.size := h.k.box.lt
def LkRet (g : Nat) (a : Option Addr) (n cap : Nat) (L : List KV) (odd : Bool) (w : World) (e : Ending) (w' : World) : Prop := e = .returned (.tuple #[]) ∧ LkS w' g a n cap L odd ∧ Keep1 g w w'
set_option maxRecDepth 100000 in
set_option maxHeartbeats 4000000 in
theorem need_any (w : World) (g : Nat) (a : Option Addr) (n cap : Nat) (L : List KV) (odd ok : Bool) (h : LkS w g a n cap L odd) :
    Calls Try.prog 29 #[.pointer (some ⟨g, 0, none⟩), .bool ok] w (LkRet g a n cap L (odd || !ok) w) := by
  have H := Lib.hid h
  obtain ⟨c0, c1, f0, f1, lt⟩ := h.k.box
  clear h
  cases odd
  · go_enter Try.func29, Try.ntmps29
    go_wp2_with fail
    go_end0
    exact ⟨rfl, ⟨H.out.k.set1, Ss.keep1 H.out.ks ((Keep1.refl g w).set 1 _) H.out.off, H.out.sm, H.out.off⟩, (Keep1.refl g w).set 1 _⟩
  · go_enter Try.func29, Try.ntmps29
    go_wp2_with fail
    go_end0
    exact ⟨rfl, ⟨H.out.k.set1, Ss.keep1 H.out.ks ((Keep1.refl g w).set 1 _) H.out.off, H.out.sm, H.out.off⟩, (Keep1.refl g w).set 1 _⟩
set_option maxRecDepth 100000 in
set_option maxHeartbeats 4000000 in
theorem lclass_any (w : World) (g : Nat) (a : Option Addr) (n cap : Nat) (L : List KV) (odd : Bool) (i : Int) (h : LkS w g a n cap L odd) :
    Calls Try.prog 28 #[.pointer (some ⟨g, 0, none⟩), .int .i64 i] w (LkRet g a n cap L (odd || !clsOk L i) w) := by
  have HC := Lib.hid (Class_any w a n cap L i h.ks h.sm)
  have HN := Lib.hid (need_any w g a n cap L odd (clsOk L i) h)
  unfold ClassRet at HC
  unfold clsOk at HN ⊢
  generalize (classAt L i).1 = s1 at *
  generalize (classAt L i).2 = b1 at *
  obtain ⟨c0, c1, f0, f1, lt⟩ := h.k.box
  clear h
  go_enter Try.func28, Try.ntmps28
  go_wp2_with fail
  refine HC.out.mono ?_
  rintro e w' ⟨rfl, rfl⟩
  go_wp2_with fail
  refine HN.out.mono ?_
  rintro e w' ⟨rfl, h1, h2⟩
  go_wp2_with fail
  go_end0
  exact ⟨rfl, h1, h2⟩
set_option maxRecDepth 100000 in
set_option maxHeartbeats 4000000 in
theorem ltext_any (w : World) (g : Nat) (a : Option Addr) (n cap : Nat) (L : List KV) (odd : Bool) (i : Int) (h : LkS w g a n cap L odd) :
    Calls Try.prog 62 #[.pointer (some ⟨g, 0, none⟩), .int .i64 i] w (LkRet g a n cap L (odd || !isT L i 1) w) := by
  have HC := Lib.hid (Text_any w a n cap L i h.ks h.sm)
  have HN := Lib.hid (need_any w g a n cap L odd (isT L i 1) h)
  unfold TextRet at HC
  generalize textAt L i = s1 at *
  generalize isT L i 1 = b1 at *
  obtain ⟨c0, c1, f0, f1, lt⟩ := h.k.box
  clear h
  go_enter Try.func62, Try.ntmps62
  go_wp2_with fail
  refine HC.out.mono ?_
  rintro e w' ⟨rfl, rfl⟩
  go_wp2_with fail
  refine HN.out.mono ?_
  rintro e w' ⟨rfl, h1, h2⟩
  go_wp2_with fail
  go_end0
  exact ⟨rfl, h1, h2⟩
end Go.Proofs.Ytnfhiakdbakpgaa
