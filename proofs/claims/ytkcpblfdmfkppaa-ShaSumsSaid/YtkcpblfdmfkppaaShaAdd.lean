/- sha: a block added. No condition. -/
import Derived.Test.YtkcpblfdmfkppaaShaPlain
import Derived.StillTailTactics
namespace Go.Proofs.Ytkcpblfdmfkppaa
open Go.ChangeShapes Go.WideShapes Go.ChangeAt Go.RowKit
/-- A block that begins with eight words. -/
def SBlk (w : World) (g : Nat) (v : V8) (rest : List Value) (e : TypeId) : Prop := w.heap[g]? = some (.cells (v.cells ++ rest).toArray e)
theorem SBlk.below {w w' : World} {g : Nat} {v : V8} {rest : List Value} {e : TypeId} (h : SBlk w g v rest e) (hb : Below w.heap.size w w') : SBlk w' g v rest e := by
  unfold SBlk at h ⊢
  rw [hb.block g (Array.getElem?_eq_some_iff.1 h).1]
  exact h
theorem SBlk.box {w : World} {g : Nat} {v : V8} {rest : List Value} {e : TypeId} (h : SBlk w g v rest e) :
    (w.cell? ⟨g, 0, none⟩ = some (.int .u32 (E v.a)) ∧ w.cell? ⟨g, 1, none⟩ = some (.int .u32 (E v.b)) ∧ w.cell? ⟨g, 2, none⟩ = some (.int .u32 (E v.c)) ∧ w.cell? ⟨g, 3, none⟩ = some (.int .u32 (E v.d)) ∧
      w.cell? ⟨g, 4, none⟩ = some (.int .u32 (E v.e)) ∧ w.cell? ⟨g, 5, none⟩ = some (.int .u32 (E v.f)) ∧ w.cell? ⟨g, 6, none⟩ = some (.int .u32 (E v.g)) ∧ w.cell? ⟨g, 7, none⟩ = some (.int .u32 (E v.h))) ∧
    (∀ i, w.frozen? ⟨g, i, none⟩ = false) ∧ g < w.heap.size := by
  refine ⟨⟨?_, ?_, ?_, ?_, ?_, ?_, ?_, ?_⟩, fun i => ?_, (Array.getElem?_eq_some_iff.1 h).1⟩
  · rw [cell_of_row w g 0 _ _ _ h]; rfl
  · rw [cell_of_row w g 1 _ _ _ h]; rfl
  · rw [cell_of_row w g 2 _ _ _ h]; rfl
  · rw [cell_of_row w g 3 _ _ _ h]; rfl
  · rw [cell_of_row w g 4 _ _ _ h]; rfl
  · rw [cell_of_row w g 5 _ _ _ h]; rfl
  · rw [cell_of_row w g 6 _ _ _ h]; rfl
  · rw [cell_of_row w g 7 _ _ _ h]; rfl
  · unfold World.frozen?; unfold SBlk at h; rw [h]; rfl
theorem SBlk.apart {w w' : World} {g x : Nat} {v : V8} {rest : List Value} {e : TypeId} (h : SBlk w g v rest e) (hg : w.grownBy w' (some x)) (hne : g ≠ x) : SBlk w' g v rest e := by
  unfold SBlk at h ⊢
  rw [hg.block g (Array.getElem?_eq_some_iff.1 h).1 (fun e => hne (by cases e; rfl))]
  exact h
/-- The rounds' numbers in memory. -/
def KBk (w : World) (g : Nat) : Prop := w.heap[g]? = some (.cells (keysL.map encW).toArray 62)
theorem KBk.below {w w' : World} {g : Nat} (h : KBk w g) (hb : Below w.heap.size w w') : KBk w' g := by
  unfold KBk at h ⊢
  rw [hb.block g (Array.getElem?_eq_some_iff.1 h).1]
  exact h
theorem KBk.at {w : World} {g : Nat} (h : KBk w g) (i : Nat) (hi : i < 64) : w.cell? ⟨g, i, none⟩ = some (.int .u32 (E (keysL.getD i 0))) := by
  have hl : keysL.length = 64 := rfl
  rw [cell_of_row w g i _ _ _ h, List.getElem?_toArray, List.getElem?_map, List.getElem?_eq_getElem (by omega)]
  simp [encW, List.getD, hl, hi]
theorem SBlk.row {w : World} {g g2 : Nat} {v : V8} {rest : List Value} {e : TypeId} {A : Array Value} (h : SBlk w g v rest e) (hne : g ≠ g2) : SBlk (w.setRow g2 A) g v rest e := by
  unfold SBlk at h ⊢
  rw [setRow_other _ _ _ _ hne]
  exact h
/-- A block of so many cells. -/
def ZB (w : World) (g n : Nat) (t : TypeId) : Prop := ∃ old : Array Value, old.size = n ∧ w.heap[g]? = some (.cells old t (0, 0))
theorem ZB.below {w w' : World} {g n : Nat} {t : TypeId} (h : ZB w g n t) (hb : Below w.heap.size w w') : ZB w' g n t := by
  obtain ⟨old, h1, h2⟩ := h
  exact ⟨old, h1, by rw [hb.block g (Array.getElem?_eq_some_iff.1 h2).1]; exact h2⟩
theorem ZB.lt {w : World} {g n : Nat} {t : TypeId} (h : ZB w g n t) : g < w.heap.size := by
  obtain ⟨old, _, h2⟩ := h
  exact (Array.getElem?_eq_some_iff.1 h2).1
theorem ZB.row {w : World} {g g2 n : Nat} {t : TypeId} {A : Array Value} (h : ZB w g n t) (hne : g ≠ g2) : ZB (w.setRow g2 A) g n t := by
  obtain ⟨old, h1, h2⟩ := h
  exact ⟨old, h1, by rw [setRow_other _ _ _ _ hne]; exact h2⟩
theorem info8 : (Try.prog.info? 45).map (·.size) = some 8 := by kernel_rfl
/-- Behind the first region. -/
def AddFrom (w : World) (v : V8) (k s : Value) (wx : World) : Prop := ∃ gk gv, k = .pointer (some ⟨gk, 0, none⟩) ∧ s = .pointer (some ⟨gv, 0, none⟩) ∧ KBk wx gk ∧ SBlk wx gv v [] 45 ∧ Below w.heap.size w wx ∧ gk ≠ gv ∧ w.heap.size ≤ gk ∧ w.heap.size ≤ gv
/-- One world. -/
def EqW (x y : World) : Prop := y = x
/-- What the first region reads. -/
def HS (g : Nat) (v : V8) (rest : List Value) (e : TypeId) (y : World) : Prop := SBlk y g v rest e
theorem w_and3 (a b : BitVec 32) : bits .and .u32 (E a) (E b) = E (a &&& b) := w_and a b
theorem idx_words (w : World) (W : List (BitVec 32)) (hl : W.length = 64) (k : Nat) (h : k < 64) : (Instr.index 62 (.agg (W.map encW).toArray) (.int .i64 k)).run Try.prog w = .ok (.int .u32 (E (W.getD k 0))) w := by
  have hu := Try.underlying62
  have hk : k < W.length := by omega
  have hk2 : ((k : Nat) : Int) < 64 := by omega
  simp [go_sem, Instr.index, hu, hl, h, hk, encW, List.getD]
/-- A word by its place. -/
def V8.get (v : V8) : Nat → BitVec 32
  | 0 => v.a
  | 1 => v.b
  | 2 => v.c
  | 3 => v.d
  | 4 => v.e
  | 5 => v.f
  | 6 => v.g
  | _ => v.h
def V8.put (v : V8) (i : Nat) (x : BitVec 32) : V8 :=
  match i with
  | 0 => { v with a := x }
  | 1 => { v with b := x }
  | 2 => { v with c := x }
  | 3 => { v with d := x }
  | 4 => { v with e := x }
  | 5 => { v with f := x }
  | 6 => { v with g := x }
  | _ => { v with h := x }
theorem V8.ext8 {u v : V8} (h : ∀ i, i < 8 → u.get i = v.get i) : u = v := by
  have h0 := h 0 (by omega)
  have h1 := h 1 (by omega)
  have h2 := h 2 (by omega)
  have h3 := h 3 (by omega)
  have h4 := h 4 (by omega)
  have h5 := h 5 (by omega)
  have h6 := h 6 (by omega)
  have h7 := h 7 (by omega)
  cases u
  cases v
  simp only [V8.get] at h0 h1 h2 h3 h4 h5 h6 h7
  subst h0 h1 h2 h3 h4 h5 h6 h7
  rfl
theorem V8.get_plus (u v : V8) (i : Nat) : (u.plus v).get i = u.get i + v.get i := by
  unfold V8.get V8.plus
  split <;> rfl
theorem lt8 {i : Nat} (h : i < 8) : i = 0 ∨ i = 1 ∨ i = 2 ∨ i = 3 ∨ i = 4 ∨ i = 5 ∨ i = 6 ∨ i = 7 := by omega
theorem V8.get_put (u : V8) (i : Nat) (x : BitVec 32) (hi : i < 8) (j : Nat) (hj : j < 8) : (u.put i x).get j = if j = i then x else u.get j := by
  rcases lt8 hi with rfl | rfl | rfl | rfl | rfl | rfl | rfl | rfl <;> rcases lt8 hj with rfl | rfl | rfl | rfl | rfl | rfl | rfl | rfl <;> rfl
theorem SBlk.at {w : World} {g : Nat} {v : V8} {rest : List Value} {e : TypeId} (h : SBlk w g v rest e) (i : Nat) (hi : i < 8) : w.cell? ⟨g, i, none⟩ = some (.int .u32 (E (v.get i))) := by
  rw [cell_of_row w g i _ _ _ h]
  rcases lt8 hi with rfl | rfl | rfl | rfl | rfl | rfl | rfl | rfl <;> rfl
theorem SBlk.put {w : World} {g : Nat} {v : V8} {rest : List Value} {e : TypeId} (h : SBlk w g v rest e) (i : Nat) (hi : i < 8) (x : BitVec 32) : SBlk (w.setCell ⟨g, i, none⟩ (.int .u32 (E x))) g (v.put i x) rest e := by
  unfold SBlk at h ⊢
  unfold World.setCell
  simp only [Array.getElem?_modify, h, Option.map_some, if_true]
  rcases lt8 hi with rfl | rfl | rfl | rfl | rfl | rfl | rfl | rfl <;> (congr 2)
theorem SBlk.other {w : World} {g g' o : Nat} {x : Value} {v : V8} {rest : List Value} {e : TypeId} (h : SBlk w g v rest e) (hne : g ≠ g') : SBlk (w.setCell ⟨g', o, none⟩ x) g v rest e := by
  unfold SBlk at h ⊢
  unfold World.setCell
  simp [Array.getElem?_modify, Ne.symm hne, h]
theorem KBk.other {w : World} {g g' o : Nat} {x : Value} (h : KBk w g) (hne : g ≠ g') : KBk (w.setCell ⟨g', o, none⟩ x) g := by
  unfold KBk at h ⊢
  unfold World.setCell
  simp [Array.getElem?_modify, Ne.symm hne, h]
theorem KBk.row {w : World} {g g2 : Nat} {A : Array Value} (h : KBk w g) (hne : g ≠ g2) : KBk (w.setRow g2 A) g := by
  unfold KBk at h ⊢
  rw [setRow_other _ _ _ _ hne]
  exact h
def AnyW (_ : World) : Prop := True
def V8.shift (u : V8) : V8 := ⟨u.a, u.a, u.b, u.c, u.d, u.e, u.f, u.g⟩
theorem SBlk.src {w : World} {g : Nat} {v : V8} {rest : List Value} {e : TypeId} (h : SBlk w g v rest e) (j : Nat) (x : Value) (hx : (v.cells.take 7)[j]? = some x) : w.cell? ((⟨g, 0, none⟩ : Addr).add j) = some x := by
  have hj : j < 7 := by
    rcases Nat.lt_or_ge j 7 with h1 | h1
    · exact h1
    · rw [List.getElem?_eq_none (by simp [V8.cells]; omega)] at hx
      cases hx
  rw [List.getElem?_take_of_lt hj] at hx
  have h2 : (⟨g, 0, none⟩ : Addr).add j = ⟨g, j, none⟩ := by simp [Addr.add]; try omega
  rw [h2, cell_of_row w g j _ _ _ h, List.getElem?_toArray, List.getElem?_append_left (by rw [V8.cells_length]; omega)]
  exact hx
theorem SBlk.shifted {w : World} {g : Nat} {v : V8} {e : TypeId} (h : SBlk w g v [] e) {A : Array Value} (hA : A = v.shift.cells.toArray) : SBlk (w.setRow g A) g v.shift [] e := by
  unfold SBlk
  rw [List.append_nil, ← hA]
  exact setRow_heap w g _ A _ _ h
theorem grown_below {w w' : World} {g : Nat} (h : Below w.heap.size w w') : w.grownBy w' (some g) := ⟨h.os, h.tape, h.output, h.size, fun k hk _ => h.block k hk⟩
theorem grown_set {w w' : World} {g o : Nat} {v : Value} (h : w.grownBy w' (some g)) : w.grownBy (w'.setCell ⟨g, o, none⟩ v) (some g) := by
  refine ⟨h.os, h.tape, h.output, by simpa [World.setCell] using h.size, fun k hk hne => ?_⟩
  rw [← h.block k hk hne]
  unfold World.setCell
  have h1 : g ≠ k := fun e => hne (by rw [e])
  simp [Array.getElem?_modify, h1]
theorem grown_drew {w w' : World} {r : Option Nat} (h : w.grownBy w' r) : w.grownBy w'.drew r := ⟨h.os, h.tape.trans rfl, h.output, h.size, h.block⟩
theorem w_add2 (a b : BitVec 32) : (E a + E b) % 4294967296 = E (a + b) := by
  unfold E
  rw [BitVec.toNat_add]
  omega
theorem wp_copy_own {P : Program} {o : Oper} {a : Act} {w : World} {K : Act → World → Prop} {Q : Exit → Act → World → Prop} (d s : Operand) (dT sT : TypeId)
    (ho : o.op = .call { callee := .builtin .copy, args := #[d, s], argTypes := #[dT, sT] }) (elem : TypeId) (hu : P.underlying dT = some (.slice elem)) (hsz : (P.info? elem).map (·.size) = some 1)
    (g off dLen dCap : Nat) (ad : Addr) (sLen sCap : Nat) (hd : a.eval d = .slice (some ⟨g, off, none⟩) dLen dCap) (hs : a.eval s = .slice (some ad) sLen sCap)
    (cur : Array Value) (t : TypeId) (hg : w.heap[g]? = some (.cells cur t (0, 0))) (cs : List Value) (hn : cs.length = Nat.min sLen dLen)
    (hsrc : ∀ j v, cs[j]? = some v → w.cell? (ad.add j) = some v) (hfit : off + cs.length ≤ cur.size) (h1 : ∀ v ∈ cs, v.oneCell' = true)
    (h : K (a.put o.dst (goInt cs.length)) (w.setRow g (cur.toList.take off ++ (cs ++ cur.toList.drop (off + cs.length))).toArray)) : Oper.wp P o a w K Q := by
  have hrun := run_copy_row (P := P) w dT sT o.type elem g off dLen dCap ad sLen sCap cur t cs hu hsz hg hn hsrc hfit h1
  unfold Oper.wp
  simp [execOp, ho, resolve, invoke, builtin, hd, hs, hrun, Result.andThen]
  exact h
set_option maxHeartbeats 8000000 in
set_option maxRecDepth 100000 in
theorem add_any (w : World) (g : Nat) (v : V8) (rest : List Value) (te : TypeId) (a : Option Addr) (cap : Nat) (bs : List UInt8) (hg : SBlk w g v rest te) (hs : Sl encB w a 64 bs) (hcap : 64 ≤ cap) :
    Calls Try.prog 18 #[.pointer (some ⟨g, 0, none⟩), .slice a 64 cap] w fun e w' => e = .returned (.tuple #[]) ∧ SBlk w' g (addV v bs) rest te ∧ w.grownBy w' (some g) := by
  have HG := Lib.hid hg
  have HSL := Lib.hid hs
  have HK := Lib.hid (fun w' => keys_any w')
  clear hg hs
  go_enter Try.func18, Try.ntmps18
  have hgl := HG.out.box.2.2
  obtain ⟨A, hA⟩ : ∃ A, A = (keysL.map encW).toArray := ⟨_, rfl⟩
  have HA := Lib.hid hA
  have HSZ := Lib.hid (show A.size = 64 by rw [hA]; rfl)
  have HON := Lib.hid (show A.all (·.oneCell') = true by rw [hA]; simp [encW, Value.oneCell'])
  clear hA
  go_upto_region 0 with fail
  go_cut [4, 5] (fun k s wx => AddFrom w v k s wx)
  case first =>
    have l0 := fun y (h : HS g v rest te y) => (show SBlk y g v rest te from h).box.1.1
    have l1 := fun y (h : HS g v rest te y) => (show SBlk y g v rest te from h).box.1.2.1
    have l2 := fun y (h : HS g v rest te y) => (show SBlk y g v rest te from h).box.1.2.2.1
    have l3 := fun y (h : HS g v rest te y) => (show SBlk y g v rest te from h).box.1.2.2.2.1
    have l4 := fun y (h : HS g v rest te y) => (show SBlk y g v rest te from h).box.1.2.2.2.2.1
    have l5 := fun y (h : HS g v rest te y) => (show SBlk y g v rest te from h).box.1.2.2.2.2.2.1
    have l6 := fun y (h : HS g v rest te y) => (show SBlk y g v rest te from h).box.1.2.2.2.2.2.2.1
    have l7 := fun y (h : HS g v rest te y) => (show SBlk y g v rest te from h).box.1.2.2.2.2.2.2.2
    have hSw : HS g v rest te w.drew := SBlk.below HG.out (Below.refl _ _).drew
    have HB := Lib.hid (show Below w.heap.size w w.drew from (Below.refl _ _).drew)
  -- ORDERS
    refine wp_region_lexS (HS g v rest te) (.of [(1, true), (2, true), (3, true)] (.fork3 0 (.fork 4 (.of [(5, false), (6, false), (7, false)] (.stir [])) 5 (.of [(4, false), (6, false), (7, false)] (.stir []))) 4 (.fork 0 (.of [(5, false), (6, false), (7, false)] (.stir [])) 5 (.of [(0, false), (6, false), (7, false)] (.stir []))) 5 (.fork 0 (.of [(4, false), (6, false), (7, false)] (.stir [])) 4 (.of [(0, false), (6, false), (7, false)] (.stir []))))) (by kernel_rfl) (by kernel_rfl) (fun c a d v w h => by cases d <;> exact h) ?_
    iterate 3
      refine lexS_step (fun K hK => ?_)
      simp only [lexOp, List.getElem?_toArray, List.getElem?_cons_succ, List.getElem?_cons_zero]
      rw [if_pos (by rfl)]
      apply Exists.intro
      refine ⟨fun w' hS' => ?_, hSw, ?_⟩
      · first | (go_simp <;> with_reducible rfl) | (go_simp; go_bits; with_reducible rfl)
      go_simp
      try go_bits
      refine hK _ _ ?_
      clear hK K
    clear l0 l1 l2 l3 l4 l5 l6 l7
    generalize w.drew = w0 at *
    refine lexS_fork3 ?_ ?_ ?_
    · intro K hK
      simp only [lexOp, List.getElem?_toArray, List.getElem?_cons_succ, List.getElem?_cons_zero]
      rw [if_pos (by rfl)]
      go_step
      refine (HK.out _).mono ?_
      rintro e w1 ⟨rfl, hbc⟩
      rw [← HA.out]
      replace hSw : HS g v rest te w1 := SBlk.below hSw hbc
      replace HB := Lib.hid (HB.out.trans (hbc.mono HB.out.size))
      clear hbc
      refine ⟨hSw, ?_⟩
      go_simp
      refine hK _ _ ?_
      clear hK K
      refine lexS_fork ?_ ?_
      · intro K hK
        simp only [lexOp, List.getElem?_toArray, List.getElem?_cons_succ, List.getElem?_cons_zero]
        rw [if_pos (by rfl)]
        go_step
        have hba : Below w1.heap.size w1 (w1.alloc (.cells #[.int .u32 0, .int .u32 0, .int .u32 0, .int .u32 0, .int .u32 0, .int .u32 0, .int .u32 0, .int .u32 0, .int .u32 0, .int .u32 0, .int .u32 0, .int .u32 0, .int .u32 0, .int .u32 0, .int .u32 0, .int .u32 0, .int .u32 0, .int .u32 0, .int .u32 0, .int .u32 0, .int .u32 0, .int .u32 0, .int .u32 0, .int .u32 0, .int .u32 0, .int .u32 0, .int .u32 0, .int .u32 0, .int .u32 0, .int .u32 0, .int .u32 0, .int .u32 0, .int .u32 0, .int .u32 0, .int .u32 0, .int .u32 0, .int .u32 0, .int .u32 0, .int .u32 0, .int .u32 0, .int .u32 0, .int .u32 0, .int .u32 0, .int .u32 0, .int .u32 0, .int .u32 0, .int .u32 0, .int .u32 0, .int .u32 0, .int .u32 0, .int .u32 0, .int .u32 0, .int .u32 0, .int .u32 0, .int .u32 0, .int .u32 0, .int .u32 0, .int .u32 0, .int .u32 0, .int .u32 0, .int .u32 0, .int .u32 0, .int .u32 0, .int .u32 0] 62)) := (Below.refl _ _).alloc (Nat.le_refl _) _
        have HZK := Lib.hid (show ZB (w1.alloc (.cells #[.int .u32 0, .int .u32 0, .int .u32 0, .int .u32 0, .int .u32 0, .int .u32 0, .int .u32 0, .int .u32 0, .int .u32 0, .int .u32 0, .int .u32 0, .int .u32 0, .int .u32 0, .int .u32 0, .int .u32 0, .int .u32 0, .int .u32 0, .int .u32 0, .int .u32 0, .int .u32 0, .int .u32 0, .int .u32 0, .int .u32 0, .int .u32 0, .int .u32 0, .int .u32 0, .int .u32 0, .int .u32 0, .int .u32 0, .int .u32 0, .int .u32 0, .int .u32 0, .int .u32 0, .int .u32 0, .int .u32 0, .int .u32 0, .int .u32 0, .int .u32 0, .int .u32 0, .int .u32 0, .int .u32 0, .int .u32 0, .int .u32 0, .int .u32 0, .int .u32 0, .int .u32 0, .int .u32 0, .int .u32 0, .int .u32 0, .int .u32 0, .int .u32 0, .int .u32 0, .int .u32 0, .int .u32 0, .int .u32 0, .int .u32 0, .int .u32 0, .int .u32 0, .int .u32 0, .int .u32 0, .int .u32 0, .int .u32 0, .int .u32 0, .int .u32 0] 62)) w1.heap.size 64 62 from ⟨_, rfl, heap_alloc_last w1 _⟩)
        replace hSw : HS g v rest te (w1.alloc (.cells #[.int .u32 0, .int .u32 0, .int .u32 0, .int .u32 0, .int .u32 0, .int .u32 0, .int .u32 0, .int .u32 0, .int .u32 0, .int .u32 0, .int .u32 0, .int .u32 0, .int .u32 0, .int .u32 0, .int .u32 0, .int .u32 0, .int .u32 0, .int .u32 0, .int .u32 0, .int .u32 0, .int .u32 0, .int .u32 0, .int .u32 0, .int .u32 0, .int .u32 0, .int .u32 0, .int .u32 0, .int .u32 0, .int .u32 0, .int .u32 0, .int .u32 0, .int .u32 0, .int .u32 0, .int .u32 0, .int .u32 0, .int .u32 0, .int .u32 0, .int .u32 0, .int .u32 0, .int .u32 0, .int .u32 0, .int .u32 0, .int .u32 0, .int .u32 0, .int .u32 0, .int .u32 0, .int .u32 0, .int .u32 0, .int .u32 0, .int .u32 0, .int .u32 0, .int .u32 0, .int .u32 0, .int .u32 0, .int .u32 0, .int .u32 0, .int .u32 0, .int .u32 0, .int .u32 0, .int .u32 0, .int .u32 0, .int .u32 0, .int .u32 0, .int .u32 0] 62)) := SBlk.below hSw hba
        have hgk := HB.out.size
        replace HB := Lib.hid (HB.out.trans (hba.mono HB.out.size))
        clear hba
        refine ⟨hSw, hK _ _ ?_⟩
        clear hK K
        generalize hnw : w1.alloc (.cells #[.int .u32 0, .int .u32 0, .int .u32 0, .int .u32 0, .int .u32 0, .int .u32 0, .int .u32 0, .int .u32 0, .int .u32 0, .int .u32 0, .int .u32 0, .int .u32 0, .int .u32 0, .int .u32 0, .int .u32 0, .int .u32 0, .int .u32 0, .int .u32 0, .int .u32 0, .int .u32 0, .int .u32 0, .int .u32 0, .int .u32 0, .int .u32 0, .int .u32 0, .int .u32 0, .int .u32 0, .int .u32 0, .int .u32 0, .int .u32 0, .int .u32 0, .int .u32 0, .int .u32 0, .int .u32 0, .int .u32 0, .int .u32 0, .int .u32 0, .int .u32 0, .int .u32 0, .int .u32 0, .int .u32 0, .int .u32 0, .int .u32 0, .int .u32 0, .int .u32 0, .int .u32 0, .int .u32 0, .int .u32 0, .int .u32 0, .int .u32 0, .int .u32 0, .int .u32 0, .int .u32 0, .int .u32 0, .int .u32 0, .int .u32 0, .int .u32 0, .int .u32 0, .int .u32 0, .int .u32 0, .int .u32 0, .int .u32 0, .int .u32 0, .int .u32 0] 62) = w2 at *
        clear hnw
        generalize hgg : w1.heap.size = gk at *
        clear hgg
        have hltgk : gk < w2.heap.size := HZK.out.lt
        refine lexS_step (fun K hK => ?_)
        simp only [lexOp, List.getElem?_toArray, List.getElem?_cons_succ, List.getElem?_cons_zero]
        rw [if_pos (by rfl)]
        go_step
        have hba : Below w2.heap.size w2 (w2.alloc (.cells #[.int .u32 0, .int .u32 0, .int .u32 0, .int .u32 0, .int .u32 0, .int .u32 0, .int .u32 0, .int .u32 0] 45)) := (Below.refl _ _).alloc (Nat.le_refl _) _
        have HZV := Lib.hid (show ZB (w2.alloc (.cells #[.int .u32 0, .int .u32 0, .int .u32 0, .int .u32 0, .int .u32 0, .int .u32 0, .int .u32 0, .int .u32 0] 45)) w2.heap.size 8 45 from ⟨_, rfl, heap_alloc_last w2 _⟩)
        replace hSw : HS g v rest te (w2.alloc (.cells #[.int .u32 0, .int .u32 0, .int .u32 0, .int .u32 0, .int .u32 0, .int .u32 0, .int .u32 0, .int .u32 0] 45)) := SBlk.below hSw hba
        replace HZK := Lib.hid (HZK.out.below hba)
        have hgv := HB.out.size
        replace HB := Lib.hid (HB.out.trans (hba.mono HB.out.size))
        clear hba
        refine ⟨hSw, hK _ _ ?_⟩
        clear hK K
        generalize hnw : w2.alloc (.cells #[.int .u32 0, .int .u32 0, .int .u32 0, .int .u32 0, .int .u32 0, .int .u32 0, .int .u32 0, .int .u32 0] 45) = w3 at *
        clear hnw
        generalize hgg : w2.heap.size = gv at *
        have hne : gk ≠ gv := by have := hltgk; omega
        clear hgg
        have hltgv : gv < w3.heap.size := HZV.out.lt
        refine lexS_step (fun K hK => ?_)
        simp only [lexOp, List.getElem?_toArray, List.getElem?_cons_succ, List.getElem?_cons_zero]
        rw [if_pos (by rfl)]
        change Oper.wp _ _ _ _ _ _
        obtain ⟨old, ho1, ho2⟩ := HZK.out
        refine wp_store_row _ _ _ rfl gk A rfl rfl _ old ho2 (by rw [HSZ.out]; exact info64) (by rw [ho1, HSZ.out]) HON.out ?_
        have HK6 := Lib.hid (setRow_heap w3 gk old A _ _ ho2)
        have HV6 := Lib.hid (HZV.out.row (A := A) (g2 := gk) (by omega))
        replace hSw : HS g v rest te (w3.setRow gk A) := SBlk.row hSw (by omega)
        replace HB := Lib.hid (below_setRow HB.out hgk A)
        refine ⟨hSw, hK _ _ ?_⟩
        clear hK K ho1 ho2 HZK HZV
        generalize w3.setRow gk A = w4 at *
        refine lexS_step (fun K hK => ?_)
        simp only [lexOp, List.getElem?_toArray, List.getElem?_cons_succ, List.getElem?_cons_zero]
        rw [if_pos (by rfl)]
        change Oper.wp _ _ _ _ _ _
        obtain ⟨old2, ho1, ho2⟩ := HV6.out
        refine wp_store_row _ _ _ rfl gv _ rfl rfl _ old2 ho2 (by exact info8) (by rw [ho1]; rfl) (by simp [Value.oneCell']) ?_
        have HV7 := Lib.hid (setRow_heap w4 gv old2 v.cells.toArray _ _ ho2)
        have HK7 := Lib.hid (show (w4.setRow gv v.cells.toArray).heap[gk]? = some (.cells A 62) by rw [setRow_other _ _ _ _ (by omega)]; exact HK6.out)
        replace hSw : HS g v rest te (w4.setRow gv v.cells.toArray) := SBlk.row hSw (by omega)
        replace HB := Lib.hid (below_setRow HB.out hgv v.cells.toArray)
        refine ⟨hSw, hK _ _ ?_⟩
        clear hK K
        refine lexS_stir (fun y => y = w4.setRow gv v.cells.toArray) (fun y hy => hy ▸ hSw) rfl ?_
        refine stir_nil (fun y hy => ?_)
        subst hy
        go_wp2_with fail
        go_meet
        exact ⟨gk, gv, rfl, rfl, by unfold KBk; rw [← HA.out]; exact HK7.out, HV7.out, HB.out, by omega, hgk, hgv⟩
      · intro K hK
        simp only [lexOp, List.getElem?_toArray, List.getElem?_cons_succ, List.getElem?_cons_zero]
        rw [if_pos (by rfl)]
        go_step
        have hba : Below w1.heap.size w1 (w1.alloc (.cells #[.int .u32 0, .int .u32 0, .int .u32 0, .int .u32 0, .int .u32 0, .int .u32 0, .int .u32 0, .int .u32 0] 45)) := (Below.refl _ _).alloc (Nat.le_refl _) _
        have HZV := Lib.hid (show ZB (w1.alloc (.cells #[.int .u32 0, .int .u32 0, .int .u32 0, .int .u32 0, .int .u32 0, .int .u32 0, .int .u32 0, .int .u32 0] 45)) w1.heap.size 8 45 from ⟨_, rfl, heap_alloc_last w1 _⟩)
        replace hSw : HS g v rest te (w1.alloc (.cells #[.int .u32 0, .int .u32 0, .int .u32 0, .int .u32 0, .int .u32 0, .int .u32 0, .int .u32 0, .int .u32 0] 45)) := SBlk.below hSw hba
        have hgv := HB.out.size
        replace HB := Lib.hid (HB.out.trans (hba.mono HB.out.size))
        clear hba
        refine ⟨hSw, hK _ _ ?_⟩
        clear hK K
        generalize hnw : w1.alloc (.cells #[.int .u32 0, .int .u32 0, .int .u32 0, .int .u32 0, .int .u32 0, .int .u32 0, .int .u32 0, .int .u32 0] 45) = w2 at *
        clear hnw
        generalize hgg : w1.heap.size = gv at *
        clear hgg
        have hltgv : gv < w2.heap.size := HZV.out.lt
        refine lexS_step (fun K hK => ?_)
        simp only [lexOp, List.getElem?_toArray, List.getElem?_cons_succ, List.getElem?_cons_zero]
        rw [if_pos (by rfl)]
        go_step
        have hba : Below w2.heap.size w2 (w2.alloc (.cells #[.int .u32 0, .int .u32 0, .int .u32 0, .int .u32 0, .int .u32 0, .int .u32 0, .int .u32 0, .int .u32 0, .int .u32 0, .int .u32 0, .int .u32 0, .int .u32 0, .int .u32 0, .int .u32 0, .int .u32 0, .int .u32 0, .int .u32 0, .int .u32 0, .int .u32 0, .int .u32 0, .int .u32 0, .int .u32 0, .int .u32 0, .int .u32 0, .int .u32 0, .int .u32 0, .int .u32 0, .int .u32 0, .int .u32 0, .int .u32 0, .int .u32 0, .int .u32 0, .int .u32 0, .int .u32 0, .int .u32 0, .int .u32 0, .int .u32 0, .int .u32 0, .int .u32 0, .int .u32 0, .int .u32 0, .int .u32 0, .int .u32 0, .int .u32 0, .int .u32 0, .int .u32 0, .int .u32 0, .int .u32 0, .int .u32 0, .int .u32 0, .int .u32 0, .int .u32 0, .int .u32 0, .int .u32 0, .int .u32 0, .int .u32 0, .int .u32 0, .int .u32 0, .int .u32 0, .int .u32 0, .int .u32 0, .int .u32 0, .int .u32 0, .int .u32 0] 62)) := (Below.refl _ _).alloc (Nat.le_refl _) _
        have HZK := Lib.hid (show ZB (w2.alloc (.cells #[.int .u32 0, .int .u32 0, .int .u32 0, .int .u32 0, .int .u32 0, .int .u32 0, .int .u32 0, .int .u32 0, .int .u32 0, .int .u32 0, .int .u32 0, .int .u32 0, .int .u32 0, .int .u32 0, .int .u32 0, .int .u32 0, .int .u32 0, .int .u32 0, .int .u32 0, .int .u32 0, .int .u32 0, .int .u32 0, .int .u32 0, .int .u32 0, .int .u32 0, .int .u32 0, .int .u32 0, .int .u32 0, .int .u32 0, .int .u32 0, .int .u32 0, .int .u32 0, .int .u32 0, .int .u32 0, .int .u32 0, .int .u32 0, .int .u32 0, .int .u32 0, .int .u32 0, .int .u32 0, .int .u32 0, .int .u32 0, .int .u32 0, .int .u32 0, .int .u32 0, .int .u32 0, .int .u32 0, .int .u32 0, .int .u32 0, .int .u32 0, .int .u32 0, .int .u32 0, .int .u32 0, .int .u32 0, .int .u32 0, .int .u32 0, .int .u32 0, .int .u32 0, .int .u32 0, .int .u32 0, .int .u32 0, .int .u32 0, .int .u32 0, .int .u32 0] 62)) w2.heap.size 64 62 from ⟨_, rfl, heap_alloc_last w2 _⟩)
        replace hSw : HS g v rest te (w2.alloc (.cells #[.int .u32 0, .int .u32 0, .int .u32 0, .int .u32 0, .int .u32 0, .int .u32 0, .int .u32 0, .int .u32 0, .int .u32 0, .int .u32 0, .int .u32 0, .int .u32 0, .int .u32 0, .int .u32 0, .int .u32 0, .int .u32 0, .int .u32 0, .int .u32 0, .int .u32 0, .int .u32 0, .int .u32 0, .int .u32 0, .int .u32 0, .int .u32 0, .int .u32 0, .int .u32 0, .int .u32 0, .int .u32 0, .int .u32 0, .int .u32 0, .int .u32 0, .int .u32 0, .int .u32 0, .int .u32 0, .int .u32 0, .int .u32 0, .int .u32 0, .int .u32 0, .int .u32 0, .int .u32 0, .int .u32 0, .int .u32 0, .int .u32 0, .int .u32 0, .int .u32 0, .int .u32 0, .int .u32 0, .int .u32 0, .int .u32 0, .int .u32 0, .int .u32 0, .int .u32 0, .int .u32 0, .int .u32 0, .int .u32 0, .int .u32 0, .int .u32 0, .int .u32 0, .int .u32 0, .int .u32 0, .int .u32 0, .int .u32 0, .int .u32 0, .int .u32 0] 62)) := SBlk.below hSw hba
        replace HZV := Lib.hid (HZV.out.below hba)
        have hgk := HB.out.size
        replace HB := Lib.hid (HB.out.trans (hba.mono HB.out.size))
        clear hba
        refine ⟨hSw, hK _ _ ?_⟩
        clear hK K
        generalize hnw : w2.alloc (.cells #[.int .u32 0, .int .u32 0, .int .u32 0, .int .u32 0, .int .u32 0, .int .u32 0, .int .u32 0, .int .u32 0, .int .u32 0, .int .u32 0, .int .u32 0, .int .u32 0, .int .u32 0, .int .u32 0, .int .u32 0, .int .u32 0, .int .u32 0, .int .u32 0, .int .u32 0, .int .u32 0, .int .u32 0, .int .u32 0, .int .u32 0, .int .u32 0, .int .u32 0, .int .u32 0, .int .u32 0, .int .u32 0, .int .u32 0, .int .u32 0, .int .u32 0, .int .u32 0, .int .u32 0, .int .u32 0, .int .u32 0, .int .u32 0, .int .u32 0, .int .u32 0, .int .u32 0, .int .u32 0, .int .u32 0, .int .u32 0, .int .u32 0, .int .u32 0, .int .u32 0, .int .u32 0, .int .u32 0, .int .u32 0, .int .u32 0, .int .u32 0, .int .u32 0, .int .u32 0, .int .u32 0, .int .u32 0, .int .u32 0, .int .u32 0, .int .u32 0, .int .u32 0, .int .u32 0, .int .u32 0, .int .u32 0, .int .u32 0, .int .u32 0, .int .u32 0] 62) = w3 at *
        clear hnw
        generalize hgg : w2.heap.size = gk at *
        have hne : gv ≠ gk := by have := hltgv; omega
        clear hgg
        have hltgk : gk < w3.heap.size := HZK.out.lt
        refine lexS_step (fun K hK => ?_)
        simp only [lexOp, List.getElem?_toArray, List.getElem?_cons_succ, List.getElem?_cons_zero]
        rw [if_pos (by rfl)]
        change Oper.wp _ _ _ _ _ _
        obtain ⟨old, ho1, ho2⟩ := HZK.out
        refine wp_store_row _ _ _ rfl gk A rfl rfl _ old ho2 (by rw [HSZ.out]; exact info64) (by rw [ho1, HSZ.out]) HON.out ?_
        have HK6 := Lib.hid (setRow_heap w3 gk old A _ _ ho2)
        have HV6 := Lib.hid (HZV.out.row (A := A) (g2 := gk) (by omega))
        replace hSw : HS g v rest te (w3.setRow gk A) := SBlk.row hSw (by omega)
        replace HB := Lib.hid (below_setRow HB.out hgk A)
        refine ⟨hSw, hK _ _ ?_⟩
        clear hK K ho1 ho2 HZK HZV
        generalize w3.setRow gk A = w4 at *
        refine lexS_step (fun K hK => ?_)
        simp only [lexOp, List.getElem?_toArray, List.getElem?_cons_succ, List.getElem?_cons_zero]
        rw [if_pos (by rfl)]
        change Oper.wp _ _ _ _ _ _
        obtain ⟨old2, ho1, ho2⟩ := HV6.out
        refine wp_store_row _ _ _ rfl gv _ rfl rfl _ old2 ho2 (by exact info8) (by rw [ho1]; rfl) (by simp [Value.oneCell']) ?_
        have HV7 := Lib.hid (setRow_heap w4 gv old2 v.cells.toArray _ _ ho2)
        have HK7 := Lib.hid (show (w4.setRow gv v.cells.toArray).heap[gk]? = some (.cells A 62) by rw [setRow_other _ _ _ _ (by omega)]; exact HK6.out)
        replace hSw : HS g v rest te (w4.setRow gv v.cells.toArray) := SBlk.row hSw (by omega)
        replace HB := Lib.hid (below_setRow HB.out hgv v.cells.toArray)
        refine ⟨hSw, hK _ _ ?_⟩
        clear hK K
        refine lexS_stir (fun y => y = w4.setRow gv v.cells.toArray) (fun y hy => hy ▸ hSw) rfl ?_
        refine stir_nil (fun y hy => ?_)
        subst hy
        go_wp2_with fail
        go_meet
        exact ⟨gk, gv, rfl, rfl, by unfold KBk; rw [← HA.out]; exact HK7.out, HV7.out, HB.out, by omega, hgk, hgv⟩
    · intro K hK
      simp only [lexOp, List.getElem?_toArray, List.getElem?_cons_succ, List.getElem?_cons_zero]
      rw [if_pos (by rfl)]
      go_step
      have hba : Below w0.heap.size w0 (w0.alloc (.cells #[.int .u32 0, .int .u32 0, .int .u32 0, .int .u32 0, .int .u32 0, .int .u32 0, .int .u32 0, .int .u32 0, .int .u32 0, .int .u32 0, .int .u32 0, .int .u32 0, .int .u32 0, .int .u32 0, .int .u32 0, .int .u32 0, .int .u32 0, .int .u32 0, .int .u32 0, .int .u32 0, .int .u32 0, .int .u32 0, .int .u32 0, .int .u32 0, .int .u32 0, .int .u32 0, .int .u32 0, .int .u32 0, .int .u32 0, .int .u32 0, .int .u32 0, .int .u32 0, .int .u32 0, .int .u32 0, .int .u32 0, .int .u32 0, .int .u32 0, .int .u32 0, .int .u32 0, .int .u32 0, .int .u32 0, .int .u32 0, .int .u32 0, .int .u32 0, .int .u32 0, .int .u32 0, .int .u32 0, .int .u32 0, .int .u32 0, .int .u32 0, .int .u32 0, .int .u32 0, .int .u32 0, .int .u32 0, .int .u32 0, .int .u32 0, .int .u32 0, .int .u32 0, .int .u32 0, .int .u32 0, .int .u32 0, .int .u32 0, .int .u32 0, .int .u32 0] 62)) := (Below.refl _ _).alloc (Nat.le_refl _) _
      have HZK := Lib.hid (show ZB (w0.alloc (.cells #[.int .u32 0, .int .u32 0, .int .u32 0, .int .u32 0, .int .u32 0, .int .u32 0, .int .u32 0, .int .u32 0, .int .u32 0, .int .u32 0, .int .u32 0, .int .u32 0, .int .u32 0, .int .u32 0, .int .u32 0, .int .u32 0, .int .u32 0, .int .u32 0, .int .u32 0, .int .u32 0, .int .u32 0, .int .u32 0, .int .u32 0, .int .u32 0, .int .u32 0, .int .u32 0, .int .u32 0, .int .u32 0, .int .u32 0, .int .u32 0, .int .u32 0, .int .u32 0, .int .u32 0, .int .u32 0, .int .u32 0, .int .u32 0, .int .u32 0, .int .u32 0, .int .u32 0, .int .u32 0, .int .u32 0, .int .u32 0, .int .u32 0, .int .u32 0, .int .u32 0, .int .u32 0, .int .u32 0, .int .u32 0, .int .u32 0, .int .u32 0, .int .u32 0, .int .u32 0, .int .u32 0, .int .u32 0, .int .u32 0, .int .u32 0, .int .u32 0, .int .u32 0, .int .u32 0, .int .u32 0, .int .u32 0, .int .u32 0, .int .u32 0, .int .u32 0] 62)) w0.heap.size 64 62 from ⟨_, rfl, heap_alloc_last w0 _⟩)
      replace hSw : HS g v rest te (w0.alloc (.cells #[.int .u32 0, .int .u32 0, .int .u32 0, .int .u32 0, .int .u32 0, .int .u32 0, .int .u32 0, .int .u32 0, .int .u32 0, .int .u32 0, .int .u32 0, .int .u32 0, .int .u32 0, .int .u32 0, .int .u32 0, .int .u32 0, .int .u32 0, .int .u32 0, .int .u32 0, .int .u32 0, .int .u32 0, .int .u32 0, .int .u32 0, .int .u32 0, .int .u32 0, .int .u32 0, .int .u32 0, .int .u32 0, .int .u32 0, .int .u32 0, .int .u32 0, .int .u32 0, .int .u32 0, .int .u32 0, .int .u32 0, .int .u32 0, .int .u32 0, .int .u32 0, .int .u32 0, .int .u32 0, .int .u32 0, .int .u32 0, .int .u32 0, .int .u32 0, .int .u32 0, .int .u32 0, .int .u32 0, .int .u32 0, .int .u32 0, .int .u32 0, .int .u32 0, .int .u32 0, .int .u32 0, .int .u32 0, .int .u32 0, .int .u32 0, .int .u32 0, .int .u32 0, .int .u32 0, .int .u32 0, .int .u32 0, .int .u32 0, .int .u32 0, .int .u32 0] 62)) := SBlk.below hSw hba
      have hgk := HB.out.size
      replace HB := Lib.hid (HB.out.trans (hba.mono HB.out.size))
      clear hba
      refine ⟨hSw, hK _ _ ?_⟩
      clear hK K
      generalize hnw : w0.alloc (.cells #[.int .u32 0, .int .u32 0, .int .u32 0, .int .u32 0, .int .u32 0, .int .u32 0, .int .u32 0, .int .u32 0, .int .u32 0, .int .u32 0, .int .u32 0, .int .u32 0, .int .u32 0, .int .u32 0, .int .u32 0, .int .u32 0, .int .u32 0, .int .u32 0, .int .u32 0, .int .u32 0, .int .u32 0, .int .u32 0, .int .u32 0, .int .u32 0, .int .u32 0, .int .u32 0, .int .u32 0, .int .u32 0, .int .u32 0, .int .u32 0, .int .u32 0, .int .u32 0, .int .u32 0, .int .u32 0, .int .u32 0, .int .u32 0, .int .u32 0, .int .u32 0, .int .u32 0, .int .u32 0, .int .u32 0, .int .u32 0, .int .u32 0, .int .u32 0, .int .u32 0, .int .u32 0, .int .u32 0, .int .u32 0, .int .u32 0, .int .u32 0, .int .u32 0, .int .u32 0, .int .u32 0, .int .u32 0, .int .u32 0, .int .u32 0, .int .u32 0, .int .u32 0, .int .u32 0, .int .u32 0, .int .u32 0, .int .u32 0, .int .u32 0, .int .u32 0] 62) = w1 at *
      clear hnw
      generalize hgg : w0.heap.size = gk at *
      clear hgg
      have hltgk : gk < w1.heap.size := HZK.out.lt
      refine lexS_fork ?_ ?_
      · intro K hK
        simp only [lexOp, List.getElem?_toArray, List.getElem?_cons_succ, List.getElem?_cons_zero]
        rw [if_pos (by rfl)]
        go_step
        refine (HK.out _).mono ?_
        rintro e w2 ⟨rfl, hbc⟩
        rw [← HA.out]
        replace hSw : HS g v rest te w2 := SBlk.below hSw hbc
        replace HB := Lib.hid (HB.out.trans (hbc.mono HB.out.size))
        replace HZK := Lib.hid (HZK.out.below hbc)
        replace hltgk := Nat.lt_of_lt_of_le hltgk hbc.size
        clear hbc
        refine ⟨hSw, ?_⟩
        go_simp
        refine hK _ _ ?_
        clear hK K
        refine lexS_step (fun K hK => ?_)
        simp only [lexOp, List.getElem?_toArray, List.getElem?_cons_succ, List.getElem?_cons_zero]
        rw [if_pos (by rfl)]
        go_step
        have hba : Below w2.heap.size w2 (w2.alloc (.cells #[.int .u32 0, .int .u32 0, .int .u32 0, .int .u32 0, .int .u32 0, .int .u32 0, .int .u32 0, .int .u32 0] 45)) := (Below.refl _ _).alloc (Nat.le_refl _) _
        have HZV := Lib.hid (show ZB (w2.alloc (.cells #[.int .u32 0, .int .u32 0, .int .u32 0, .int .u32 0, .int .u32 0, .int .u32 0, .int .u32 0, .int .u32 0] 45)) w2.heap.size 8 45 from ⟨_, rfl, heap_alloc_last w2 _⟩)
        replace hSw : HS g v rest te (w2.alloc (.cells #[.int .u32 0, .int .u32 0, .int .u32 0, .int .u32 0, .int .u32 0, .int .u32 0, .int .u32 0, .int .u32 0] 45)) := SBlk.below hSw hba
        replace HZK := Lib.hid (HZK.out.below hba)
        have hgv := HB.out.size
        replace HB := Lib.hid (HB.out.trans (hba.mono HB.out.size))
        clear hba
        refine ⟨hSw, hK _ _ ?_⟩
        clear hK K
        generalize hnw : w2.alloc (.cells #[.int .u32 0, .int .u32 0, .int .u32 0, .int .u32 0, .int .u32 0, .int .u32 0, .int .u32 0, .int .u32 0] 45) = w3 at *
        clear hnw
        generalize hgg : w2.heap.size = gv at *
        have hne : gk ≠ gv := by have := hltgk; omega
        clear hgg
        have hltgv : gv < w3.heap.size := HZV.out.lt
        refine lexS_step (fun K hK => ?_)
        simp only [lexOp, List.getElem?_toArray, List.getElem?_cons_succ, List.getElem?_cons_zero]
        rw [if_pos (by rfl)]
        change Oper.wp _ _ _ _ _ _
        obtain ⟨old, ho1, ho2⟩ := HZK.out
        refine wp_store_row _ _ _ rfl gk A rfl rfl _ old ho2 (by rw [HSZ.out]; exact info64) (by rw [ho1, HSZ.out]) HON.out ?_
        have HK6 := Lib.hid (setRow_heap w3 gk old A _ _ ho2)
        have HV6 := Lib.hid (HZV.out.row (A := A) (g2 := gk) (by omega))
        replace hSw : HS g v rest te (w3.setRow gk A) := SBlk.row hSw (by omega)
        replace HB := Lib.hid (below_setRow HB.out hgk A)
        refine ⟨hSw, hK _ _ ?_⟩
        clear hK K ho1 ho2 HZK HZV
        generalize w3.setRow gk A = w4 at *
        refine lexS_step (fun K hK => ?_)
        simp only [lexOp, List.getElem?_toArray, List.getElem?_cons_succ, List.getElem?_cons_zero]
        rw [if_pos (by rfl)]
        change Oper.wp _ _ _ _ _ _
        obtain ⟨old2, ho1, ho2⟩ := HV6.out
        refine wp_store_row _ _ _ rfl gv _ rfl rfl _ old2 ho2 (by exact info8) (by rw [ho1]; rfl) (by simp [Value.oneCell']) ?_
        have HV7 := Lib.hid (setRow_heap w4 gv old2 v.cells.toArray _ _ ho2)
        have HK7 := Lib.hid (show (w4.setRow gv v.cells.toArray).heap[gk]? = some (.cells A 62) by rw [setRow_other _ _ _ _ (by omega)]; exact HK6.out)
        replace hSw : HS g v rest te (w4.setRow gv v.cells.toArray) := SBlk.row hSw (by omega)
        replace HB := Lib.hid (below_setRow HB.out hgv v.cells.toArray)
        refine ⟨hSw, hK _ _ ?_⟩
        clear hK K
        refine lexS_stir (fun y => y = w4.setRow gv v.cells.toArray) (fun y hy => hy ▸ hSw) rfl ?_
        refine stir_nil (fun y hy => ?_)
        subst hy
        go_wp2_with fail
        go_meet
        exact ⟨gk, gv, rfl, rfl, by unfold KBk; rw [← HA.out]; exact HK7.out, HV7.out, HB.out, by omega, hgk, hgv⟩
      · intro K hK
        simp only [lexOp, List.getElem?_toArray, List.getElem?_cons_succ, List.getElem?_cons_zero]
        rw [if_pos (by rfl)]
        go_step
        have hba : Below w1.heap.size w1 (w1.alloc (.cells #[.int .u32 0, .int .u32 0, .int .u32 0, .int .u32 0, .int .u32 0, .int .u32 0, .int .u32 0, .int .u32 0] 45)) := (Below.refl _ _).alloc (Nat.le_refl _) _
        have HZV := Lib.hid (show ZB (w1.alloc (.cells #[.int .u32 0, .int .u32 0, .int .u32 0, .int .u32 0, .int .u32 0, .int .u32 0, .int .u32 0, .int .u32 0] 45)) w1.heap.size 8 45 from ⟨_, rfl, heap_alloc_last w1 _⟩)
        replace hSw : HS g v rest te (w1.alloc (.cells #[.int .u32 0, .int .u32 0, .int .u32 0, .int .u32 0, .int .u32 0, .int .u32 0, .int .u32 0, .int .u32 0] 45)) := SBlk.below hSw hba
        replace HZK := Lib.hid (HZK.out.below hba)
        have hgv := HB.out.size
        replace HB := Lib.hid (HB.out.trans (hba.mono HB.out.size))
        clear hba
        refine ⟨hSw, hK _ _ ?_⟩
        clear hK K
        generalize hnw : w1.alloc (.cells #[.int .u32 0, .int .u32 0, .int .u32 0, .int .u32 0, .int .u32 0, .int .u32 0, .int .u32 0, .int .u32 0] 45) = w2 at *
        clear hnw
        generalize hgg : w1.heap.size = gv at *
        have hne : gk ≠ gv := by have := hltgk; omega
        clear hgg
        have hltgv : gv < w2.heap.size := HZV.out.lt
        refine lexS_step (fun K hK => ?_)
        simp only [lexOp, List.getElem?_toArray, List.getElem?_cons_succ, List.getElem?_cons_zero]
        rw [if_pos (by rfl)]
        go_step
        refine (HK.out _).mono ?_
        rintro e w3 ⟨rfl, hbc⟩
        rw [← HA.out]
        replace hSw : HS g v rest te w3 := SBlk.below hSw hbc
        replace HB := Lib.hid (HB.out.trans (hbc.mono HB.out.size))
        replace HZK := Lib.hid (HZK.out.below hbc)
        replace HZV := Lib.hid (HZV.out.below hbc)
        clear hbc
        refine ⟨hSw, ?_⟩
        go_simp
        refine hK _ _ ?_
        clear hK K
        refine lexS_step (fun K hK => ?_)
        simp only [lexOp, List.getElem?_toArray, List.getElem?_cons_succ, List.getElem?_cons_zero]
        rw [if_pos (by rfl)]
        change Oper.wp _ _ _ _ _ _
        obtain ⟨old, ho1, ho2⟩ := HZK.out
        refine wp_store_row _ _ _ rfl gk A rfl rfl _ old ho2 (by rw [HSZ.out]; exact info64) (by rw [ho1, HSZ.out]) HON.out ?_
        have HK6 := Lib.hid (setRow_heap w3 gk old A _ _ ho2)
        have HV6 := Lib.hid (HZV.out.row (A := A) (g2 := gk) (by omega))
        replace hSw : HS g v rest te (w3.setRow gk A) := SBlk.row hSw (by omega)
        replace HB := Lib.hid (below_setRow HB.out hgk A)
        refine ⟨hSw, hK _ _ ?_⟩
        clear hK K ho1 ho2 HZK HZV
        generalize w3.setRow gk A = w4 at *
        refine lexS_step (fun K hK => ?_)
        simp only [lexOp, List.getElem?_toArray, List.getElem?_cons_succ, List.getElem?_cons_zero]
        rw [if_pos (by rfl)]
        change Oper.wp _ _ _ _ _ _
        obtain ⟨old2, ho1, ho2⟩ := HV6.out
        refine wp_store_row _ _ _ rfl gv _ rfl rfl _ old2 ho2 (by exact info8) (by rw [ho1]; rfl) (by simp [Value.oneCell']) ?_
        have HV7 := Lib.hid (setRow_heap w4 gv old2 v.cells.toArray _ _ ho2)
        have HK7 := Lib.hid (show (w4.setRow gv v.cells.toArray).heap[gk]? = some (.cells A 62) by rw [setRow_other _ _ _ _ (by omega)]; exact HK6.out)
        replace hSw : HS g v rest te (w4.setRow gv v.cells.toArray) := SBlk.row hSw (by omega)
        replace HB := Lib.hid (below_setRow HB.out hgv v.cells.toArray)
        refine ⟨hSw, hK _ _ ?_⟩
        clear hK K
        refine lexS_stir (fun y => y = w4.setRow gv v.cells.toArray) (fun y hy => hy ▸ hSw) rfl ?_
        refine stir_nil (fun y hy => ?_)
        subst hy
        go_wp2_with fail
        go_meet
        exact ⟨gk, gv, rfl, rfl, by unfold KBk; rw [← HA.out]; exact HK7.out, HV7.out, HB.out, by omega, hgk, hgv⟩
    · intro K hK
      simp only [lexOp, List.getElem?_toArray, List.getElem?_cons_succ, List.getElem?_cons_zero]
      rw [if_pos (by rfl)]
      go_step
      have hba : Below w0.heap.size w0 (w0.alloc (.cells #[.int .u32 0, .int .u32 0, .int .u32 0, .int .u32 0, .int .u32 0, .int .u32 0, .int .u32 0, .int .u32 0] 45)) := (Below.refl _ _).alloc (Nat.le_refl _) _
      have HZV := Lib.hid (show ZB (w0.alloc (.cells #[.int .u32 0, .int .u32 0, .int .u32 0, .int .u32 0, .int .u32 0, .int .u32 0, .int .u32 0, .int .u32 0] 45)) w0.heap.size 8 45 from ⟨_, rfl, heap_alloc_last w0 _⟩)
      replace hSw : HS g v rest te (w0.alloc (.cells #[.int .u32 0, .int .u32 0, .int .u32 0, .int .u32 0, .int .u32 0, .int .u32 0, .int .u32 0, .int .u32 0] 45)) := SBlk.below hSw hba
      have hgv := HB.out.size
      replace HB := Lib.hid (HB.out.trans (hba.mono HB.out.size))
      clear hba
      refine ⟨hSw, hK _ _ ?_⟩
      clear hK K
      generalize hnw : w0.alloc (.cells #[.int .u32 0, .int .u32 0, .int .u32 0, .int .u32 0, .int .u32 0, .int .u32 0, .int .u32 0, .int .u32 0] 45) = w1 at *
      clear hnw
      generalize hgg : w0.heap.size = gv at *
      clear hgg
      have hltgv : gv < w1.heap.size := HZV.out.lt
      refine lexS_fork ?_ ?_
      · intro K hK
        simp only [lexOp, List.getElem?_toArray, List.getElem?_cons_succ, List.getElem?_cons_zero]
        rw [if_pos (by rfl)]
        go_step
        refine (HK.out _).mono ?_
        rintro e w2 ⟨rfl, hbc⟩
        rw [← HA.out]
        replace hSw : HS g v rest te w2 := SBlk.below hSw hbc
        replace HB := Lib.hid (HB.out.trans (hbc.mono HB.out.size))
        replace HZV := Lib.hid (HZV.out.below hbc)
        replace hltgv := Nat.lt_of_lt_of_le hltgv hbc.size
        clear hbc
        refine ⟨hSw, ?_⟩
        go_simp
        refine hK _ _ ?_
        clear hK K
        refine lexS_step (fun K hK => ?_)
        simp only [lexOp, List.getElem?_toArray, List.getElem?_cons_succ, List.getElem?_cons_zero]
        rw [if_pos (by rfl)]
        go_step
        have hba : Below w2.heap.size w2 (w2.alloc (.cells #[.int .u32 0, .int .u32 0, .int .u32 0, .int .u32 0, .int .u32 0, .int .u32 0, .int .u32 0, .int .u32 0, .int .u32 0, .int .u32 0, .int .u32 0, .int .u32 0, .int .u32 0, .int .u32 0, .int .u32 0, .int .u32 0, .int .u32 0, .int .u32 0, .int .u32 0, .int .u32 0, .int .u32 0, .int .u32 0, .int .u32 0, .int .u32 0, .int .u32 0, .int .u32 0, .int .u32 0, .int .u32 0, .int .u32 0, .int .u32 0, .int .u32 0, .int .u32 0, .int .u32 0, .int .u32 0, .int .u32 0, .int .u32 0, .int .u32 0, .int .u32 0, .int .u32 0, .int .u32 0, .int .u32 0, .int .u32 0, .int .u32 0, .int .u32 0, .int .u32 0, .int .u32 0, .int .u32 0, .int .u32 0, .int .u32 0, .int .u32 0, .int .u32 0, .int .u32 0, .int .u32 0, .int .u32 0, .int .u32 0, .int .u32 0, .int .u32 0, .int .u32 0, .int .u32 0, .int .u32 0, .int .u32 0, .int .u32 0, .int .u32 0, .int .u32 0] 62)) := (Below.refl _ _).alloc (Nat.le_refl _) _
        have HZK := Lib.hid (show ZB (w2.alloc (.cells #[.int .u32 0, .int .u32 0, .int .u32 0, .int .u32 0, .int .u32 0, .int .u32 0, .int .u32 0, .int .u32 0, .int .u32 0, .int .u32 0, .int .u32 0, .int .u32 0, .int .u32 0, .int .u32 0, .int .u32 0, .int .u32 0, .int .u32 0, .int .u32 0, .int .u32 0, .int .u32 0, .int .u32 0, .int .u32 0, .int .u32 0, .int .u32 0, .int .u32 0, .int .u32 0, .int .u32 0, .int .u32 0, .int .u32 0, .int .u32 0, .int .u32 0, .int .u32 0, .int .u32 0, .int .u32 0, .int .u32 0, .int .u32 0, .int .u32 0, .int .u32 0, .int .u32 0, .int .u32 0, .int .u32 0, .int .u32 0, .int .u32 0, .int .u32 0, .int .u32 0, .int .u32 0, .int .u32 0, .int .u32 0, .int .u32 0, .int .u32 0, .int .u32 0, .int .u32 0, .int .u32 0, .int .u32 0, .int .u32 0, .int .u32 0, .int .u32 0, .int .u32 0, .int .u32 0, .int .u32 0, .int .u32 0, .int .u32 0, .int .u32 0, .int .u32 0] 62)) w2.heap.size 64 62 from ⟨_, rfl, heap_alloc_last w2 _⟩)
        replace hSw : HS g v rest te (w2.alloc (.cells #[.int .u32 0, .int .u32 0, .int .u32 0, .int .u32 0, .int .u32 0, .int .u32 0, .int .u32 0, .int .u32 0, .int .u32 0, .int .u32 0, .int .u32 0, .int .u32 0, .int .u32 0, .int .u32 0, .int .u32 0, .int .u32 0, .int .u32 0, .int .u32 0, .int .u32 0, .int .u32 0, .int .u32 0, .int .u32 0, .int .u32 0, .int .u32 0, .int .u32 0, .int .u32 0, .int .u32 0, .int .u32 0, .int .u32 0, .int .u32 0, .int .u32 0, .int .u32 0, .int .u32 0, .int .u32 0, .int .u32 0, .int .u32 0, .int .u32 0, .int .u32 0, .int .u32 0, .int .u32 0, .int .u32 0, .int .u32 0, .int .u32 0, .int .u32 0, .int .u32 0, .int .u32 0, .int .u32 0, .int .u32 0, .int .u32 0, .int .u32 0, .int .u32 0, .int .u32 0, .int .u32 0, .int .u32 0, .int .u32 0, .int .u32 0, .int .u32 0, .int .u32 0, .int .u32 0, .int .u32 0, .int .u32 0, .int .u32 0, .int .u32 0, .int .u32 0] 62)) := SBlk.below hSw hba
        replace HZV := Lib.hid (HZV.out.below hba)
        have hgk := HB.out.size
        replace HB := Lib.hid (HB.out.trans (hba.mono HB.out.size))
        clear hba
        refine ⟨hSw, hK _ _ ?_⟩
        clear hK K
        generalize hnw : w2.alloc (.cells #[.int .u32 0, .int .u32 0, .int .u32 0, .int .u32 0, .int .u32 0, .int .u32 0, .int .u32 0, .int .u32 0, .int .u32 0, .int .u32 0, .int .u32 0, .int .u32 0, .int .u32 0, .int .u32 0, .int .u32 0, .int .u32 0, .int .u32 0, .int .u32 0, .int .u32 0, .int .u32 0, .int .u32 0, .int .u32 0, .int .u32 0, .int .u32 0, .int .u32 0, .int .u32 0, .int .u32 0, .int .u32 0, .int .u32 0, .int .u32 0, .int .u32 0, .int .u32 0, .int .u32 0, .int .u32 0, .int .u32 0, .int .u32 0, .int .u32 0, .int .u32 0, .int .u32 0, .int .u32 0, .int .u32 0, .int .u32 0, .int .u32 0, .int .u32 0, .int .u32 0, .int .u32 0, .int .u32 0, .int .u32 0, .int .u32 0, .int .u32 0, .int .u32 0, .int .u32 0, .int .u32 0, .int .u32 0, .int .u32 0, .int .u32 0, .int .u32 0, .int .u32 0, .int .u32 0, .int .u32 0, .int .u32 0, .int .u32 0, .int .u32 0, .int .u32 0] 62) = w3 at *
        clear hnw
        generalize hgg : w2.heap.size = gk at *
        have hne : gv ≠ gk := by have := hltgv; omega
        clear hgg
        have hltgk : gk < w3.heap.size := HZK.out.lt
        refine lexS_step (fun K hK => ?_)
        simp only [lexOp, List.getElem?_toArray, List.getElem?_cons_succ, List.getElem?_cons_zero]
        rw [if_pos (by rfl)]
        change Oper.wp _ _ _ _ _ _
        obtain ⟨old, ho1, ho2⟩ := HZK.out
        refine wp_store_row _ _ _ rfl gk A rfl rfl _ old ho2 (by rw [HSZ.out]; exact info64) (by rw [ho1, HSZ.out]) HON.out ?_
        have HK6 := Lib.hid (setRow_heap w3 gk old A _ _ ho2)
        have HV6 := Lib.hid (HZV.out.row (A := A) (g2 := gk) (by omega))
        replace hSw : HS g v rest te (w3.setRow gk A) := SBlk.row hSw (by omega)
        replace HB := Lib.hid (below_setRow HB.out hgk A)
        refine ⟨hSw, hK _ _ ?_⟩
        clear hK K ho1 ho2 HZK HZV
        generalize w3.setRow gk A = w4 at *
        refine lexS_step (fun K hK => ?_)
        simp only [lexOp, List.getElem?_toArray, List.getElem?_cons_succ, List.getElem?_cons_zero]
        rw [if_pos (by rfl)]
        change Oper.wp _ _ _ _ _ _
        obtain ⟨old2, ho1, ho2⟩ := HV6.out
        refine wp_store_row _ _ _ rfl gv _ rfl rfl _ old2 ho2 (by exact info8) (by rw [ho1]; rfl) (by simp [Value.oneCell']) ?_
        have HV7 := Lib.hid (setRow_heap w4 gv old2 v.cells.toArray _ _ ho2)
        have HK7 := Lib.hid (show (w4.setRow gv v.cells.toArray).heap[gk]? = some (.cells A 62) by rw [setRow_other _ _ _ _ (by omega)]; exact HK6.out)
        replace hSw : HS g v rest te (w4.setRow gv v.cells.toArray) := SBlk.row hSw (by omega)
        replace HB := Lib.hid (below_setRow HB.out hgv v.cells.toArray)
        refine ⟨hSw, hK _ _ ?_⟩
        clear hK K
        refine lexS_stir (fun y => y = w4.setRow gv v.cells.toArray) (fun y hy => hy ▸ hSw) rfl ?_
        refine stir_nil (fun y hy => ?_)
        subst hy
        go_wp2_with fail
        go_meet
        exact ⟨gk, gv, rfl, rfl, by unfold KBk; rw [← HA.out]; exact HK7.out, HV7.out, HB.out, by omega, hgk, hgv⟩
      · intro K hK
        simp only [lexOp, List.getElem?_toArray, List.getElem?_cons_succ, List.getElem?_cons_zero]
        rw [if_pos (by rfl)]
        go_step
        have hba : Below w1.heap.size w1 (w1.alloc (.cells #[.int .u32 0, .int .u32 0, .int .u32 0, .int .u32 0, .int .u32 0, .int .u32 0, .int .u32 0, .int .u32 0, .int .u32 0, .int .u32 0, .int .u32 0, .int .u32 0, .int .u32 0, .int .u32 0, .int .u32 0, .int .u32 0, .int .u32 0, .int .u32 0, .int .u32 0, .int .u32 0, .int .u32 0, .int .u32 0, .int .u32 0, .int .u32 0, .int .u32 0, .int .u32 0, .int .u32 0, .int .u32 0, .int .u32 0, .int .u32 0, .int .u32 0, .int .u32 0, .int .u32 0, .int .u32 0, .int .u32 0, .int .u32 0, .int .u32 0, .int .u32 0, .int .u32 0, .int .u32 0, .int .u32 0, .int .u32 0, .int .u32 0, .int .u32 0, .int .u32 0, .int .u32 0, .int .u32 0, .int .u32 0, .int .u32 0, .int .u32 0, .int .u32 0, .int .u32 0, .int .u32 0, .int .u32 0, .int .u32 0, .int .u32 0, .int .u32 0, .int .u32 0, .int .u32 0, .int .u32 0, .int .u32 0, .int .u32 0, .int .u32 0, .int .u32 0] 62)) := (Below.refl _ _).alloc (Nat.le_refl _) _
        have HZK := Lib.hid (show ZB (w1.alloc (.cells #[.int .u32 0, .int .u32 0, .int .u32 0, .int .u32 0, .int .u32 0, .int .u32 0, .int .u32 0, .int .u32 0, .int .u32 0, .int .u32 0, .int .u32 0, .int .u32 0, .int .u32 0, .int .u32 0, .int .u32 0, .int .u32 0, .int .u32 0, .int .u32 0, .int .u32 0, .int .u32 0, .int .u32 0, .int .u32 0, .int .u32 0, .int .u32 0, .int .u32 0, .int .u32 0, .int .u32 0, .int .u32 0, .int .u32 0, .int .u32 0, .int .u32 0, .int .u32 0, .int .u32 0, .int .u32 0, .int .u32 0, .int .u32 0, .int .u32 0, .int .u32 0, .int .u32 0, .int .u32 0, .int .u32 0, .int .u32 0, .int .u32 0, .int .u32 0, .int .u32 0, .int .u32 0, .int .u32 0, .int .u32 0, .int .u32 0, .int .u32 0, .int .u32 0, .int .u32 0, .int .u32 0, .int .u32 0, .int .u32 0, .int .u32 0, .int .u32 0, .int .u32 0, .int .u32 0, .int .u32 0, .int .u32 0, .int .u32 0, .int .u32 0, .int .u32 0] 62)) w1.heap.size 64 62 from ⟨_, rfl, heap_alloc_last w1 _⟩)
        replace hSw : HS g v rest te (w1.alloc (.cells #[.int .u32 0, .int .u32 0, .int .u32 0, .int .u32 0, .int .u32 0, .int .u32 0, .int .u32 0, .int .u32 0, .int .u32 0, .int .u32 0, .int .u32 0, .int .u32 0, .int .u32 0, .int .u32 0, .int .u32 0, .int .u32 0, .int .u32 0, .int .u32 0, .int .u32 0, .int .u32 0, .int .u32 0, .int .u32 0, .int .u32 0, .int .u32 0, .int .u32 0, .int .u32 0, .int .u32 0, .int .u32 0, .int .u32 0, .int .u32 0, .int .u32 0, .int .u32 0, .int .u32 0, .int .u32 0, .int .u32 0, .int .u32 0, .int .u32 0, .int .u32 0, .int .u32 0, .int .u32 0, .int .u32 0, .int .u32 0, .int .u32 0, .int .u32 0, .int .u32 0, .int .u32 0, .int .u32 0, .int .u32 0, .int .u32 0, .int .u32 0, .int .u32 0, .int .u32 0, .int .u32 0, .int .u32 0, .int .u32 0, .int .u32 0, .int .u32 0, .int .u32 0, .int .u32 0, .int .u32 0, .int .u32 0, .int .u32 0, .int .u32 0, .int .u32 0] 62)) := SBlk.below hSw hba
        replace HZV := Lib.hid (HZV.out.below hba)
        have hgk := HB.out.size
        replace HB := Lib.hid (HB.out.trans (hba.mono HB.out.size))
        clear hba
        refine ⟨hSw, hK _ _ ?_⟩
        clear hK K
        generalize hnw : w1.alloc (.cells #[.int .u32 0, .int .u32 0, .int .u32 0, .int .u32 0, .int .u32 0, .int .u32 0, .int .u32 0, .int .u32 0, .int .u32 0, .int .u32 0, .int .u32 0, .int .u32 0, .int .u32 0, .int .u32 0, .int .u32 0, .int .u32 0, .int .u32 0, .int .u32 0, .int .u32 0, .int .u32 0, .int .u32 0, .int .u32 0, .int .u32 0, .int .u32 0, .int .u32 0, .int .u32 0, .int .u32 0, .int .u32 0, .int .u32 0, .int .u32 0, .int .u32 0, .int .u32 0, .int .u32 0, .int .u32 0, .int .u32 0, .int .u32 0, .int .u32 0, .int .u32 0, .int .u32 0, .int .u32 0, .int .u32 0, .int .u32 0, .int .u32 0, .int .u32 0, .int .u32 0, .int .u32 0, .int .u32 0, .int .u32 0, .int .u32 0, .int .u32 0, .int .u32 0, .int .u32 0, .int .u32 0, .int .u32 0, .int .u32 0, .int .u32 0, .int .u32 0, .int .u32 0, .int .u32 0, .int .u32 0, .int .u32 0, .int .u32 0, .int .u32 0, .int .u32 0] 62) = w2 at *
        clear hnw
        generalize hgg : w1.heap.size = gk at *
        have hne : gv ≠ gk := by have := hltgv; omega
        clear hgg
        have hltgk : gk < w2.heap.size := HZK.out.lt
        refine lexS_step (fun K hK => ?_)
        simp only [lexOp, List.getElem?_toArray, List.getElem?_cons_succ, List.getElem?_cons_zero]
        rw [if_pos (by rfl)]
        go_step
        refine (HK.out _).mono ?_
        rintro e w3 ⟨rfl, hbc⟩
        rw [← HA.out]
        replace hSw : HS g v rest te w3 := SBlk.below hSw hbc
        replace HB := Lib.hid (HB.out.trans (hbc.mono HB.out.size))
        replace HZV := Lib.hid (HZV.out.below hbc)
        replace HZK := Lib.hid (HZK.out.below hbc)
        clear hbc
        refine ⟨hSw, ?_⟩
        go_simp
        refine hK _ _ ?_
        clear hK K
        refine lexS_step (fun K hK => ?_)
        simp only [lexOp, List.getElem?_toArray, List.getElem?_cons_succ, List.getElem?_cons_zero]
        rw [if_pos (by rfl)]
        change Oper.wp _ _ _ _ _ _
        obtain ⟨old, ho1, ho2⟩ := HZK.out
        refine wp_store_row _ _ _ rfl gk A rfl rfl _ old ho2 (by rw [HSZ.out]; exact info64) (by rw [ho1, HSZ.out]) HON.out ?_
        have HK6 := Lib.hid (setRow_heap w3 gk old A _ _ ho2)
        have HV6 := Lib.hid (HZV.out.row (A := A) (g2 := gk) (by omega))
        replace hSw : HS g v rest te (w3.setRow gk A) := SBlk.row hSw (by omega)
        replace HB := Lib.hid (below_setRow HB.out hgk A)
        refine ⟨hSw, hK _ _ ?_⟩
        clear hK K ho1 ho2 HZK HZV
        generalize w3.setRow gk A = w4 at *
        refine lexS_step (fun K hK => ?_)
        simp only [lexOp, List.getElem?_toArray, List.getElem?_cons_succ, List.getElem?_cons_zero]
        rw [if_pos (by rfl)]
        change Oper.wp _ _ _ _ _ _
        obtain ⟨old2, ho1, ho2⟩ := HV6.out
        refine wp_store_row _ _ _ rfl gv _ rfl rfl _ old2 ho2 (by exact info8) (by rw [ho1]; rfl) (by simp [Value.oneCell']) ?_
        have HV7 := Lib.hid (setRow_heap w4 gv old2 v.cells.toArray _ _ ho2)
        have HK7 := Lib.hid (show (w4.setRow gv v.cells.toArray).heap[gk]? = some (.cells A 62) by rw [setRow_other _ _ _ _ (by omega)]; exact HK6.out)
        replace hSw : HS g v rest te (w4.setRow gv v.cells.toArray) := SBlk.row hSw (by omega)
        replace HB := Lib.hid (below_setRow HB.out hgv v.cells.toArray)
        refine ⟨hSw, hK _ _ ?_⟩
        clear hK K
        refine lexS_stir (fun y => y = w4.setRow gv v.cells.toArray) (fun y hy => hy ▸ hSw) rfl ?_
        refine stir_nil (fun y hy => ?_)
        subst hy
        go_wp2_with fail
        go_meet
        exact ⟨gk, gv, rfl, rfl, by unfold KBk; rw [← HA.out]; exact HK7.out, HV7.out, HB.out, by omega, hgk, hgv⟩
  -- REST
  case rest =>
    obtain ⟨gk, gv, rfl, rfl, hk, hv, hb, hne, h1, h2⟩ := hcut
    have HNE := Lib.hid (show g ≠ gk ∧ g ≠ gv ∧ gk ≠ gv ∧ w.heap.size ≤ gv from ⟨by omega, by omega, hne, h2⟩)
    have HSP := Lib.hid (spread_any wc a cap bs (HSL.out.below hb) hcap)
    have HB := Lib.hid hb
    have HKB := Lib.hid hk
    have HVB := Lib.hid hv
    clear hk hv hb hne h1 h2 HA HSZ HON hgl
    go_wp2_with fail
    refine HSP.out.mono ?_
    rintro e w1 ⟨rfl, hb1⟩
    replace HB := Lib.hid (HB.out.trans (hb1.mono HB.out.size))
    replace HKB := Lib.hid (HKB.out.below hb1)
    replace HVB := Lib.hid (HVB.out.below hb1)
    clear hb1 HSP
    obtain ⟨Wd, hWd⟩ : ∃ Wd, Wd = ((spreadW bs 64).map encW).toArray := ⟨_, rfl⟩
    have HWD := Lib.hid hWd
    rw [← hWd]
    have hwz : Wd.size = 64 := by rw [hWd]; simp [spreadW_length]
    clear hWd
    go_wp2_with fail
    go_loopg [19] 64 (fun gn i wr => ∃ t : Nat, t ≤ 64 ∧ gn = 64 - t ∧ i = .int .i64 t ∧ Hid (SBlk wr gv (roundsV bs v t) [] 45) ∧ Hid (KBk wr gk) ∧ Hid (SBlk wr g v rest te) ∧ Hid (Below w.heap.size w wr))
    case atStart => exact ⟨0, by omega, by omega, by go_num, HVB, HKB, Lib.hid (HG.out.below HB.out), HB⟩
    case round =>
      clear HVB HKB HB
      obtain ⟨t, ht, rfl, rfl, HV, HKB, HGt, HB⟩ := hrel
      by_cases hlt : t < 64
      · have HKE := Lib.hid (HKB.out.at t hlt)
        obtain ⟨u, hu⟩ : ∃ u, u = roundsV bs v t := ⟨_, rfl⟩
        rw [← hu] at HV
        have HU := Lib.hid hu
        clear hu
        have t1 : (t : Int) < 64 := by omega
        obtain ⟨x, hx⟩ : ∃ x, x = (spreadW bs 64).getD t 0 := ⟨_, rfl⟩
        have hix : (Instr.index 62 (.agg Wd) (.int .i64 t)).run Try.prog wr = .ok (.int .u32 (E x)) wr := by
          rw [HWD.out, hx]
          exact idx_words wr _ (spreadW_length bs 64) t hlt
        obtain ⟨kx, hkx⟩ : ∃ kx, kx = keysL.getD t 0 := ⟨_, rfl⟩
        rw [← hkx] at HKE
        have HX := Lib.hid hx
        have HKX := Lib.hid hkx
        clear hx hkx
        obtain ⟨c0, c1, c2, c3, c4, c5, c6, c7⟩ := HV.out.box.1
        go_upto_region 4 with fail
        go_quiet (fail)
        replace HV := Lib.hid (show SBlk (wr.drewN nq) gv u [] 45 from HV.out)
        replace HKB := Lib.hid (show KBk (wr.drewN nq) gk from HKB.out)
        replace HGt := Lib.hid (show SBlk (wr.drewN nq) g v rest te from HGt.out)
        replace HB := Lib.hid (bdrewN HB.out nq)
        clear c0 c1 c2 c3 c4 c5 c6 c7 hix HKE
        generalize wr.drewN nq = W1 at *
        go_upto_region 5 with fail
        have HKE := HKB.out.at t hlt
        rw [← HKX.out] at HKE
        have l5 := fun z (h : EqW W1.drew z) => (show z.cell? ⟨gv, 5, none⟩ = some (.int .u32 (E u.f)) by rw [show z = W1.drew from h]; exact HV.out.box.1.2.2.2.2.2.1)
        have l6 := fun z (h : EqW W1.drew z) => (show z.cell? ⟨gv, 6, none⟩ = some (.int .u32 (E u.g)) by rw [show z = W1.drew from h]; exact HV.out.box.1.2.2.2.2.2.2.1)
        have l7 := fun z (h : EqW W1.drew z) => (show z.cell? ⟨gv, 7, none⟩ = some (.int .u32 (E u.h)) by rw [show z = W1.drew from h]; exact HV.out.box.1.2.2.2.2.2.2.2)
        have lk := fun z (h : EqW W1.drew z) => (show z.cell? ⟨gk, t, none⟩ = some (.int .u32 (E kx)) by rw [show z = W1.drew from h]; exact HKE)
        have r1 : bits .xor .u32 (E (rotR u.e 6)) (E (rotR u.e 11)) = E (rotR u.e 6 ^^^ rotR u.e 11) := w_xor _ _
        have r2 : bits .xor .u32 (E (rotR u.e 6 ^^^ rotR u.e 11)) (E (rotR u.e 25)) = E (big1 u.e) := w_xor _ _
        have r3 : bits .xor .u32 (E u.f) (E u.g) = E (u.f ^^^ u.g) := w_xor _ _
        have r4 : bits .and .u32 (E u.e) (E (u.f ^^^ u.g)) = E (u.e &&& (u.f ^^^ u.g)) := w_and _ _
        have r5 : bits .xor .u32 (E u.g) (E (u.e &&& (u.f ^^^ u.g))) = E (u.g ^^^ (u.e &&& (u.f ^^^ u.g))) := w_xor _ _
        have hSw : EqW W1.drew W1.drew := rfl
        refine wp_region_lexS (EqW W1.drew) (.stir [(0, true), (1, true), (2, true), (3, false), (4, true), (5, false), (6, true), (7, true), (8, false), (9, true), (10, true), (11, true), (12, true), (13, true), (14, true), (15, true), (16, true), (17, true), (18, true), (19, true), (20, true), (21, true), (22, true), (23, true), (24, true), (25, true), (26, true), (27, true), (28, true)]) (by kernel_rfl) (by kernel_rfl) (fun c a d v w h => by cases d <;> exact h) ?_
        refine lexS_stir (EqW W1.drew) (fun y hy => hy) rfl ?_
        iterate 3
          refine stir_step (fun K hK => ?_)
          simp only [stirOp, List.getElem?_toArray, List.getElem?_cons_succ, List.getElem?_cons_zero]
          rw [if_pos (by rfl)]
          apply Exists.intro
          refine ⟨fun w' hS' => ?_, ?_⟩
          · first | (go_simp <;> with_reducible rfl) | (go_simp; go_bits; with_reducible rfl)
          go_simp
          try go_bits
          refine hK _ ?_
          clear hK K
        refine stir_step (fun K hK => ?_)
        simp only [stirOp, List.getElem?_toArray, List.getElem?_cons_succ, List.getElem?_cons_zero]
        rw [if_pos (by rfl)]
        apply Exists.intro
        refine ⟨fun w' hS' => ?_, ?_⟩
        · go_simp
          exact Stirs.call (Calls.mono (turn_any w' u.e 6 (by decide)) fun e w'' h => ⟨h.1, (fun hb'' => (by rw [hb'']; exact hS')) h.2⟩)
        go_simp
        refine hK _ ?_
        clear hK K
        iterate 1
          refine stir_step (fun K hK => ?_)
          simp only [stirOp, List.getElem?_toArray, List.getElem?_cons_succ, List.getElem?_cons_zero]
          rw [if_pos (by rfl)]
          apply Exists.intro
          refine ⟨fun w' hS' => ?_, ?_⟩
          · first | (go_simp <;> with_reducible rfl) | (go_simp; go_bits; with_reducible rfl)
          go_simp
          try go_bits
          refine hK _ ?_
          clear hK K
        refine stir_step (fun K hK => ?_)
        simp only [stirOp, List.getElem?_toArray, List.getElem?_cons_succ, List.getElem?_cons_zero]
        rw [if_pos (by rfl)]
        apply Exists.intro
        refine ⟨fun w' hS' => ?_, ?_⟩
        · go_simp
          exact Stirs.call (Calls.mono (turn_any w' u.e 11 (by decide)) fun e w'' h => ⟨h.1, (fun hb'' => (by rw [hb'']; exact hS')) h.2⟩)
        go_simp
        refine hK _ ?_
        clear hK K
        iterate 2
          refine stir_step (fun K hK => ?_)
          simp only [stirOp, List.getElem?_toArray, List.getElem?_cons_succ, List.getElem?_cons_zero]
          rw [if_pos (by rfl)]
          apply Exists.intro
          refine ⟨fun w' hS' => ?_, ?_⟩
          · first | (go_simp <;> with_reducible rfl) | (go_simp; go_bits; with_reducible rfl)
          go_simp
          try go_bits
          refine hK _ ?_
          clear hK K
        refine stir_step (fun K hK => ?_)
        simp only [stirOp, List.getElem?_toArray, List.getElem?_cons_succ, List.getElem?_cons_zero]
        rw [if_pos (by rfl)]
        apply Exists.intro
        refine ⟨fun w' hS' => ?_, ?_⟩
        · go_simp
          exact Stirs.call (Calls.mono (turn_any w' u.e 25 (by decide)) fun e w'' h => ⟨h.1, (fun hb'' => (by rw [hb'']; exact hS')) h.2⟩)
        go_simp
        refine hK _ ?_
        clear hK K
        iterate 20
          refine stir_step (fun K hK => ?_)
          simp only [stirOp, List.getElem?_toArray, List.getElem?_cons_succ, List.getElem?_cons_zero]
          rw [if_pos (by rfl)]
          apply Exists.intro
          refine ⟨fun w' hS' => ?_, ?_⟩
          · first | (go_simp <;> with_reducible rfl) | (go_simp; go_bits; with_reducible rfl)
          go_simp
          try go_bits
          refine hK _ ?_
          clear hK K
        refine stir_nil (fun y hy => ?_)
        obtain rfl : y = W1.drew := hy
        have r6 : (E u.h + E (big1 u.e) + E (u.g ^^^ (u.e &&& (u.f ^^^ u.g))) + E kx + E x) % 4294967296 = E (u.t1 kx x) := by
          unfold V8.t1 E
          simp only [BitVec.toNat_add]
          omega
        rw [r6]
        clear r1 r2 r3 r4 r5 r6 l5 l6 l7 lk HKE hSw
        replace HV := Lib.hid (show SBlk W1.drew gv u [] 45 from HV.out)
        replace HKB := Lib.hid (show KBk W1.drew gk from HKB.out)
        replace HGt := Lib.hid (show SBlk W1.drew g v rest te from HGt.out)
        replace HB := Lib.hid (HB.out.drew)
        generalize W1.drew = W2 at *
        go_upto_region 6 with fail
        have l1 := fun z (h : EqW W2.drew z) => (show z.cell? ⟨gv, 1, none⟩ = some (.int .u32 (E u.b)) by rw [show z = W2.drew from h]; exact HV.out.box.1.2.1)
        have l2 := fun z (h : EqW W2.drew z) => (show z.cell? ⟨gv, 2, none⟩ = some (.int .u32 (E u.c)) by rw [show z = W2.drew from h]; exact HV.out.box.1.2.2.1)
        have r1 : bits .xor .u32 (E (rotR u.a 2)) (E (rotR u.a 13)) = E (rotR u.a 2 ^^^ rotR u.a 13) := w_xor _ _
        have r2 : bits .xor .u32 (E (rotR u.a 2 ^^^ rotR u.a 13)) (E (rotR u.a 22)) = E (big0 u.a) := w_xor _ _
        have r3 : bits .and .u32 (E u.a) (E u.b) = E (u.a &&& u.b) := w_and _ _
        have r4 : bits .or .u32 (E u.a) (E u.b) = E (u.a ||| u.b) := w_or _ _
        have r5 : bits .and .u32 (E u.c) (E (u.a ||| u.b)) = E (u.c &&& (u.a ||| u.b)) := w_and _ _
        have r6 : bits .or .u32 (E (u.a &&& u.b)) (E (u.c &&& (u.a ||| u.b))) = E ((u.a &&& u.b) ||| (u.c &&& (u.a ||| u.b))) := w_or _ _
        have hSw : EqW W2.drew W2.drew := rfl
        refine wp_region_lexS (EqW W2.drew) (.stir [(0, true), (1, false), (2, true), (3, false), (4, true), (5, true), (6, false), (7, true), (8, true), (9, true), (10, true), (11, true), (12, true), (13, true), (14, true), (15, true), (16, true), (17, true), (18, true), (19, true), (20, true), (21, true)]) (by kernel_rfl) (by kernel_rfl) (fun c a d v w h => by cases d <;> exact h) ?_
        refine lexS_stir (EqW W2.drew) (fun y hy => hy) rfl ?_
        iterate 1
          refine stir_step (fun K hK => ?_)
          simp only [stirOp, List.getElem?_toArray, List.getElem?_cons_succ, List.getElem?_cons_zero]
          rw [if_pos (by rfl)]
          apply Exists.intro
          refine ⟨fun w' hS' => ?_, ?_⟩
          · first | (go_simp <;> with_reducible rfl) | (go_simp; go_bits; with_reducible rfl)
          go_simp
          try go_bits
          refine hK _ ?_
          clear hK K
        refine stir_step (fun K hK => ?_)
        simp only [stirOp, List.getElem?_toArray, List.getElem?_cons_succ, List.getElem?_cons_zero]
        rw [if_pos (by rfl)]
        apply Exists.intro
        refine ⟨fun w' hS' => ?_, ?_⟩
        · go_simp
          exact Stirs.call (Calls.mono (turn_any w' u.a 2 (by decide)) fun e w'' h => ⟨h.1, (fun hb'' => (by rw [hb'']; exact hS')) h.2⟩)
        go_simp
        refine hK _ ?_
        clear hK K
        iterate 1
          refine stir_step (fun K hK => ?_)
          simp only [stirOp, List.getElem?_toArray, List.getElem?_cons_succ, List.getElem?_cons_zero]
          rw [if_pos (by rfl)]
          apply Exists.intro
          refine ⟨fun w' hS' => ?_, ?_⟩
          · first | (go_simp <;> with_reducible rfl) | (go_simp; go_bits; with_reducible rfl)
          go_simp
          try go_bits
          refine hK _ ?_
          clear hK K
        refine stir_step (fun K hK => ?_)
        simp only [stirOp, List.getElem?_toArray, List.getElem?_cons_succ, List.getElem?_cons_zero]
        rw [if_pos (by rfl)]
        apply Exists.intro
        refine ⟨fun w' hS' => ?_, ?_⟩
        · go_simp
          exact Stirs.call (Calls.mono (turn_any w' u.a 13 (by decide)) fun e w'' h => ⟨h.1, (fun hb'' => (by rw [hb'']; exact hS')) h.2⟩)
        go_simp
        refine hK _ ?_
        clear hK K
        iterate 2
          refine stir_step (fun K hK => ?_)
          simp only [stirOp, List.getElem?_toArray, List.getElem?_cons_succ, List.getElem?_cons_zero]
          rw [if_pos (by rfl)]
          apply Exists.intro
          refine ⟨fun w' hS' => ?_, ?_⟩
          · first | (go_simp <;> with_reducible rfl) | (go_simp; go_bits; with_reducible rfl)
          go_simp
          try go_bits
          refine hK _ ?_
          clear hK K
        refine stir_step (fun K hK => ?_)
        simp only [stirOp, List.getElem?_toArray, List.getElem?_cons_succ, List.getElem?_cons_zero]
        rw [if_pos (by rfl)]
        apply Exists.intro
        refine ⟨fun w' hS' => ?_, ?_⟩
        · go_simp
          exact Stirs.call (Calls.mono (turn_any w' u.a 22 (by decide)) fun e w'' h => ⟨h.1, (fun hb'' => (by rw [hb'']; exact hS')) h.2⟩)
        go_simp
        refine hK _ ?_
        clear hK K
        iterate 15
          refine stir_step (fun K hK => ?_)
          simp only [stirOp, List.getElem?_toArray, List.getElem?_cons_succ, List.getElem?_cons_zero]
          rw [if_pos (by rfl)]
          apply Exists.intro
          refine ⟨fun w' hS' => ?_, ?_⟩
          · first | (go_simp <;> with_reducible rfl) | (go_simp; go_bits; with_reducible rfl)
          go_simp
          try go_bits
          refine hK _ ?_
          clear hK K
        refine stir_nil (fun y hy => ?_)
        obtain rfl : y = W2.drew := hy
        have r7 : (E (big0 u.a) + E ((u.a &&& u.b) ||| (u.c &&& (u.a ||| u.b)))) % 4294967296 = E u.t2 := by
          unfold V8.t2 E
          simp only [BitVec.toNat_add]
          omega
        rw [r7]
        clear r1 r2 r3 r4 r5 r6 r7 l1 l2 hSw
        replace HV := Lib.hid (show SBlk W2.drew gv u [] 45 from HV.out)
        replace HKB := Lib.hid (show KBk W2.drew gk from HKB.out)
        replace HGt := Lib.hid (show SBlk W2.drew g v rest te from HGt.out)
        replace HB := Lib.hid (HB.out.drew)
        generalize W2.drew = W3 at *
        go_upto_region 7 with fail
        have hSw : AnyW W3.drew := trivial
        have hv3 : SBlk W3.drew gv u [] 45 := HV.out
        refine wp_region_lexS AnyW (.of [(0, true), (1, true), (2, false)] (.stir [])) (by kernel_rfl) (by kernel_rfl) (fun c a d v w h => by cases d <;> exact h) ?_
        iterate 2
          refine lexS_step (fun K hK => ?_)
          simp only [lexOp, List.getElem?_toArray, List.getElem?_cons_succ, List.getElem?_cons_zero]
          rw [if_pos (by rfl)]
          apply Exists.intro
          refine ⟨fun w' hS' => ?_, hSw, ?_⟩
          · first | (go_simp <;> with_reducible rfl) | (go_simp; go_bits; with_reducible rfl)
          go_simp
          try go_bits
          refine hK _ _ ?_
          clear hK K
        refine lexS_step (fun K hK => ?_)
        simp only [lexOp, List.getElem?_toArray, List.getElem?_cons_succ, List.getElem?_cons_zero]
        rw [if_pos (by rfl)]
        change Oper.wp _ _ _ _ _ _
        have hv3' : W3.drew.heap[gv]? = some (.cells (u.cells ++ ([] : List Value)).toArray 45) := hv3
        refine wp_copy_own (.tmp 76) (.tmp 77) 41 41 rfl 40 Try.underlying41 (by kernel_rfl) gv 1 7 7 ⟨gv, 0, none⟩ 7 8 rfl rfl _ _ hv3' (u.cells.take 7) rfl hv3.src (by simp [V8.cells]) (by simp [V8.cells, encW, Value.oneCell']) ?_
        refine ⟨trivial, hK _ _ ?_⟩
        clear hK K
        have HNE' := HNE.out
        replace HV := Lib.hid (hv3.shifted (A := ((u.cells ++ []).toArray.toList.take 1 ++ (u.cells.take 7 ++ (u.cells ++ []).toArray.toList.drop (1 + (u.cells.take 7).length))).toArray) (by simp [V8.cells, V8.shift]))
        replace HKB := Lib.hid (show KBk (W3.drew.setRow gv ((u.cells ++ []).toArray.toList.take 1 ++ (u.cells.take 7 ++ (u.cells ++ []).toArray.toList.drop (1 + (u.cells.take 7).length))).toArray) gk from KBk.row HKB.out HNE'.2.2.1)
        replace HGt := Lib.hid (show SBlk (W3.drew.setRow gv ((u.cells ++ []).toArray.toList.take 1 ++ (u.cells.take 7 ++ (u.cells ++ []).toArray.toList.drop (1 + (u.cells.take 7).length))).toArray) g v rest te from SBlk.row HGt.out HNE'.2.1)
        replace HB := Lib.hid (below_setRow (HB.out.drew) HNE'.2.2.2 ((u.cells ++ []).toArray.toList.take 1 ++ (u.cells.take 7 ++ (u.cells ++ []).toArray.toList.drop (1 + (u.cells.take 7).length))).toArray)
        clear hv3 hv3' hSw HNE'
        generalize W3.drew.setRow gv ((u.cells ++ []).toArray.toList.take 1 ++ (u.cells.take 7 ++ (u.cells ++ []).toArray.toList.drop (1 + (u.cells.take 7).length))).toArray = W4 at *
        refine lexS_stir (fun y => y = W4) (fun y hy => trivial) rfl ?_
        refine stir_nil (fun y hy => ?_)
        obtain rfl : W4 = y := hy.symm
        have HNE' := HNE.out
        have c4 := HV.out.at 4 (by omega)
        have f0 := HV.out.box.2.1 0
        have f4 := HV.out.box.2.1 4
        have c0 := HV.out.at 0 (by omega)
        simp only [V8.get, V8.shift] at c4 c0
        go_wp2_with fail
        have s1 : (E (u.t1 kx x) + E u.t2) % 4294967296 = E (u.t1 kx x + u.t2) := by
          unfold E
          rw [BitVec.toNat_add]
          omega
        have s2 : (E u.d + E (u.t1 kx x)) % 4294967296 = E (u.d + u.t1 kx x) := by
          unfold E
          rw [BitVec.toNat_add]
          omega
        rw [s1, s2]
        have v1 : SBlk ((W4.setCell ⟨gv, 0, none⟩ (.int .u32 (E (u.t1 kx x + u.t2)))).setCell ⟨gv, 4, none⟩ (.int .u32 (E (u.d + u.t1 kx x)))) gv (u.round kx x) [] 45 := (HV.out.put 0 (by omega) _).put 4 (by omega) _
        have v2 := (HKB.out.other (x := .int .u32 (E (u.t1 kx x + u.t2))) (o := 0) HNE'.2.2.1).other (x := .int .u32 (E (u.d + u.t1 kx x))) (o := 4) HNE'.2.2.1
        have v3 := (HGt.out.other (x := .int .u32 (E (u.t1 kx x + u.t2))) (o := 0) HNE'.2.1).other (x := .int .u32 (E (u.d + u.t1 kx x))) (o := 4) HNE'.2.1
        have v4 := (HB.out.setCell (p := ⟨gv, 0, none⟩) HNE'.2.2.2 (.int .u32 (E (u.t1 kx x + u.t2)))).setCell (p := ⟨gv, 4, none⟩) HNE'.2.2.2 (.int .u32 (E (u.d + u.t1 kx x)))
        clear s1 s2 c0 c4 f0 f4
        generalize (W4.setCell ⟨gv, 0, none⟩ (.int .u32 (E (u.t1 kx x + u.t2)))).setCell ⟨gv, 4, none⟩ (.int .u32 (E (u.d + u.t1 kx x))) = W5 at *
        rw [HX.out, HKX.out, HU.out] at v1
        clear HV HKB HGt HB HU HX HKX HNE'
        go_roundg (64 - (t + 1))
        case measure => omega
        case rel => exact ⟨t + 1, by omega, rfl, by go_num, Lib.hid v1, Lib.hid v2, Lib.hid v3, Lib.hid v4⟩
      · obtain rfl : t = 64 := by omega
        obtain ⟨V, hV⟩ : ∃ V, V = roundsV bs v 64 := ⟨_, rfl⟩
        rw [← hV] at HV
        have HVV := Lib.hid hV
        clear hV
        go_wp2_with fail
        go_loopg [89] 8 (fun gn i wq => ∃ k u, k ≤ 8 ∧ gn = 8 - k ∧ i = .int .i64 k ∧ Hid (SBlk wq g u rest te) ∧ Hid (∀ j, j < 8 → u.get j = if j < k then v.get j + V.get j else v.get j) ∧ Hid (SBlk wq gv V [] 45) ∧ Hid (w.grownBy wq (some g)))
        case atStart => exact ⟨0, v, by omega, by omega, by go_num, HGt, Lib.hid (fun j _ => by rw [if_neg (by omega)]), HV, Lib.hid (grown_below HB.out)⟩
        case round =>
          clear HV HKB HGt HB
          obtain ⟨k, u, hk, rfl, rfl, HU, HM, HV, HGr⟩ := hrel
          by_cases hlt : k < 8
          · have k1 : (k : Int) < 8 := by omega
            have c1 := HU.out.at k hlt
            have c2 := HV.out.at k hlt
            have f1 := HU.out.box.2.1 k
            have HM0 := Lib.hid (show u.get k = v.get k by rw [HM.out k hlt, if_neg (by omega)])
            have HGV := Lib.hid HNE.out.2.1
            have hgv : Hid (g ≠ gv) := HGV
            obtain ⟨x, hx⟩ : ∃ x, x = u.get k := ⟨_, rfl⟩
            obtain ⟨y, hy⟩ : ∃ y, y = V.get k := ⟨_, rfl⟩
            rw [← hx] at c1 HM0
            rw [← hy] at c2
            have HX := Lib.hid hx
            have HY := Lib.hid hy
            clear hx hy
            have r1 := w_add2 x y
            go_upto_region 13 with fail
            go_still_tail 11, (by kernel_rfl)
            go_wp2_with fail
            have v1 : SBlk (wr.setCell ⟨g, k, none⟩ (.int .u32 (E (x + y)))).drew g (u.put k (x + y)) rest te := HU.out.put k hlt (x + y)
            have v2 : SBlk (wr.setCell ⟨g, k, none⟩ (.int .u32 (E (x + y)))).drew gv V [] 45 := HV.out.other (x := .int .u32 (E (x + y))) (o := k) (Ne.symm hgv.out)
            have v3 := grown_drew (grown_set (o := k) (v := .int .u32 (E (x + y))) HGr.out)
            clear c1 c2 f1 r1 HU HV HGr
            go_roundg (8 - (k + 1))
            case measure => omega
            case rel =>
              refine ⟨k + 1, u.put k (x + y), by omega, rfl, by go_num, Lib.hid v1, Lib.hid ?_, Lib.hid v2, Lib.hid v3⟩
              intro j hj
              rw [V8.get_put _ _ _ hlt _ hj]
              split
              · rename_i h
                subst h
                rw [if_pos (by omega), HM0.out, HY.out]
              · rename_i h
                rw [HM.out j hj]
                by_cases hj2 : j < k
                · rw [if_pos hj2, if_pos (by omega)]
                · rw [if_neg hj2, if_neg (by omega)]
          · obtain rfl : k = 8 := by omega
            go_wp2_with fail
            have hu : u = addV v bs := V8.ext8 (fun j hj => by rw [HM.out j hj, if_pos hj, addV, V8.get_plus, ← HVV.out])
            rw [hu] at HU
            go_end0
            exact ⟨rfl, HU.out, HGr.out⟩
end Go.Proofs.Ytkcpblfdmfkppaa
