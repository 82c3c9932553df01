/- klass: the reader's slots, whole (printed by gen/klrd5.py). No condition. -/
import Derived.Test.YtnfhiakdbakpgaaQ14KlassCuts
namespace Go.Proofs.Ytnfhiakdbakpgaa
open Go.ChangeShapes Go.WideShapes Go.ChangeAt Go.RowKit
/-- One cell that a region reads. -/
def OneC (b o : Nat) (v : Value) (w : World) : Prop := w.cell? ⟨b, o, none⟩ = some v
theorem enter_slots (args : Array Value) (W : World) : (callFunc 86 args).run Try.prog W = .ok (.enter 86 args) W := rfl
/-- What a reading of slots leaves. -/
def SlotsRet (g : Nat) (a : Option Addr) (n cap : Nat) (bs : List UInt8) (R : List KS × St) (w : World) (e : Ending) (w' : World) : Prop :=
  ∃ v m, e = .returned v ∧ m = R.1.length ∧ w'.ownsRow w.heap.size 119 2 v m (R.1.flatMap KS.cells) ∧ RdS w' g a n cap bs R.2 ∧ Keep1 g w w'
set_option maxRecDepth 100000 in
set_option maxHeartbeats 8000000 in
theorem rslots_any (w : World) (g : Nat) (a : Option Addr) (n cap : Nat) (bs : List UInt8) (s : St) (h : RdS w g a n cap bs s) (most : Int) :
    Calls Try.prog 72 #[.pointer (some ⟨g, 0, none⟩), .int .i64 most] w (SlotsRet g a n cap bs (slotsS bs most s) w) := by
  have HS0 := Lib.hid h.sl
  have HGL := Lib.hid h.lt
  obtain ⟨R, hR⟩ : ∃ R, R = slotsS bs most s := ⟨_, rfl⟩
  rw [← hR]
  have hv := getS_two bs 2 (by omega) s
  have HQ := Lib.hid (show R = timesS most (slotS bs) (getS bs 2 s).1 (getS bs 2 s).2 from hR)
  have h1 : Below w.heap.size w (w.alloc (.cells #[.pointer (some ⟨g, 0, none⟩)] 75)) := below_1 _ _
  have h2 : Below w.heap.size w ((w.alloc (.cells #[.pointer (some ⟨g, 0, none⟩)] 75)).alloc (.cells #[.slice none 0 0] 49)) := h1.alloc h1.size _
  have HG2 := Lib.hid (row_below (heap_alloc_last w (.cells #[.pointer (some ⟨g, 0, none⟩)] 75)) (below_1 (w.alloc (.cells #[.pointer (some ⟨g, 0, none⟩)] 75)) (.cells #[.slice none 0 0] 49)))
  have z1 : (w.alloc (.cells #[.pointer (some ⟨g, 0, none⟩)] 75)).heap.size = w.heap.size + 1 := by simp
  have HOB2 := Lib.hid (heap_alloc_last (w.alloc (.cells #[.pointer (some ⟨g, 0, none⟩)] 75)) (.cells #[.slice none 0 0] 49))
  rw [z1] at HOB2
  have HR2 := Lib.hid (h.below h2)
  have HK2 := Lib.hid (Keep1.of (g := g) h2)
  have hrg : w.heap.size ≠ g := by have := h.lt; omega
  have hog : w.heap.size + 1 ≠ g := by have := h.lt; omega
  clear h1 h2 h hR z1
  go_enter Try.func72, Try.ntmps72
  go_upto_region 2 with fail
  generalize ((w.alloc (.cells #[.pointer (some ⟨g, 0, none⟩)] 75)).alloc (.cells #[.slice none 0 0] 49)) = W2 at *
  obtain ⟨gr, hgre⟩ : ∃ b, b = w.heap.size := ⟨_, rfl⟩
  obtain ⟨go, hgoe⟩ : ∃ b, b = w.heap.size + 1 := ⟨_, rfl⟩
  rw [← hgre] at HG2 hrg
  rw [← hgoe] at HOB2 hog
  have hgr : w.heap.size ≤ gr := by omega
  have hgo : w.heap.size ≤ go := by omega
  have hne : gr ≠ go := by omega
  have HE1 := Lib.hid hgre
  have HE2 := Lib.hid hgoe
  rw [← hgoe, ← hgre]
  clear hgre hgoe
  have HR3 := Lib.hid (HR2.out.below (Below.refl W2.heap.size W2).drew)
  have HG3 := Lib.hid (row_below HG2.out (Below.refl W2.heap.size W2).drew)
  have HOB3 := Lib.hid (row_below HOB2.out (Below.refl W2.heap.size W2).drew)
  have HK3 := Lib.hid HK2.out.drew
  have HU := Lib.hid (ku2_any W2.drew g a n cap bs s HR3.out)
  generalize (getS bs 2 s).1 = v at *
  generalize (getS bs 2 s).2 = s1 at *
  obtain ⟨k, rfl⟩ : ∃ k : Nat, v = (k : Int) := ⟨v.toNat, by omega⟩
  have hk : k ≤ 65535 := by omega
  have hSw : OneC gr 0 (.pointer (some ⟨g, 0, none⟩)) W2.drew := row_cell HG3.out 0 rfl
  have l0 := fun z (h : OneC gr 0 (.pointer (some ⟨g, 0, none⟩)) z) => (show z.cell? ⟨gr, 0, none⟩ = some (.pointer (some ⟨g, 0, none⟩)) from h)
  clear HR2 HG2 HOB2 HK2
  refine wp_region_lexS (OneC gr 0 (.pointer (some ⟨g, 0, none⟩))) (.of [(0, true), (1, true), (3, true)] (.fork 2 (.of [(4, false), (5, false)] (.stir [])) 4 (.of [(2, false), (5, false)] (.stir [])))) (by kernel_rfl) (by kernel_rfl) (fun c a d v w h => by cases d <;> exact h) ?_
  iterate 3
    refine lexS_step (fun K hK => ?_)
    simp only [lexOp, List.getElem?_toArray, List.getElem?_cons_succ, List.getElem?_cons_zero]
    rw [if_pos (by rfl)]
    apply Exists.intro
    refine ⟨fun w' hS' => ?_, hSw, ?_⟩
    · first | (go_simp <;> with_reducible rfl) | (go_simp; go_bits; with_reducible rfl)
    go_simp
    try go_bits
    refine hK _ _ ?_
    clear hK K
  refine lexS_fork ?_ ?_
  · intro K hK
    simp only [lexOp, List.getElem?_toArray, List.getElem?_cons_succ, List.getElem?_cons_zero]
    rw [if_pos (by rfl)]
    go_step
    refine HU.out.mono ?_
    rintro e' W4 ⟨rfl, hr4, hk4⟩
    have HR4 := Lib.hid hr4
    have HK4 := Lib.hid (HK3.out.trans hk4)
    have HG4 := Lib.hid (hk4.blk HG3.out hrg)
    have HOB4 := Lib.hid (hk4.blk HOB3.out hog)
    replace hSw : OneC gr 0 (.pointer (some ⟨g, 0, none⟩)) W4 := row_cell HG4.out 0 rfl
    clear hr4 hk4
    go_simp
    first | refine hK _ _ ?_ | refine ⟨hSw, hK _ _ ?_⟩
    clear hK K
    refine lexS_step (fun K hK => ?_)
    simp only [lexOp, List.getElem?_toArray, List.getElem?_cons_succ, List.getElem?_cons_zero]
    rw [if_pos (by rfl)]
    go_step
    first | refine hK _ _ ?_ | refine ⟨hSw, hK _ _ ?_⟩
    clear hK K
    refine lexS_step (fun K hK => ?_)
    simp only [lexOp, List.getElem?_toArray, List.getElem?_cons_succ, List.getElem?_cons_zero]
    rw [if_pos (by rfl)]
    go_step
    have HT := Lib.hid (times_any (slotS bs) (SlJ g gr go w) W4 g a n cap bs s1 HR4.out k hk most 86 enter_slots #[.pointer (some ⟨gr, 0, none⟩), .pointer (some ⟨go, 0, none⟩)]
      ⟨HG4.out, ⟨_, 0, HOB4.out, World.ownsRow_nil _ _ _ _, rfl⟩, HK4.out⟩ ⟨heap_other HG4.out hrg 2 _, ⟨_, 0, heap_other HOB4.out hog 2 _, World.ownsRow_nil _ _ _ _, rfl⟩, HK4.out.set 2 _⟩
      (fun W t l ht hr hj hl => slots1_any w W g gr go a n cap bs t l HS0.out HGL.out hgr hgo hne hr hj (by omega)))
    refine HT.out.mono ?_
    rintro e' W5 ⟨rfl, hr5, ⟨hg5, ⟨v5, m5, ho5, how5, hm5⟩, hk5⟩⟩
    rw [← HQ.out] at hr5 how5 hm5
    have HR5 := Lib.hid hr5
    have HOB5 := Lib.hid ho5
    have HO5 := Lib.hid how5
    have HK5 := Lib.hid hk5
    have HM5 := Lib.hid hm5
    have HG5 := Lib.hid hg5
    replace hSw : OneC gr 0 (.pointer (some ⟨g, 0, none⟩)) W5 := row_cell HG5.out 0 rfl
    clear hr5 ho5 how5 hk5 hm5 hg5
    go_simp
    first | refine hK _ _ ?_ | refine ⟨hSw, hK _ _ ?_⟩
    clear hK K
    refine lexS_stir (EqW W5) (fun y hy => by rw [show y = W5 from hy]; exact hSw) rfl ?_
    refine stir_nil (fun y hy => ?_)
    obtain rfl : y = W5 := hy
    obtain ⟨a5, c5, rfl, -, -⟩ := Ss.ofOwn KS.cells_length (by decide) HO5.out
    have q1 : y.cell? ⟨go, 0, none⟩ = some (.slice a5 m5 c5) := row_cell HOB5.out 0 rfl
    clear l0 hSw
    go_wp2_with fail
    go_ret
    exact ⟨_, m5, rfl, HM5.out, HO5.out, HR5.out, HK5.out⟩
  · intro K hK
    simp only [lexOp, List.getElem?_toArray, List.getElem?_cons_succ, List.getElem?_cons_zero]
    rw [if_pos (by rfl)]
    go_step
    first | refine hK _ _ ?_ | refine ⟨hSw, hK _ _ ?_⟩
    clear hK K
    refine lexS_step (fun K hK => ?_)
    simp only [lexOp, List.getElem?_toArray, List.getElem?_cons_succ, List.getElem?_cons_zero]
    rw [if_pos (by rfl)]
    go_step
    refine HU.out.mono ?_
    rintro e' W4 ⟨rfl, hr4, hk4⟩
    have HR4 := Lib.hid hr4
    have HK4 := Lib.hid (HK3.out.trans hk4)
    have HG4 := Lib.hid (hk4.blk HG3.out hrg)
    have HOB4 := Lib.hid (hk4.blk HOB3.out hog)
    replace hSw : OneC gr 0 (.pointer (some ⟨g, 0, none⟩)) W4 := row_cell HG4.out 0 rfl
    clear hr4 hk4
    go_simp
    first | refine hK _ _ ?_ | refine ⟨hSw, hK _ _ ?_⟩
    clear hK K
    refine lexS_step (fun K hK => ?_)
    simp only [lexOp, List.getElem?_toArray, List.getElem?_cons_succ, List.getElem?_cons_zero]
    rw [if_pos (by rfl)]
    go_step
    have HT := Lib.hid (times_any (slotS bs) (SlJ g gr go w) W4 g a n cap bs s1 HR4.out k hk most 86 enter_slots #[.pointer (some ⟨gr, 0, none⟩), .pointer (some ⟨go, 0, none⟩)]
      ⟨HG4.out, ⟨_, 0, HOB4.out, World.ownsRow_nil _ _ _ _, rfl⟩, HK4.out⟩ ⟨heap_other HG4.out hrg 2 _, ⟨_, 0, heap_other HOB4.out hog 2 _, World.ownsRow_nil _ _ _ _, rfl⟩, HK4.out.set 2 _⟩
      (fun W t l ht hr hj hl => slots1_any w W g gr go a n cap bs t l HS0.out HGL.out hgr hgo hne hr hj (by omega)))
    refine HT.out.mono ?_
    rintro e' W5 ⟨rfl, hr5, ⟨hg5, ⟨v5, m5, ho5, how5, hm5⟩, hk5⟩⟩
    rw [← HQ.out] at hr5 how5 hm5
    have HR5 := Lib.hid hr5
    have HOB5 := Lib.hid ho5
    have HO5 := Lib.hid how5
    have HK5 := Lib.hid hk5
    have HM5 := Lib.hid hm5
    have HG5 := Lib.hid hg5
    replace hSw : OneC gr 0 (.pointer (some ⟨g, 0, none⟩)) W5 := row_cell HG5.out 0 rfl
    clear hr5 ho5 how5 hk5 hm5 hg5
    go_simp
    first | refine hK _ _ ?_ | refine ⟨hSw, hK _ _ ?_⟩
    clear hK K
    refine lexS_stir (EqW W5) (fun y hy => by rw [show y = W5 from hy]; exact hSw) rfl ?_
    refine stir_nil (fun y hy => ?_)
    obtain rfl : y = W5 := hy
    obtain ⟨a5, c5, rfl, -, -⟩ := Ss.ofOwn KS.cells_length (by decide) HO5.out
    have q1 : y.cell? ⟨go, 0, none⟩ = some (.slice a5 m5 c5) := row_cell HOB5.out 0 rfl
    clear l0 hSw
    go_wp2_with fail
    go_ret
    exact ⟨_, m5, rfl, HM5.out, HO5.out, HR5.out, HK5.out⟩
end Go.Proofs.Ytnfhiakdbakpgaa
/- klass: a trap is read (printed by gen/klrd6.py). No condition. -/
namespace Go.Proofs.Ytnfhiakdbakpgaa
open Go.ChangeShapes Go.WideShapes Go.ChangeAt Go.RowKit
/-- What is there stays, but for blocks g and h. -/
structure Keep2 (g h : Nat) (w w' : World) : Prop where
  os : w'.os = w.os
  tape : w'.tape = w.tape
  output : w'.output = w.output
  size : w.heap.size ≤ w'.heap.size
  block : ∀ k, k < w.heap.size → k ≠ g → k ≠ h → w'.heap[k]? = w.heap[k]?
section
variable {g h : Nat} {w w1 w2 w' : World}
theorem Keep2.refl (g h : Nat) (w : World) : Keep2 g h w w := ⟨rfl, rfl, rfl, Nat.le_refl _, fun _ _ _ _ => rfl⟩
theorem Keep2.trans (a : Keep2 g h w w1) (b : Keep2 g h w1 w2) : Keep2 g h w w2 :=
  ⟨b.os.trans a.os, b.tape.trans a.tape, b.output.trans a.output, Nat.le_trans a.size b.size, fun i hi hg hh => by rw [b.block i (Nat.lt_of_lt_of_le hi a.size) hg hh, a.block i hi hg hh]⟩
theorem Keep1.two (a : Keep1 g w w1) (h : Nat) : Keep2 g h w w1 := ⟨a.os, a.tape, a.output, a.size, fun k hk hg _ => a.block k hk hg⟩
theorem Keep2.of (a : Below w.heap.size w w1) : Keep2 g h w w1 := (Keep1.of a).two h
theorem Keep2.drew (a : Keep2 g h w w1) : Keep2 g h w w1.drew := ⟨a.os, a.tape, a.output, a.size, a.block⟩
theorem Keep2.setC (a : Keep2 g h w w1) {c : Nat} (hc : w.heap.size ≤ c ∨ c = g ∨ c = h) (o : Nat) (v : Value) : Keep2 g h w (w1.setCell ⟨c, o, none⟩ v) :=
  ⟨a.os, a.tape, a.output, by have := a.size; unfold World.setCell; simpa using this, fun i hi hg hh => by
    rw [← a.block i hi hg hh]
    unfold World.setCell
    have hne' : ¬ c = i := by omega
    simp [Array.getElem?_modify, hne']⟩
theorem Keep2.blk (a : Keep2 g h w w') {b : Nat} {o : Obj} (hb : w.heap[b]? = some o) (h1 : b ≠ g) (h2 : b ≠ h) : w'.heap[b]? = some o := by
  rw [a.block b (Array.getElem?_eq_some_iff.1 hb).1 h1 h2]; exact hb
theorem own_keep2 {B : Nat} {e : TypeId} {size : Nat} {v : Value} {n : Nat} {xs : List Value} (ho : w.ownsRow B e size v n xs) (k : Keep2 g h w w') (hg : g < B) (hh : h < B) : w'.ownsRow B e size v n xs := by
  refine ⟨ho.1, ?_⟩
  rcases ho.2 with ⟨h1, h2⟩ | ⟨b, cap, cur, hv, hb, hc, r⟩
  · exact .inl ⟨h1, h2⟩
  · exact .inr ⟨b, cap, cur, hv, hb, by rw [k.block b (Array.getElem?_eq_some_iff.1 hc).1 (by omega) (by omega)]; exact hc, r⟩
theorem keep2_app {e : TypeId} {size : Nat} {v : Value} {n : Nat} {xs : List Value} (k : Keep2 g h w w1) (ho : w1.ownsRow w.heap.size e size v n xs) (hg : w1.grownBy w2 v.ownBlock) : Keep2 g h w w2 := by
  refine ⟨hg.os.trans k.os, hg.tape.trans k.tape, hg.output.trans k.output, Nat.le_trans k.size hg.size, fun i hi hne hnh => ?_⟩
  rw [hg.block i (Nat.lt_of_lt_of_le hi k.size) ?_, k.block i hi hne hnh]
  intro he
  rcases ho.2 with ⟨rfl, _⟩ | ⟨b, cap, cur, rfl, hb, _⟩
  · simp [Value.ownBlock] at he
  · simp [Value.ownBlock] at he
    omega
theorem keep2_appA {o : Obj} {e : TypeId} {size : Nat} {v : Value} {n : Nat} {xs : List Value} (k : Keep2 g h w w1) (ho : w1.ownsRow w.heap.size e size v n xs) (hg : (w1.alloc o).grownBy w2 v.ownBlock) : Keep2 g h w w2 :=
  keep2_app (k.trans (Keep2.of ((Below.refl _ _).alloc (Nat.le_refl _) o))) (ho.alloc o) hg
theorem Sl.keep2 {α : Type} {enc : α → Value} {x : Option Addr} {n : Nat} {xs : List α} (hs : Sl enc w x n xs) (k : Keep2 g h w w') (h1 : Off1 x n g) (h2 : Off1 x n h) : Sl enc w' x n xs := by
  refine ⟨hs.1, fun hn => ?_⟩
  obtain ⟨b, off, ha, hlt, hc⟩ := hs.2 hn
  refine ⟨b, off, ha, Nat.lt_of_lt_of_le hlt k.size, fun i hi => ?_⟩
  rw [← hc i hi]
  unfold World.cell?
  rw [k.block b hlt (h1 hn b off ha) (h2 hn b off ha)]
theorem RdS.keptT2 {e : TypeId} {w0 : World} {a : Option Addr} {n cap : Nat} {bs : List UInt8} {s : St} (r : RdS w g a n cap bs s) (hk : KeptT e w w') (hne : 77 ≠ e) (h0 : Sl encB w0 a n bs) (k : Keep2 g h w0 w') (hh : Off1 a n h) : RdS w' g a n cap bs s :=
  ⟨r.k.keptT hk hne, h0.keep2 k r.off hh, r.off, r.le, r.sm, r.ok⟩
end
/-- The cells that a callback reads: the boxes of the reader and of the method, and the method's row. -/
def TrS (g gr gmb gm k : Nat) (v : Value) (w : World) : Prop := w.cell? ⟨gmb, 0, none⟩ = some (.pointer (some ⟨gm, 0, none⟩)) ∧ w.cell? ⟨gr, 0, none⟩ = some (.pointer (some ⟨g, 0, none⟩)) ∧ w.cell? ⟨gm, k, none⟩ = some v
theorem TrS.keep1 {g gr gmb gm k : Nat} {v : Value} {w w' : World} (h : TrS g gr gmb gm k v w) (a : Keep1 g w w') (h1 : gr ≠ g) (h2 : gmb ≠ g) (h3 : gm ≠ g) : TrS g gr gmb gm k v w' := ⟨cell_keep1 a h2 h.1, cell_keep1 a h1 h.2.1, cell_keep1 a h3 h.2.2⟩
theorem TrS.below {g gr gmb gm k : Nat} {v : Value} {w w' : World} (h : TrS g gr gmb gm k v w) (a : Below w.heap.size w w') : TrS g gr gmb gm k v w' := ⟨cellS_below a h.1, cellS_below a h.2.1, cellS_below a h.2.2⟩
theorem stTrapK : StE 45 98 (.agg #[.int .i64 0, .int .i64 0, .int .i64 0, .int .i64 0]) 4 32 := ⟨by kernel_rfl, by kernel_rfl, rfl⟩
theorem wp_appSK {t e : TypeId} {z0 : Value} {z bytes : Nat} (hO : StE t e z0 z bytes) {w : World} {ops : Array Oper} {o : Oper} {a : Act} {K : Act → World → Prop} {Q : Exit → Act → World → Prop} (hgd : Region.wanted o (yielded ops a.tmps) = true) (s x : Operand) (tx : TypeId)
    (ho : o.op = .call { callee := .builtin .append, args := #[s, x], argTypes := #[t, tx] })
    (base : Nat) (v : Value) (n : Nat) (xs : List Value) (hv : a.eval s = v) (hown : w.ownsRow base e z v n xs)
    (y : Value) (m : Nat) (news : List Value) (hy : a.eval x = y) (hs : Src Try.prog z tx y m news w) (hlen : (n + m) * bytes ≤ 140737488355328) (hm : n + m ≤ maxLen) (hbase : base ≤ w.heap.size)
    (h : ∀ v' w', w'.ownsRow base e z v' (n + m) (xs ++ news) → w.grownBy w' v.ownBlock → Below base w w' → K (a.put o.dst v') w') : Oper.wp Try.prog o a w K Q := by
  obtain ⟨ht, hinf, hz⟩ := hO
  obtain ⟨i0, hi, hz0, hz1, hz2⟩ := info_parts hinf
  have h1 := step_app (E := True) (Q := Q) hgd s x t tx ho base e i0 z0 z bytes ht hi hz0 hz1 hz2 hz v n xs hv hown y m news hy hs hm hlen hbase (fun v' w' h1 h2 => h v' w' h1 h2 (below_app (Below.refl _ _) hbase hown h2))
  rwa [if_pos hgd] at h1
/-- What the traps' callback has gathered. -/
def TrJ (g gr gmb gm : Nat) (c0 c1 c2 c3 c4 c5 : Value) (w0 : World) (l : List KT) (W : World) : Prop :=
  W.heap[gr]? = some (.cells #[.pointer (some ⟨g, 0, none⟩)] 75) ∧ W.heap[gmb]? = some (.cells #[.pointer (some ⟨gm, 0, none⟩)] 85) ∧
  (∃ v m, W.heap[gm]? = some (.cells #[c0, c1, c2, c3, c4, c5, v, .slice none 0 0] 48) ∧ W.ownsRow w0.heap.size 98 4 v m (l.flatMap KT.cells) ∧ m = l.length) ∧ Keep2 g gm w0 W
set_option maxRecDepth 100000 in
set_option maxHeartbeats 8000000 in
theorem trap1_any (w0 W : World) (g gr gmb gm : Nat) (z0 z1 z2 z3 z4 z5 : Value) (a : Option Addr) (n cap : Nat) (bs : List UInt8) (t : St) (l : List KT) (hs0 : Sl encB w0 a n bs) (hom : Off1 a n gm) (hg0 : g < w0.heap.size) (hm0 : gm < w0.heap.size) (hmg : gm ≠ g) (hrg : gr ≠ g) (hbg : gmb ≠ g) (hrm : gr ≠ gm) (hbm : gmb ≠ gm)
    (h : RdS W g a n cap bs t) (hJ : TrJ g gr gmb gm z0 z1 z2 z3 z4 z5 w0 l W) (hl : l.length ≤ 65535) :
    Calls Try.prog 69 #[.pointer (some ⟨gmb, 0, none⟩), .pointer (some ⟨gr, 0, none⟩)] W fun e W' => e = .returned (.tuple #[]) ∧ RdS W' g a n cap bs (trapS bs t).2 ∧ TrJ g gr gmb gm z0 z1 z2 z3 z4 z5 w0 (l ++ [(trapS bs t).1]) W' := by
  obtain ⟨hj1, hj2, ⟨v0, m0, hj3, hj4, hmm⟩, hk0⟩ := hJ
  have HS0 := Lib.hid hs0
  have HOM := Lib.hid hom
  have hml : m0 ≤ 65535 := by omega
  have HMM := Lib.hid hmm
  obtain ⟨a0, c0, rfl, -, -⟩ := Ss.ofOwn KT.cells_length (by decide) hj4
  have HG := Lib.hid hj1
  have HB := Lib.hid hj2
  have HM := Lib.hid hj3
  have HO := Lib.hid hj4
  have HKW := Lib.hid hk0
  have hR0 : RdS W.drew g a n cap bs t := h.below (Below.refl W.heap.size W).drew
  obtain ⟨x0, s1, hx0⟩ : ∃ x s, getS bs 2 t = (x, s) := ⟨_, _, rfl⟩
  obtain ⟨x1, s2, hx1⟩ : ∃ x s, getS bs 2 s1 = (x, s) := ⟨_, _, rfl⟩
  obtain ⟨x2, s3, hx2⟩ : ∃ x s, getS bs 2 s2 = (x, s) := ⟨_, _, rfl⟩
  obtain ⟨x3, s4, hx3⟩ : ∃ x s, getS bs 2 s3 = (x, s) := ⟨_, _, rfl⟩
  have HSL := Lib.hid (show trapS bs t = (⟨x0, x1, x2, x3⟩, s4) by simp only [trapS, bindR, pureR, hx0, hx1, hx2, hx3])
  have HX1 := Lib.hid hx0
  have HX2 := Lib.hid hx1
  have HX3 := Lib.hid hx2
  have HX4 := Lib.hid hx3
  have hSw : TrS g gr gmb gm 6 (.slice a0 m0 c0) W.drew := TrS.below ⟨row_cell HB.out 0 rfl, row_cell HG.out 0 rfl, row_cell HM.out 6 rfl⟩ (Below.refl _ _).drew
  have l0 := fun z (h : TrS g gr gmb gm 6 (.slice a0 m0 c0) z) => h.1
  have l1 := fun z (h : TrS g gr gmb gm 6 (.slice a0 m0 c0) z) => h.2.1
  have l2 := fun z (h : TrS g gr gmb gm 6 (.slice a0 m0 c0) z) => h.2.2
  clear hs0 hom h hl hj1 hj2 hj3 hj4 hmm hk0 hx0 hx1 hx2 hx3
  go_enter Try.func69, Try.ntmps69
  go_upto_region 0 with fail
  refine wp_region_lexE (TrS g gr gmb gm 6 (.slice a0 m0 c0)) 18 [(0, true), (1, true), (2, true), (3, true), (4, true), (5, true), (7, true), (9, true), (11, true), (6, false), (8, false), (10, false), (12, false), (13, true), (14, false), (15, false), (16, true), (17, true)] (by kernel_rfl) (by kernel_rfl) (fun c a d v w h => by cases d <;> exact h) ?_
  have HKA := Lib.hid ((Keep1.refl g W).drew)
  generalize W.drew = W0 at *
  iterate 9
    refine lexE_step (fun K hK => ?_)
    simp only [lexOp, List.getElem?_toArray, List.getElem?_cons_succ, List.getElem?_cons_zero]
    rw [if_pos (by rfl)]
    apply Exists.intro
    refine ⟨fun w' hS' => ?_, hSw, ?_⟩
    · first | (go_simp <;> with_reducible rfl) | (go_simp; go_bits; with_reducible rfl)
    go_simp
    try go_bits
    refine hK _ _ ?_
    clear hK K
  have HR0 := Lib.hid hR0
  have HK0 := HKA
  obtain ⟨s0, hs0⟩ : ∃ s0, s0 = t := ⟨_, rfl⟩
  rw [← hs0] at HR0 HX1
  clear hR0 hs0
  refine lexE_step (fun K hK => ?_)
  simp only [lexOp, List.getElem?_toArray, List.getElem?_cons_succ, List.getElem?_cons_zero]
  rw [if_pos (by rfl)]
  go_step
  have HU := ku2_any W0 g a n cap bs s0 HR0.out
  rw [HX1.out] at HU
  dsimp only at HU
  refine HU.mono ?_
  rintro e' W1 ⟨rfl, hr, hk⟩
  clear HU
  have HR1 := Lib.hid hr
  have HK1 := Lib.hid (HK0.out.trans hk)
  replace hSw : TrS g gr gmb gm 6 (.slice a0 m0 c0) W1 := hSw.keep1 hk hrg hbg hmg
  clear hr hk HR0 HK0
  go_simp
  first | refine hK _ _ ?_ | refine ⟨hSw, hK _ _ ?_⟩
  clear hK K
  refine lexE_step (fun K hK => ?_)
  simp only [lexOp, List.getElem?_toArray, List.getElem?_cons_succ, List.getElem?_cons_zero]
  rw [if_pos (by rfl)]
  go_step
  have HU := ku2_any W1 g a n cap bs s1 HR1.out
  rw [HX2.out] at HU
  dsimp only at HU
  refine HU.mono ?_
  rintro e' W2 ⟨rfl, hr, hk⟩
  clear HU
  have HR2 := Lib.hid hr
  have HK2 := Lib.hid (HK1.out.trans hk)
  replace hSw : TrS g gr gmb gm 6 (.slice a0 m0 c0) W2 := hSw.keep1 hk hrg hbg hmg
  clear hr hk HR1 HK1
  go_simp
  first | refine hK _ _ ?_ | refine ⟨hSw, hK _ _ ?_⟩
  clear hK K
  refine lexE_step (fun K hK => ?_)
  simp only [lexOp, List.getElem?_toArray, List.getElem?_cons_succ, List.getElem?_cons_zero]
  rw [if_pos (by rfl)]
  go_step
  have HU := ku2_any W2 g a n cap bs s2 HR2.out
  rw [HX3.out] at HU
  dsimp only at HU
  refine HU.mono ?_
  rintro e' W3 ⟨rfl, hr, hk⟩
  clear HU
  have HR3 := Lib.hid hr
  have HK3 := Lib.hid (HK2.out.trans hk)
  replace hSw : TrS g gr gmb gm 6 (.slice a0 m0 c0) W3 := hSw.keep1 hk hrg hbg hmg
  clear hr hk HR2 HK2
  go_simp
  first | refine hK _ _ ?_ | refine ⟨hSw, hK _ _ ?_⟩
  clear hK K
  refine lexE_step (fun K hK => ?_)
  simp only [lexOp, List.getElem?_toArray, List.getElem?_cons_succ, List.getElem?_cons_zero]
  rw [if_pos (by rfl)]
  go_step
  have HU := ku2_any W3 g a n cap bs s3 HR3.out
  rw [HX4.out] at HU
  dsimp only at HU
  refine HU.mono ?_
  rintro e' W4 ⟨rfl, hr, hk⟩
  clear HU
  have HR4 := Lib.hid hr
  have HK4 := Lib.hid (HK3.out.trans hk)
  replace hSw : TrS g gr gmb gm 6 (.slice a0 m0 c0) W4 := hSw.keep1 hk hrg hbg hmg
  clear hr hk HR3 HK3
  go_simp
  first | refine hK _ _ ?_ | refine ⟨hSw, hK _ _ ?_⟩
  clear hK K
  iterate 1
    refine lexE_step (fun K hK => ?_)
    simp only [lexOp, List.getElem?_toArray, List.getElem?_cons_succ, List.getElem?_cons_zero]
    rw [if_pos (by rfl)]
    apply Exists.intro
    refine ⟨fun w' hS' => ?_, hSw, ?_⟩
    · first | (go_simp <;> with_reducible rfl) | (go_simp; go_bits; with_reducible rfl)
    go_simp
    try go_bits
    refine hK _ _ ?_
    clear hK K
  refine lexE_step (fun K hK => ?_)
  simp only [lexOp, List.getElem?_toArray, List.getElem?_cons_succ, List.getElem?_cons_zero]
  rw [if_pos (by rfl)]
  go_step
  have hal : Below W4.heap.size W4 (W4.alloc (.cells #[.int .i64 x0, .int .i64 x1, .int .i64 x2, .int .i64 x3] 98)) := below_1 _ _
  refine ⟨hSw.below hal, hK _ _ ?_⟩
  clear hK K hal
  have HO4 := Lib.hid (own_keep1 HO.out HK4.out hg0)
  have HKW4 := Lib.hid (HKW.out.trans (HK4.out.two gm))
  have HG5 := Lib.hid (HK4.out.blk HG.out hrg)
  have HB5 := Lib.hid (HK4.out.blk HB.out hbg)
  have HM5 := Lib.hid (HK4.out.blk HM.out hmg)
  refine lexE_step (fun K hK => ?_)
  simp only [lexOp, List.getElem?_toArray, List.getElem?_cons_succ, List.getElem?_cons_zero]
  rw [if_pos (by rfl)]
  change Oper.wp _ _ _ _ _ _
  refine wp_appSK stTrapK (ops := #[]) rfl _ _ _ rfl w0.heap.size _ m0 _ rfl (HO4.out.alloc _) _ 1 _ rfl (Src.litS (m := 1) rfl rfl stTrapK.1) (by omega) (by unfold maxLen; omega) (Nat.le_trans HKW4.out.size (by simp)) ?_
  intro v3 W6 hown3 hg3 hb3
  have hk3 := KeptT.app HO4.out hg3
  have HK6 := Lib.hid (keep2_appA HKW4.out HO4.out hg3)
  have HR6 := Lib.hid (HR4.out.keptT2 hk3 (by decide) HS0.out HK6.out HOM.out)
  have HG6 := Lib.hid (hk3.2 _ _ _ _ HG5.out (by decide))
  have HB6 := Lib.hid (hk3.2 _ _ _ _ HB5.out (by decide))
  have HM6 := Lib.hid (hk3.2 _ _ _ _ HM5.out (by decide))
  have hown4 : W6.ownsRow w0.heap.size 98 4 v3 (m0 + 1) ((l ++ [(⟨x0, x1, x2, x3⟩ : KT)]).flatMap KT.cells) := by rw [List.flatMap_append]; exact hown3
  obtain ⟨a3, c3, rfl, -, -⟩ := Ss.ofOwn KT.cells_length (by decide) hown4
  have HO6 := Lib.hid hown4
  replace hSw : TrS g gr gmb gm 6 (.slice a0 m0 c0) W6 := ⟨row_cell HB6.out 0 rfl, row_cell HG6.out 0 rfl, row_cell HM6.out 6 rfl⟩
  clear hown3 hown4 hg3 hb3 hk3 HG HB HM HO HKW HR4 HK4 HKA HO4 HKW4 HG5 HB5 HM5
  refine ⟨hSw, hK _ _ ?_⟩
  clear hK K
  iterate 2
    refine lexE_step (fun K hK => ?_)
    simp only [lexOp, List.getElem?_toArray, List.getElem?_cons_succ, List.getElem?_cons_zero]
    rw [if_pos (by rfl)]
    apply Exists.intro
    refine ⟨fun w' hS' => ?_, hSw, ?_⟩
    · first | (go_simp <;> with_reducible rfl) | (go_simp; go_bits; with_reducible rfl)
    go_simp
    try go_bits
    refine hK _ _ ?_
    clear hK K
  have fo := row_melt HM6.out 6
  have lto := row_lt HM6.out
  have co : W6.cell? ⟨gm, 6, none⟩ = some (.slice a0 m0 c0) := row_cell HM6.out 6 rfl
  refine lexE_last ?_
  simp only [lastOp, List.getElem?_toArray, List.getElem?_cons_succ, List.getElem?_cons_zero]
  rw [if_pos (by rfl)]
  go_step
  go_end0
  refine ⟨rfl, ?_, ?_⟩
  · rw [HSL.out]
    exact RdS.set HR6.out ⟨Ne.symm hmg, HOM.out⟩ 6 _
  · rw [HSL.out]
    have hko := keptT_set HM6.out 6 (.slice a3 (m0 + 1) c3)
    exact ⟨heap_other HG6.out hrm 6 _, heap_other HB6.out hbm 6 _, ⟨.slice a3 (m0 + 1) c3, m0 + 1, by simpa using heap_set3 HM6.out 6 (.slice a3 (m0 + 1) c3), own_keptT HO6.out hko (by decide), by rw [List.length_append, ← HMM.out]; rfl⟩, HK6.out.setC (.inr (.inr rfl)) 6 _⟩
end Go.Proofs.Ytnfhiakdbakpgaa
/- klass: a stack map is read. No condition. -/
namespace Go.Proofs.Ytnfhiakdbakpgaa
open Go.ChangeShapes Go.WideShapes Go.ChangeAt Go.RowKit
/-- A stack map's rows are its own. -/
structure KP.Own (p : KP) (w : World) (B : Nat) : Prop where
  loc : w.ownsRow B 119 2 (.slice p.la p.ln p.lc) p.ln (p.loc.flatMap KS.cells)
  stk : w.ownsRow B 119 2 (.slice p.sa p.sn p.sc) p.sn (p.stk.flatMap KS.cells)
theorem KP.Own.mono {p : KP} {w : World} {B B' : Nat} (h : p.Own w B) (hB : B' ≤ B) : p.Own w B' := ⟨own_mono h.loc hB, own_mono h.stk hB⟩
theorem KP.Own.keep1 {p : KP} {w w' : World} {B g : Nat} (h : p.Own w B) (k : Keep1 g w w') (hg : g < B) : p.Own w' B := ⟨own_keep1 h.loc k hg, own_keep1 h.stk k hg⟩
theorem KP.Own.keep2 {p : KP} {w w' : World} {B g m : Nat} (h : p.Own w B) (k : Keep2 g m w w') (hg : g < B) (hm : m < B) : p.Own w' B := ⟨own_keep2 h.loc k hg hm, own_keep2 h.stk k hg hm⟩
theorem KP.Own.keptT {p : KP} {w w' : World} {B : Nat} {e : TypeId} (h : p.Own w B) (k : KeptT e w w') (hne : 119 ≠ e) : p.Own w' B := ⟨own_keptT h.loc k hne, own_keptT h.stk k hne⟩
theorem KP.Own.rd {p : KP} {w : World} {B : Nat} (h : p.Own w B) : p.Rd w := by
  obtain ⟨a, c, e, hs, _⟩ := Ss.ofOwn KS.cells_length (by decide) h.loc
  obtain ⟨a', c', e', hs', _⟩ := Ss.ofOwn KS.cells_length (by decide) h.stk
  cases e
  cases e'
  exact ⟨hs, hs'⟩
theorem stMapK : StE 46 51 (.agg #[.int .i64 0, .slice none 0 0, .slice none 0 0]) 3 56 := ⟨by kernel_rfl, by kernel_rfl, rfl⟩
/-- What the maps' callback has gathered. -/
def MpJ (g gr gmb gm : Nat) (c0 c1 c2 c3 c4 c5 c6 : Value) (w0 : World) (l : List KP) (W : World) : Prop :=
  W.heap[gr]? = some (.cells #[.pointer (some ⟨g, 0, none⟩)] 75) ∧ W.heap[gmb]? = some (.cells #[.pointer (some ⟨gm, 0, none⟩)] 85) ∧
  (∃ (v : Value) (m : Nat) (lw : List KP), W.heap[gm]? = some (.cells #[c0, c1, c2, c3, c4, c5, c6, v] 48) ∧ W.ownsRow w0.heap.size 51 3 v m (lw.flatMap KP.cells) ∧ m = l.length ∧ lw.map KP.p = l ∧ ∀ p ∈ lw, p.Own W w0.heap.size) ∧ Keep2 g gm w0 W
/-- The cells that the callback's last statement reads. -/
def MpS (gmb gm bx : Nat) (v c0 c1 c2 : Value) (w : World) : Prop := w.cell? ⟨gmb, 0, none⟩ = some (.pointer (some ⟨gm, 0, none⟩)) ∧ w.cell? ⟨gm, 7, none⟩ = some v ∧ w.cell? ⟨bx, 0, none⟩ = some c0 ∧ w.cell? ⟨bx, 1, none⟩ = some c1 ∧ w.cell? ⟨bx, 2, none⟩ = some c2
theorem MpS.below {gmb gm bx : Nat} {v c0 c1 c2 : Value} {w w' : World} (h : MpS gmb gm bx v c0 c1 c2 w) (a : Below w.heap.size w w') : MpS gmb gm bx v c0 c1 c2 w' := ⟨cellS_below a h.1, cellS_below a h.2.1, cellS_below a h.2.2.1, cellS_below a h.2.2.2.1, cellS_below a h.2.2.2.2⟩
set_option maxRecDepth 100000 in
set_option maxHeartbeats 8000000 in
theorem map1_any (w0 W : World) (g gr gmb gm : Nat) (z0 z1 z2 z3 z4 z5 z6 : Value) (a : Option Addr) (n cap : Nat) (bs : List UInt8) (t : St) (l : List KP) (hs0 : Sl encB w0 a n bs) (hom : Off1 a n gm) (hg0 : g < w0.heap.size) (hm0 : gm < w0.heap.size) (hmg : gm ≠ g) (hrg : gr ≠ g) (hbg : gmb ≠ g) (hrm : gr ≠ gm) (hbm : gmb ≠ gm)
    (h : RdS W g a n cap bs t) (hJ : MpJ g gr gmb gm z0 z1 z2 z3 z4 z5 z6 w0 l W) (hl : l.length ≤ 65535) :
    Calls Try.prog 71 #[.pointer (some ⟨gr, 0, none⟩), .pointer (some ⟨gmb, 0, none⟩)] W fun e W' => e = .returned (.tuple #[]) ∧ RdS W' g a n cap bs (kmapS bs t).2 ∧ MpJ g gr gmb gm z0 z1 z2 z3 z4 z5 z6 w0 (l ++ [(kmapS bs t).1]) W' := by
  obtain ⟨hj1, hj2, ⟨v0, m0, lw, hj3, hj4, hmm, hlw, hown⟩, hk0⟩ := hJ
  have HS0 := Lib.hid hs0
  have HOM := Lib.hid hom
  have hml : m0 ≤ 65535 := by omega
  have HMM := Lib.hid hmm
  have HLW := Lib.hid hlw
  obtain ⟨a0, c0, rfl, -, -⟩ := Ss.ofOwn KP.cells_length (by decide) hj4
  have HG := Lib.hid hj1
  have HB := Lib.hid hj2
  have HM := Lib.hid hj3
  have HO := Lib.hid hj4
  have HOW := Lib.hid hown
  have HKW := Lib.hid hk0
  have HU := Lib.hid (ku2_any W g a n cap bs t h)
  have HSL := Lib.hid (show kmapS bs t = (⟨(getS bs 2 t).1, none, 0, 0, (slotsS bs 64 (getS bs 2 t).2).1, none, 0, 0, (slotsS bs 64 (slotsS bs 64 (getS bs 2 t).2).2).1⟩, (slotsS bs 64 (slotsS bs 64 (getS bs 2 t).2).2).2) from rfl)
  generalize (getS bs 2 t).1 = pl at *
  generalize (getS bs 2 t).2 = s1 at *
  have q0 : W.cell? ⟨gr, 0, none⟩ = some (.pointer (some ⟨g, 0, none⟩)) := row_cell HG.out 0 rfl
  clear hs0 hom hl hj1 hj2 hj3 hj4 hmm hlw hown hk0 h
  go_enter Try.func71, Try.ntmps71
  go_wp2_with fail
  refine HU.out.mono ?_
  rintro e' W1 ⟨rfl, hr1, hk1⟩
  have HG1 := Lib.hid (hk1.blk HG.out hrg)
  have HB1 := Lib.hid (hk1.blk HB.out hbg)
  have HM1 := Lib.hid (hk1.blk HM.out hmg)
  have HO1 := Lib.hid (own_keep1 HO.out hk1 hg0)
  have HOW1 := Lib.hid (fun p hp => (HOW.out p hp).keep1 hk1 hg0)
  have HKW1 := Lib.hid (HKW.out.trans (hk1.two gm))
  have hal : Below W1.heap.size W1 (W1.alloc (.cells #[.int .i64 pl, .slice none 0 0, .slice none 0 0] 51)) := below_1 _ _
  have HR2 := Lib.hid (hr1.below hal)
  have HX2 := Lib.hid (heap_alloc_last W1 (.cells #[.int .i64 pl, .slice none 0 0, .slice none 0 0] 51))
  have HL2 := Lib.hid (Keep1.of (g := g) hal)
  have hxg : W1.heap.size ≠ g := by have := hr1.lt; omega
  have hxo : g ≠ W1.heap.size ∧ Off1 a n W1.heap.size := ⟨Ne.symm hxg, Off1.old HS0.out HKW1.out.size⟩
  have HWB := Lib.hid (show w0.heap.size ≤ W1.heap.size from HKW1.out.size)
  clear hr1 hk1 hal HG HB HM HO HOW HKW HU q0
  go_upto_region 1 with fail
  generalize W1.alloc (.cells #[.int .i64 pl, .slice none 0 0, .slice none 0 0] 51) = W2 at *
  obtain ⟨bx, hbx⟩ : ∃ b, b = W1.heap.size := ⟨_, rfl⟩
  rw [← hbx] at HX2 hxg hxo ⊢
  have HBX := Lib.hid hbx
  clear hbx
  have HNE := Lib.hid (show some bx ≠ (Value.slice a0 m0 c0).ownBlock by rw [HBX.out]; exact own_not_new HO1.out)
  have q0 : W2.cell? ⟨gr, 0, none⟩ = some (.pointer (some ⟨g, 0, none⟩)) := row_cell (HL2.out.blk HG1.out hrg) 0 rfl
  have HU := Lib.hid (rslots_any W2 g a n cap bs s1 HR2.out 64)
  generalize slotsS bs 64 s1 = R1 at *
  obtain ⟨loc, s2⟩ := R1
  dsimp only at HSL HU
  go_wp2_with fail
  refine HU.out.mono ?_
  rintro e' W3 ⟨v3, n3, rfl, hn3, ho3, hr3, hk3⟩
  obtain ⟨la, lc, rfl, -, -⟩ := Ss.ofOwn KS.cells_length (by decide) ho3
  have HX3 := Lib.hid (hk3.blk HX2.out hxg)
  have HL3 := Lib.hid (HL2.out.trans hk3)
  have HR3 := Lib.hid hr3
  have HO3 := Lib.hid (own_mono ho3 (show W1.heap.size ≤ W2.heap.size from HL2.out.size))
  clear hn3 ho3 hr3 hk3 HX2 HL2 HR2 HU q0
  have ft := row_melt HX3.out 1
  have ltt := row_lt HX3.out
  have ct : W3.cell? ⟨bx, 1, none⟩ = some (.slice none 0 0) := row_cell HX3.out 1 rfl
  go_upto_region 2 with fail
  have HX4 := Lib.hid (show (W3.setCell ⟨bx, 1, none⟩ (.slice la n3 lc)).heap[bx]? = some (.cells #[.int .i64 pl, .slice la n3 lc, .slice none 0 0] 51) by simpa using heap_set3 HX3.out 1 (.slice la n3 lc))
  have HL4 := Lib.hid (keep1_setC HL3.out (show W1.heap.size ≤ bx by rw [HBX.out]; exact Nat.le_refl _) 1 (.slice la n3 lc))
  have HR4 := Lib.hid (RdS.set HR3.out hxo 1 (.slice la n3 lc))
  have HO4 := Lib.hid (own_keptT HO3.out (keptT_set HX3.out 1 (.slice la n3 lc)) (by decide))
  clear ft ltt ct HX3 HL3 HR3 HO3
  generalize W3.setCell ⟨bx, 1, none⟩ (.slice la n3 lc) = W4 at *
  have q0 : W4.cell? ⟨gr, 0, none⟩ = some (.pointer (some ⟨g, 0, none⟩)) := row_cell (HL4.out.blk HG1.out hrg) 0 rfl
  have HU := Lib.hid (rslots_any W4 g a n cap bs s2 HR4.out 64)
  generalize slotsS bs 64 s2 = R2 at *
  obtain ⟨stk, s3⟩ := R2
  dsimp only at HSL HU
  go_wp2_with fail
  refine HU.out.mono ?_
  rintro e' W5 ⟨v5, n5, rfl, hn5, ho5, hr5, hk5⟩
  obtain ⟨sa, sc, rfl, -, -⟩ := Ss.ofOwn KS.cells_length (by decide) ho5
  have HX5 := Lib.hid (hk5.blk HX4.out hxg)
  have HL5 := Lib.hid (HL4.out.trans hk5)
  have HR5 := Lib.hid hr5
  have hg1 : g < W1.heap.size := by have := HWB.out; omega
  have HO5 := Lib.hid (own_keep1 HO4.out hk5 hg1)
  have HP5 := Lib.hid (own_mono ho5 (show W1.heap.size ≤ W4.heap.size from HL4.out.size))
  clear hn5 ho5 hr5 hk5 HX4 HL4 HR4 HO4 HU q0
  have ft := row_melt HX5.out 2
  have ltt := row_lt HX5.out
  have ct : W5.cell? ⟨bx, 2, none⟩ = some (.slice none 0 0) := row_cell HX5.out 2 rfl
  go_upto_region 3 with fail
  have HX6 := Lib.hid (show (W5.setCell ⟨bx, 2, none⟩ (.slice sa n5 sc)).heap[bx]? = some (.cells #[.int .i64 pl, .slice la n3 lc, .slice sa n5 sc] 51) by simpa using heap_set3 HX5.out 2 (.slice sa n5 sc))
  have HL6 := Lib.hid (keep1_setC HL5.out (show W1.heap.size ≤ bx by rw [HBX.out]; exact Nat.le_refl _) 2 (.slice sa n5 sc))
  have HR6 := Lib.hid (RdS.set HR5.out hxo 2 (.slice sa n5 sc))
  have HO6 := Lib.hid (own_keptT HO5.out (keptT_set HX5.out 2 (.slice sa n5 sc)) (by decide))
  have HP6 := Lib.hid (own_keptT HP5.out (keptT_set HX5.out 2 (.slice sa n5 sc)) (by decide))
  clear ft ltt ct HX5 HL5 HR5 HO5 HP5
  generalize W5.setCell ⟨bx, 2, none⟩ (.slice sa n5 sc) = W6 at *
  have HG6 := Lib.hid (HL6.out.blk HG1.out hrg)
  have HB6 := Lib.hid (HL6.out.blk HB1.out hbg)
  have HM6 := Lib.hid (HL6.out.blk HM1.out hmg)
  have HW6 := Lib.hid (own_keep1 HO1.out HL6.out hg0)
  have HOW6 := Lib.hid (fun p hp => (HOW1.out p hp).keep1 HL6.out hg0)
  have HKW6 := Lib.hid (HKW1.out.trans (HL6.out.two gm))
  clear HG1 HB1 HM1 HO1 HOW1 HKW1 HL6
  have hSw : MpS gmb gm bx (.slice a0 m0 c0) (.int .i64 pl) (.slice la n3 lc) (.slice sa n5 sc) W6.drew := MpS.below ⟨row_cell HB6.out 0 rfl, row_cell HM6.out 7 rfl, row_cell HX6.out 0 rfl, row_cell HX6.out 1 rfl, row_cell HX6.out 2 rfl⟩ (Below.refl _ _).drew
  have l0 := fun z (h : MpS gmb gm bx (.slice a0 m0 c0) (.int .i64 pl) (.slice la n3 lc) (.slice sa n5 sc) z) => h.1
  have l1 := fun z (h : MpS gmb gm bx (.slice a0 m0 c0) (.int .i64 pl) (.slice la n3 lc) (.slice sa n5 sc) z) => h.2.1
  have l2 := fun z (h : MpS gmb gm bx (.slice a0 m0 c0) (.int .i64 pl) (.slice la n3 lc) (.slice sa n5 sc) z) => h.2.2.1
  have l3 := fun z (h : MpS gmb gm bx (.slice a0 m0 c0) (.int .i64 pl) (.slice la n3 lc) (.slice sa n5 sc) z) => h.2.2.2.1
  have l4 := fun z (h : MpS gmb gm bx (.slice a0 m0 c0) (.int .i64 pl) (.slice la n3 lc) (.slice sa n5 sc) z) => h.2.2.2.2
  refine wp_region_lexE (MpS gmb gm bx (.slice a0 m0 c0) (.int .i64 pl) (.slice la n3 lc) (.slice sa n5 sc)) 10 [(0, true), (1, true), (2, true), (3, true), (4, true), (5, true), (6, false), (7, false), (8, true), (9, true)] (by kernel_rfl) (by kernel_rfl) (fun c a d v w h => by cases d <;> exact h) ?_
  have hd : Below W6.heap.size W6 W6.drew := (Below.refl _ _).drew
  have HG7 := Lib.hid (row_below HG6.out hd)
  have HB7 := Lib.hid (row_below HB6.out hd)
  have HM7 := Lib.hid (row_below HM6.out hd)
  have HW7 := Lib.hid (own_below HW6.out hd)
  have HOW7 := Lib.hid (fun p hp => (HOW6.out p hp).keep1 (Keep1.of (g := g) hd) hg0)
  have HKW7 := Lib.hid (HKW6.out.drew)
  have HO7 := Lib.hid (own_below HO6.out hd)
  have HP7 := Lib.hid (own_below HP6.out hd)
  have HR7 := Lib.hid (HR6.out.below hd)
  have HX7 := Lib.hid (row_below HX6.out hd)
  clear hd HG6 HB6 HM6 HW6 HOW6 HKW6 HO6 HP6 HR6 HX6
  generalize W6.drew = W7 at *
  iterate 6
    refine lexE_step (fun K hK => ?_)
    simp only [lexOp, List.getElem?_toArray, List.getElem?_cons_succ, List.getElem?_cons_zero]
    rw [if_pos (by rfl)]
    apply Exists.intro
    refine ⟨fun w' hS' => ?_, hSw, ?_⟩
    · first | (go_simp <;> with_reducible rfl) | (go_simp; go_bits; with_reducible rfl)
    go_simp
    try go_bits
    refine hK _ _ ?_
    clear hK K
  refine lexE_step (fun K hK => ?_)
  simp only [lexOp, List.getElem?_toArray, List.getElem?_cons_succ, List.getElem?_cons_zero]
  rw [if_pos (by rfl)]
  go_step
  have hal : Below W7.heap.size W7 (W7.alloc (.cells #[.int .i64 pl, .slice la n3 lc, .slice sa n5 sc] 51)) := below_1 _ _
  refine ⟨hSw.below hal, hK _ _ ?_⟩
  clear hK K hal
  refine lexE_step (fun K hK => ?_)
  simp only [lexOp, List.getElem?_toArray, List.getElem?_cons_succ, List.getElem?_cons_zero]
  rw [if_pos (by rfl)]
  change Oper.wp _ _ _ _ _ _
  refine wp_appSK stMapK (ops := #[]) rfl _ _ _ rfl w0.heap.size _ m0 _ rfl (HW7.out.alloc _) _ 1 _ rfl (Src.litS (m := 1) rfl rfl stMapK.1) (by omega) (by unfold maxLen; omega) (Nat.le_trans HKW7.out.size (by simp)) ?_
  intro v3 W8 hown3 hg3 hb3
  have hk3 := KeptT.app HW7.out hg3
  have HK8 := Lib.hid (keep2_appA HKW7.out HW7.out hg3)
  have HR8 := Lib.hid (HR7.out.keptT2 hk3 (by decide) HS0.out HK8.out HOM.out)
  have HG8 := Lib.hid (hk3.2 _ _ _ _ HG7.out (by decide))
  have HB8 := Lib.hid (hk3.2 _ _ _ _ HB7.out (by decide))
  have HM8 := Lib.hid (hk3.2 _ _ _ _ HM7.out (by decide))
  have HOW8 := Lib.hid (fun p hp => (HOW7.out p hp).keptT hk3 (by decide))
  have HO8 := Lib.hid (own_keptT HO7.out hk3 (by decide))
  have HP8 := Lib.hid (own_keptT HP7.out hk3 (by decide))
  have hown4 : W8.ownsRow w0.heap.size 51 3 v3 (m0 + 1) ((lw ++ [(⟨pl, la, n3, lc, loc, sa, n5, sc, stk⟩ : KP)]).flatMap KP.cells) := by rw [List.flatMap_append]; exact hown3
  obtain ⟨a3, c3, rfl, -, -⟩ := Ss.ofOwn KP.cells_length (by decide) hown4
  have HN8 := Lib.hid hown4
  have hq : MpS gmb gm bx (.slice a0 m0 c0) (.int .i64 pl) (.slice la n3 lc) (.slice sa n5 sc) W8 := by
    have hx : W8.heap[bx]? = some (.cells #[.int .i64 pl, .slice la n3 lc, .slice sa n5 sc] 51) := by
      have h1 := row_below HX7.out (below_1 W7 (.cells #[.int .i64 pl, .slice la n3 lc, .slice sa n5 sc] 51))
      rw [hg3.block bx (row_lt h1) HNE.out]
      exact h1
    exact ⟨row_cell HB8.out 0 rfl, row_cell HM8.out 7 rfl, row_cell hx 0 rfl, row_cell hx 1 rfl, row_cell hx 2 rfl⟩
  replace hSw := hq
  clear hq HX7 hown3 hown4 hg3 hb3 hk3 HG7 HB7 HM7 HW7 HOW7 HKW7 HO7 HP7 HR7
  refine ⟨hSw, hK _ _ ?_⟩
  clear hK K
  iterate 2
    refine lexE_step (fun K hK => ?_)
    simp only [lexOp, List.getElem?_toArray, List.getElem?_cons_succ, List.getElem?_cons_zero]
    rw [if_pos (by rfl)]
    apply Exists.intro
    refine ⟨fun w' hS' => ?_, hSw, ?_⟩
    · first | (go_simp <;> with_reducible rfl) | (go_simp; go_bits; with_reducible rfl)
    go_simp
    try go_bits
    refine hK _ _ ?_
    clear hK K
  have fo := row_melt HM8.out 7
  have lto := row_lt HM8.out
  have co : W8.cell? ⟨gm, 7, none⟩ = some (.slice a0 m0 c0) := row_cell HM8.out 7 rfl
  refine lexE_last ?_
  simp only [lastOp, List.getElem?_toArray, List.getElem?_cons_succ, List.getElem?_cons_zero]
  rw [if_pos (by rfl)]
  go_step
  go_end0
  refine ⟨rfl, ?_, ?_⟩
  · rw [HSL.out]
    exact RdS.set HR8.out ⟨Ne.symm hmg, HOM.out⟩ 7 _
  · rw [HSL.out]
    have hko := keptT_set HM8.out 7 (.slice a3 (m0 + 1) c3)
    refine ⟨heap_other HG8.out hrm 7 _, heap_other HB8.out hbm 7 _, ⟨.slice a3 (m0 + 1) c3, m0 + 1, lw ++ [⟨pl, la, n3, lc, loc, sa, n5, sc, stk⟩], by simpa using heap_set3 HM8.out 7 (.slice a3 (m0 + 1) c3), own_keptT HN8.out hko (by decide), by rw [List.length_append, ← HMM.out]; rfl, by rw [List.map_append, HLW.out]; rfl, fun p hp => ?_⟩, HK8.out.setC (.inr (.inr rfl)) 7 _⟩
    rcases List.mem_append.1 hp with hp | hp
    · exact (HOW8.out p hp).keptT hko (by decide)
    · obtain rfl : p = ⟨pl, la, n3, lc, loc, sa, n5, sc, stk⟩ := by simpa using hp
      exact KP.Own.mono ⟨own_keptT HO8.out hko (by decide), own_keptT HP8.out hko (by decide)⟩ HWB.out
end Go.Proofs.Ytnfhiakdbakpgaa
