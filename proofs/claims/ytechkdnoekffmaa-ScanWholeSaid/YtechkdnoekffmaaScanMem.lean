/- scan: found records in memory. No condition. -/
import Derived.Test.YtechkdnoekffmaaRecFn10
import Derived.Test.YtechkdnoekffmaaRecPlain3
import Derived.Test.YtechkdnoekffmaaRegionS
import Derived.Deep.LoopGhost
import Derived.Deep.DeepCutAuto
namespace Go.Proofs.Ytechkdnoekffmaa
open Go.ChangeShapes Go.WideShapes Go.ChangeAt Go.RowKit
/-- A found record, as it lies in memory. -/
structure FV where
  pos : Nat
  kd : Nat
  tx : Nat
  kb : List UInt8
  a : Option Addr
  n : Nat
  cap : Nat
  ct : Nat
  bb : List UInt8
def FV.cells (f : FV) : List Value := [.int .i64 f.pos, .int .i64 f.kd, .int .u32 f.tx, .string ⟨f.kb.toArray⟩, .slice f.a f.n f.cap, .int .i64 f.ct]
theorem FV.cells_length (f : FV) : f.cells.length = 6 := rfl
/-- The same, but for where the blob lies. -/
def FV.same (f g : FV) : Prop := f.pos = g.pos ∧ f.kd = g.kd ∧ f.tx = g.tx ∧ f.kb = g.kb ∧ f.ct = g.ct ∧ f.bb = g.bb
/-- A blob that no row of found records from block B on meets. -/
def BlobAt (w : World) (B : Nat) (f : FV) : Prop := 0 < f.n → ∃ b off, f.a = some ⟨b, off, none⟩ ∧ (b < B ∨ ∃ cur fr, w.heap[b]? = some (.cells cur 5 fr))
/-- A slice of found records of the call's own. -/
structure Founds (w : World) (B : Nat) (v : Value) (k : Nat) (F : List FV) : Prop where
  own : w.ownsRow B 31 6 v k (F.flatMap FV.cells)
  len : F.length = k
  sl : ∀ f ∈ F, Sl encB w f.a f.n f.bb
  cap : ∀ f ∈ F, f.n ≤ f.cap
  blob : ∀ f ∈ F, BlobAt w B f
theorem BlobAt.below {w w' : World} {B : Nat} {f : FV} (h : BlobAt w B f) (hb : Below w.heap.size w w') : BlobAt w' B f := by
  intro hn
  obtain ⟨b, off, ha, h1⟩ := h hn
  refine ⟨b, off, ha, ?_⟩
  rcases h1 with h1 | ⟨cur, fr, h1⟩
  · exact .inl h1
  · exact .inr ⟨cur, fr, by rw [hb.block b (Array.getElem?_eq_some_iff.1 h1).1]; exact h1⟩
theorem Founds.below {w w' : World} {B : Nat} {v : Value} {k : Nat} {F : List FV} (h : Founds w B v k F) (hb : Below w.heap.size w w') : Founds w' B v k F :=
  ⟨own_below h.own hb, h.len, fun f hf => (h.sl f hf).below hb, h.cap, fun f hf => (h.blob f hf).below hb⟩
theorem Founds.nil (w : World) (B : Nat) : Founds w B (.slice none 0 0) 0 [] := ⟨World.ownsRow_nil _ _ _ _, rfl, (fun f hf => by cases hf), (fun f hf => by cases hf), (fun f hf => by cases hf)⟩
/-- A blob stays while a row of found records turns. -/
theorem blob_kept {w w' : World} {B : Nat} {v : Value} {k : Nat} {xs : List Value} {f : FV} (ho : w.ownsRow B 31 6 v k xs) (hg : w.grownBy w' v.ownBlock) (hs : Sl encB w f.a f.n f.bb) (hb : BlobAt w B f) : Sl encB w' f.a f.n f.bb ∧ BlobAt w' B f := by
  have key : ∀ b, b < w.heap.size → (b < B ∨ ∃ cur fr, w.heap[b]? = some (.cells cur 5 fr)) → w'.heap[b]? = w.heap[b]? := by
    intro b hlt h1
    refine hg.block b hlt ?_
    intro he
    rcases ho.2 with ⟨h2, _⟩ | ⟨g, cap, cur, hv, hB, hgg, _⟩
    · rw [h2] at he; cases he
    · rw [hv] at he
      have hbg : b = g := by simp [Value.ownBlock] at he; exact he
      subst hbg
      rcases h1 with h1 | ⟨c2, fr, h1⟩
      · omega
      · rw [hgg] at h1; cases h1
  constructor
  · refine ⟨hs.1, fun hn => ?_⟩
    obtain ⟨b, off, ha, hlt, hc⟩ := hs.2 hn
    obtain ⟨b', off', ha', h1⟩ := hb hn
    rw [ha] at ha'
    cases ha'
    refine ⟨b, off, ha, Nat.lt_of_lt_of_le hlt hg.size, fun i hi => ?_⟩
    rw [← hc i hi]
    unfold World.cell?
    rw [key b hlt h1]
  · intro hn
    obtain ⟨b, off, ha, h1⟩ := hb hn
    refine ⟨b, off, ha, ?_⟩
    rcases h1 with h1 | ⟨cur, fr, h1⟩
    · exact .inl h1
    · exact .inr ⟨cur, fr, by rw [key b (Array.getElem?_eq_some_iff.1 h1).1 (.inr ⟨cur, fr, h1⟩)]; exact h1⟩
theorem infoFound : (Try.prog.info? 31).map (fun i => (i.zero, i.size, i.bytes)) = some (some (.agg #[.int .i64 0, .int .i64 0, .int .u32 0, .string ⟨#[]⟩, .slice none 0 0, .int .i64 0]), 6, 72) := by kernel_rfl
theorem srcFound (w : World) (f : FV) (c : Nat) : Src Try.prog 6 25 (.slice (some ⟨w.heap.size, 0, none⟩) 1 c) 1 f.cells (w.alloc (.cells f.cells.toArray 31)) := by
  refine Src.ofSlice _ Try.underlying25 ⟨w.heap.size, 0, none⟩ 1 c _ rfl (fun j u hu => ?_) (fun u hu => ?_)
  · have hadd : (⟨w.heap.size, 0, none⟩ : Addr).add j = ⟨w.heap.size, j, none⟩ := by unfold Addr.add; split <;> simp_all
    rw [hadd, cell_of_row _ w.heap.size j _ _ _ (heap_alloc_last w _)]
    simpa using hu
  · simp [FV.cells] at hu
    rcases hu with rfl | rfl | rfl | rfl | rfl | rfl <;> rfl
theorem wpList_found {w : World} {ops : Array Oper} {rest : List Oper} {o : Oper} {a : Act} {Q : Exit → Act → World → Prop} (hgd : Region.wanted o (yielded ops a.tmps) = true) (s x : Operand)
    (ho : o.op = .call { callee := .builtin .append, args := #[s, x], argTypes := #[25, 25] })
    (B : Nat) (v : Value) (k : Nat) (F : List FV) (hv : a.eval s = v) (hF : Founds w B v k F) (f : FV) (c : Nat) (hy : a.eval x = .slice (some ⟨w.heap.size, 0, none⟩) 1 c)
    (hsl : Sl encB w f.a f.n f.bb) (hcap : f.n ≤ f.cap) (hbl : BlobAt w B f) (hk : k ≤ 65536) (hB : B ≤ w.heap.size)
    (h : ∀ v' w', Founds w' B v' (k + 1) (F ++ [f]) → Below B w w' → wpList Try.prog ops Q rest (a.put o.dst v') w') : wpList Try.prog ops Q (o :: rest) a (w.alloc (.cells f.cells.toArray 31)) := by
  obtain ⟨i0, hi, hz0, hz1, hz2⟩ := info_parts infoFound
  have hb : Below w.heap.size w (w.alloc (.cells f.cells.toArray 31)) := (Below.refl _ _).alloc (Nat.le_refl _) _
  have hF2 := hF.below hb
  refine wpList_append_src hgd s x 25 25 ho B 31 i0 _ 6 72 Try.underlying25 hi hz0 hz1 hz2 rfl v k _ hv hF2.own _ 1 f.cells hy (srcFound w f c) (by unfold maxLen; omega) (by omega) (by simp; omega) ?_
  intro v' w' hown hgr _
  have hlt : ∀ g ∈ F ++ [f], Sl encB (w.alloc (.cells f.cells.toArray 31)) g.a g.n g.bb ∧ BlobAt (w.alloc (.cells f.cells.toArray 31)) B g ∧ g.n ≤ g.cap := by
    intro g hg
    rcases List.mem_append.1 hg with hg | hg
    · exact ⟨hF2.sl g hg, hF2.blob g hg, hF2.cap g hg⟩
    · obtain rfl := List.mem_singleton.1 hg
      exact ⟨hsl.below hb, hbl.below hb, hcap⟩
  refine h v' w' ⟨by rw [List.flatMap_append]; simpa using hown, by simp [hF.len], fun g hg => (blob_kept hF2.own hgr (hlt g hg).1 (hlt g hg).2.1).1, fun g hg => (hlt g hg).2.2, fun g hg => (blob_kept hF2.own hgr (hlt g hg).1 (hlt g hg).2.1).2⟩ ?_
  exact ((Below.refl B w).alloc hB _).trans (below_app (Below.refl _ _) (by simp; omega) hF2.own hgr)
theorem flat_get {F : List FV} {j : Nat} (hj : j < F.length) (i : Nat) (hi : i < 6) : (F.flatMap FV.cells)[j * 6 + i]? = (F[j]'hj).cells[i]? := by
  induction F generalizing j with
  | nil => simp at hj
  | cons f F ih =>
    rw [List.flatMap_cons]
    cases j with
    | zero => rw [List.getElem?_append_left (by rw [FV.cells_length]; omega)]; simp
    | succ j =>
      rw [List.getElem?_append_right (by rw [FV.cells_length]; omega), FV.cells_length, show (j + 1) * 6 + i - 6 = j * 6 + i by omega, ih (by simpa using hj)]
      simp
/-- The cells of one of them. -/
theorem Founds.at {w : World} {B : Nat} {v : Value} {k : Nat} {F : List FV} (h : Founds w B v k F) (j : Nat) (hj : j < k) :
    ∃ g cap, v = .slice (some ⟨g, 0, none⟩) k cap ∧ B ≤ g ∧ k ≤ cap ∧ ∃ f ∈ F, F[j]? = some f ∧ w.cell? ⟨g, j * 6, none⟩ = some (.int .i64 f.pos) ∧ w.cell? ⟨g, j * 6 + 1, none⟩ = some (.int .i64 f.kd) ∧ w.cell? ⟨g, j * 6 + 2, none⟩ = some (.int .u32 f.tx) ∧
      w.cell? ⟨g, j * 6 + 3, none⟩ = some (.string ⟨f.kb.toArray⟩) ∧ w.cell? ⟨g, j * 6 + 4, none⟩ = some (.slice f.a f.n f.cap) ∧ w.cell? ⟨g, j * 6 + 5, none⟩ = some (.int .i64 f.ct) := by
  have hjF : j < F.length := by rw [h.len]; exact hj
  rcases h.own.2 with ⟨rfl, h2⟩ | ⟨g, cap, cur, rfl, hb, hg, hnc, hm, hs, ht⟩
  · have := h.own.1
    rw [h2] at this
    simp at this
    omega
  · have hc : ∀ i, i < 6 → w.cell? ⟨g, j * 6 + i, none⟩ = (F[j]'hjF).cells[i]? := fun i hi => by
      rw [h.own.cellAt (j * 6 + i) (by omega), flat_get hjF i hi]
    exact ⟨g, cap, rfl, hb, hnc, F[j]'hjF, List.getElem_mem _, List.getElem?_eq_getElem hjF, hc 0 (by omega), hc 1 (by omega), hc 2 (by omega), hc 3 (by omega), hc 4 (by omega), hc 5 (by omega)⟩
end Go.Proofs.Ytechkdnoekffmaa
