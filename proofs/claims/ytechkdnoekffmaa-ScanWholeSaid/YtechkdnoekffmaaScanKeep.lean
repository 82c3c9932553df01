/- scan: a row of bytes and a row of found records that grow in turn. No condition. -/
import Derived.Test.YtechkdnoekffmaaScanRight
namespace Go.Proofs.Ytechkdnoekffmaa
open Go.ChangeShapes Go.WideShapes Go.ChangeAt Go.RowKit
/-- Own rows of unlike types lie in unlike blocks. -/
theorem own_apart {w : World} {B1 B2 : Nat} {e1 e2 : TypeId} {s1 s2 : Nat} {v1 v2 : Value} {n1 n2 : Nat} {xs1 xs2 : List Value} (h1 : w.ownsRow B1 e1 s1 v1 n1 xs1) (h2 : w.ownsRow B2 e2 s2 v2 n2 xs2) (hne : e1 ≠ e2) : v1.ownBlock = none ∨ v1.ownBlock ≠ v2.ownBlock := by
  rcases h1.2 with ⟨rfl, _⟩ | ⟨g, cap, cur, rfl, _, hg, _⟩
  · exact .inl rfl
  · refine .inr fun he => ?_
    rcases h2.2 with ⟨rfl, _⟩ | ⟨g2, cap2, cur2, rfl, _, hg2, _⟩
    · simp [Value.ownBlock] at he
    · simp [Value.ownBlock] at he
      subst he
      rw [hg] at hg2
      simp at hg2
      exact hne hg2.2
/-- Blobs that lie below block B. -/
def LowBlobs (B : Nat) (F : List FV) : Prop := ∀ f ∈ F, 0 < f.n → ∃ b off, f.a = some ⟨b, off, none⟩ ∧ b < B
theorem LowBlobs.snoc {B : Nat} {F : List FV} {f : FV} (h : LowBlobs B F) (hf : 0 < f.n → ∃ b off, f.a = some ⟨b, off, none⟩ ∧ b < B) : LowBlobs B (F ++ [f]) := by
  intro g hg
  rcases List.mem_append.1 hg with hg | hg
  · exact h g hg
  · rw [List.mem_singleton.1 hg]; exact hf
/-- Found records stay while a row of bytes grows. -/
theorem Founds.grown {w w' : World} {B : Nat} {v : Value} {k : Nat} {F : List FV} {vb : Value} {nb : Nat} {xs : List Value} (h : Founds w B v k F) (hl : LowBlobs B F) (ho : w.ownsRow B 5 1 vb nb xs) (hg : w.grownBy w' vb.ownBlock) (hb : Below B w w') : Founds w' B v k F := by
  refine ⟨h.own.kept hg (own_apart h.own ho (by decide)), h.len, fun f hf => ?_, h.cap, fun f hf hn => ?_⟩
  · refine ⟨(h.sl f hf).1, fun hn => ?_⟩
    obtain ⟨b, off, ha, hlt, hc⟩ := (h.sl f hf).2 hn
    obtain ⟨b', off', ha', h1⟩ := hl f hf hn
    rw [ha] at ha'
    cases ha'
    exact ⟨b, off, ha, Nat.lt_of_lt_of_le hlt hg.size, fun i hi => by rw [hb.cell (by simpa using h1)]; exact hc i hi⟩
  · obtain ⟨b', off', ha', h1⟩ := hl f hf hn
    exact ⟨b', off', ha', .inl h1⟩
theorem wpList_found3 {w : World} {ops : Array Oper} {rest : List Oper} {o : Oper} {a : Act} {Q : Exit → Act → World → Prop} (hgd : Region.wanted o (yielded ops a.tmps) = true) (s x : Operand)
    (ho : o.op = .call { callee := .builtin .append, args := #[s, x], argTypes := #[25, 25] })
    (B : Nat) (v : Value) (k : Nat) (F : List FV) (hv : a.eval s = v) (hF : Founds w B v k F) (f : FV) (c : Nat) (sz : Nat) (hy : a.eval x = .slice (some ⟨sz, 0, none⟩) 1 c) (hsz : w.heap.size = sz)
    (hsl : Sl encB w f.a f.n f.bb) (hcap : f.n ≤ f.cap) (hbl : BlobAt w B f) (hk : k ≤ 65536) (hB : B ≤ w.heap.size)
    (h : ∀ v' w', Founds w' B v' (k + 1) (F ++ [f]) → Below B w w' → (∀ vb nb xs, w.ownsRow B 5 1 vb nb xs → w'.ownsRow B 5 1 vb nb xs) →
      (∀ (g : Nat) (cur : Array Value) (e : TypeId) (fr : Nat × Nat), w.heap[g]? = some (.cells cur e fr) → e ≠ 31 → w'.heap[g]? = some (.cells cur e fr)) → wpList Try.prog ops Q rest (a.put o.dst v') w') : wpList Try.prog ops Q (o :: rest) a (w.alloc (.cells f.cells.toArray 31)) := by
  subst hsz
  obtain ⟨i0, hi, hz0, hz1, hz2⟩ := info_parts infoFound
  have hb : Below w.heap.size w (w.alloc (.cells f.cells.toArray 31)) := (Below.refl _ _).alloc (Nat.le_refl _) _
  have hF2 := hF.below hb
  refine wpList_append_src hgd s x 25 25 ho B 31 i0 _ 6 72 Try.underlying25 hi hz0 hz1 hz2 rfl v k _ hv hF2.own _ 1 f.cells hy (srcFound w f c) (by unfold maxLen; omega) (by omega) (by simp; omega) ?_
  intro v' w' hown hgr _
  have hlt : ∀ g ∈ F ++ [f], Sl encB (w.alloc (.cells f.cells.toArray 31)) g.a g.n g.bb ∧ BlobAt (w.alloc (.cells f.cells.toArray 31)) B g ∧ g.n ≤ g.cap := by
    intro g hg
    rcases List.mem_append.1 hg with hg | hg
    · exact ⟨hF2.sl g hg, hF2.blob g hg, hF2.cap g hg⟩
    · obtain rfl := List.mem_singleton.1 hg
      exact ⟨hsl.below hb, hbl.below hb, hcap⟩
  refine h v' w' ⟨by rw [List.flatMap_append]; simpa using hown, by simp [hF.len], fun g hg => (blob_kept hF2.own hgr (hlt g hg).1 (hlt g hg).2.1).1, fun g hg => (hlt g hg).2.2, fun g hg => (blob_kept hF2.own hgr (hlt g hg).1 (hlt g hg).2.1).2⟩ ?_ ?_ ?_
  · exact ((Below.refl B w).alloc hB _).trans (below_app (Below.refl _ _) (by simp; omega) hF2.own hgr)
  · intro vb nb xs hvb
    have h2 := own_below hvb hb
    exact h2.kept hgr (own_apart h2 hF2.own (by decide))
  · intro g cur e fr hg hne
    have hlt2 := (Array.getElem?_eq_some_iff.1 hg).1
    have hg2 : (w.alloc (.cells f.cells.toArray 31)).heap[g]? = some (.cells cur e fr) := by rw [hb.block g hlt2]; exact hg
    rw [hgr.block g (Nat.lt_of_lt_of_le hlt2 hb.size) ?_]
    · exact hg2
    · intro he
      rcases hF2.own.2 with ⟨rfl, _⟩ | ⟨g3, cap3, cur3, rfl, _, hg3, _⟩
      · simp [Value.ownBlock] at he
      · simp [Value.ownBlock] at he
        subst he
        rw [hg2] at hg3
        simp at hg3
        exact hne hg3.2.1
end Go.Proofs.Ytechkdnoekffmaa
