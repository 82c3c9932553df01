/- scan: records that came in. No condition. -/
import Derived.Test.YtechkdnoekffmaaScanFix
import Derived.Test.YtechkdnoekffmaaRecOpen
namespace Go.Proofs.Ytechkdnoekffmaa
open Go.ChangeShapes Go.WideShapes Go.ChangeAt Go.RowKit Go.Joins Go.Deep
/-- Five cells that are a record. -/
structure RecAt (w : World) (b o : Nat) (k t : Int) (kb : List UInt8) (x : Option Addr) (m cm : Nat) (ds : List UInt8) (c : Int) : Prop where
  c0 : w.cell? ⟨b, o, none⟩ = some (.int .i64 k)
  c1 : w.cell? ⟨b, o + 1, none⟩ = some (.int .u32 t)
  c2 : w.cell? ⟨b, o + 2, none⟩ = some (.string ⟨kb.toArray⟩)
  c3 : w.cell? ⟨b, o + 3, none⟩ = some (.slice x m cm)
  c4 : w.cell? ⟨b, o + 4, none⟩ = some (.int .i64 c)
  kw : (Lit.int .i64 k).wf = true
  tw : (Lit.int .u32 t).wf = true
  cw : (Lit.int .i64 c).wf = true
  sl : Sl encB w x m ds
  mc : m ≤ cm
/-- A slice of n records. -/
def IsRecs (w : World) (a : Option Addr) (n cap : Nat) : Prop :=
  n ≤ cap ∧ n ≤ maxLen ∧ (0 < n → ∃ b off, a = some ⟨b, off, none⟩ ∧ b < w.heap.size ∧ ∀ i, i < n → ∃ k t kb x m cm ds c, RecAt w b (off + i * 5) k t kb x m cm ds c)
theorem RecAt.below {w w' : World} {b o : Nat} {k t : Int} {kb : List UInt8} {x : Option Addr} {m cm : Nat} {ds : List UInt8} {c : Int} (h : RecAt w b o k t kb x m cm ds c) (hb : Below w.heap.size w w') : RecAt w' b o k t kb x m cm ds c :=
  ⟨cell_below hb h.c0, cell_below hb h.c1, cell_below hb h.c2, cell_below hb h.c3, cell_below hb h.c4, h.kw, h.tw, h.cw, h.sl.below hb, h.mc⟩
section
variable {H : Type} {enc : TypeId × Value → H} {w : World} {r : Reach} {b0 : Nat} {v : Value} {d : DataW H} {p : List MemPlace}
theorem add_two (b off k j : Nat) : ((⟨b, off, none⟩ : Addr).add k).add j = ⟨b, off + k + j, none⟩ := by
  have h1 : ∀ (o k : Nat), (⟨b, o, none⟩ : Addr).add k = ⟨b, o + k, none⟩ := by intro o k; unfold Addr.add; split <;> simp_all
  rw [h1, h1]
theorem add_zero5 (x : Addr) : (x.add (0 * 5)).add 0 = x := by simp [Addr.add]
theorem cells_rec5 : Try.prog.cellsOf 28 = 5 := by kernel_rfl
theorem open_recs (hv : Value.okWide Try.prog w r b0 22 v) (h : DataW.Trod enc Try.prog w 0 (fun _ => true) true 22 v d p) : ∃ a n cap, v = .slice a n cap ∧ IsRecs w a n cap := by
  obtain ⟨a, n, cap, rfl⟩ := okWide_slice Try.underlying22 hv
  refine ⟨a, n, cap, rfl, ?_⟩
  obtain ⟨fuel, hf⟩ := h
  rcases open_slice Try.underlying22 hf with ⟨hcs, _⟩ | ⟨x, len, c, m, n', D, Pl, hcs, _, hl, hm, hmm, _, hi⟩
  · simp [Value.cells] at hcs
    obtain ⟨rfl, rfl, rfl⟩ := hcs
    exact ⟨by omega, by unfold maxLen; omega, fun h => by omega⟩
  · simp [Value.cells] at hcs
    obtain ⟨rfl, rfl, rfl⟩ := hcs
    simp only [if_true] at hmm
    subst hmm
    refine ⟨hl, by omega, fun hn => ?_⟩
    have hsp : x.spot = none := by
      obtain ⟨cs', hc, ht⟩ := hi 0 (by omega)
      rw [cells_rec5] at hc
      obtain ⟨_, hcl, hat⟩ := World.cells?_some hc
      match cs', hcl with
      | [c0, c1, c2, c3, c4], _ =>
        have q0 := hat 0 (by omega)
        rw [add_zero5] at q0
        exact World.cell?_spot q0
    obtain ⟨b, off, spot⟩ := x
    simp only at hsp
    subst hsp
    have key : ∀ i, i < n → ∃ k t kb x m cm ds c, RecAt w b (off + i * 5) k t kb x m cm ds c := by
      intro i hin
      obtain ⟨cs', hc, ht⟩ := hi i (by omega)
      rw [cells_rec5] at hc
      obtain ⟨_, hcl, hat⟩ := World.cells?_some hc
      match cs', hcl with
      | [c0, c1, c2, c3, c4], _ =>
        obtain ⟨xs, k, _, _, _, hlen, hg⟩ := DataW.trod_struct Try.underlying28 ht
        match xs, hlen with
        | [y0, y1, y2, y3, y4], _ =>
          have g0 : DataW.trod enc Try.prog w 0 (fun _ => true) true k 3 [c0] = some y0 := hg 0 _ rfl
          have g1 : DataW.trod enc Try.prog w 0 (fun _ => true) true k 26 [c1] = some y1 := hg 1 _ rfl
          have g2 : DataW.trod enc Try.prog w 0 (fun _ => true) true k 9 [c2] = some y2 := hg 2 _ rfl
          have g3 : DataW.trod enc Try.prog w 0 (fun _ => true) true k 24 [c3] = some y3 := hg 3 _ rfl
          have g4 : DataW.trod enc Try.prog w 0 (fun _ => true) true k 3 [c4] = some y4 := hg 4 _ rfl
          obtain ⟨kd, e0, w0⟩ := int_of Try.underlying3 g0
          obtain ⟨tx, e1, w1⟩ := int_of Try.underlying26 g1
          obtain ⟨ks, e2, w2⟩ := str_of Try.underlying9 g2
          obtain ⟨ad, m, cm, z, e3, hr⟩ := row_of g3
          obtain ⟨ct, e4, w4⟩ := int_of Try.underlying3 g4
          have hcap := Row.cap hr
          obtain ⟨ds, hds, hml⟩ := Bs.ofRow hr
          have q0 := hat 0 (by omega)
          have q1 := hat 1 (by omega)
          have q2 := hat 2 (by omega)
          have q3 := hat 3 (by omega)
          have q4 := hat 4 (by omega)
          rw [add_two] at q0 q1 q2 q3 q4
          refine ⟨kd, tx, ks.data.toList, ad, m, cm, ds, ct, ⟨?_, ?_, ?_, ?_, ?_, w0, w1, w4, hds.sl, hcap⟩⟩
          · rw [Nat.add_zero] at q0; rw [q0, ← e0]; rfl
          · rw [q1, ← e1]; rfl
          · rw [q2, Array.toArray_toList, ← e2]; rfl
          · rw [q3, ← e3]; rfl
          · rw [q4, ← e4]; rfl
    obtain ⟨k, t, kb, x, m, cm, ds, c, hr⟩ := key 0 hn
    exact ⟨b, off, rfl, World.block_lt_of_cell? w _ hr.c0, key⟩
end
end Go.Proofs.Ytechkdnoekffmaa
