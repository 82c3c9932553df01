/- A slice of replies that came in. No condition. -/
import Derived.Test.YtikkkmfddhijeaaFetchOpen
import Derived.Test.YtikkkmfddhijeaaLib2
namespace Go.Proofs.Ytikkkmfddhijeaa
open Go.ChangeShapes Go.WideShapes Go.ChangeAt Go.RowKit Go.Joins Go.Deep
/-- Three cells that are a reply. -/
def RepAt (w : World) (b o : Nat) (f : Int) (x : Option Addr) (m cm : Nat) (sum : Int) (ds : List UInt8) : Prop :=
  w.cell? ⟨b, o, none⟩ = some (.int .i64 f) ∧ w.cell? ⟨b, o + 1, none⟩ = some (.slice x m cm) ∧ w.cell? ⟨b, o + 2, none⟩ = some (.int .u32 sum) ∧ Sl encB w x m ds ∧ m ≤ cm ∧ m ≤ maxLen
/-- A slice of n replies. -/
def IsReplies (w : World) (a : Option Addr) (n cap : Nat) : Prop :=
  n ≤ cap ∧ n ≤ maxLen ∧ (0 < n → ∃ b off, a = some ⟨b, off, none⟩ ∧ b < w.heap.size ∧ ∀ i, i < n → ∃ f x m cm sum ds, RepAt w b (off + i * 3) f x m cm sum ds)
theorem RepAt.below {w w' : World} {b o : Nat} {f : Int} {x : Option Addr} {m cm : Nat} {sum : Int} {ds : List UInt8} (h : RepAt w b o f x m cm sum ds) (hlt : b < w.heap.size) (hb : Below w.heap.size w w') : RepAt w' b o f x m cm sum ds := by
  obtain ⟨h0, h1, h2, h3, h4, h5⟩ := h
  refine ⟨?_, ?_, ?_, h3.below hb, h4, h5⟩
  · rw [hb.cell (by simpa using hlt)]; exact h0
  · rw [hb.cell (by simpa using hlt)]; exact h1
  · rw [hb.cell (by simpa using hlt)]; exact h2
theorem IsReplies.below {w w' : World} {a : Option Addr} {n cap : Nat} (h : IsReplies w a n cap) (hb : Below w.heap.size w w') : IsReplies w' a n cap := by
  obtain ⟨h0, h1, h2⟩ := h
  refine ⟨h0, h1, fun hn => ?_⟩
  obtain ⟨b, off, ha, hlt, hr⟩ := h2 hn
  refine ⟨b, off, ha, Nat.lt_of_lt_of_le hlt hb.size, fun i hi => ?_⟩
  obtain ⟨f, x, m, cm, sum, ds, h⟩ := hr i hi
  exact ⟨f, x, m, cm, sum, ds, h.below hlt hb⟩
section
variable {H : Type} {enc : TypeId × Value → H} {w : World} {r : Reach} {b0 : Nat} {v : Value} {d : DataW H} {p : List MemPlace}
theorem add_two (b off k j : Nat) : ((⟨b, off, none⟩ : Addr).add k).add j = ⟨b, off + k + j, none⟩ := by
  have h1 : ∀ (o k : Nat), (⟨b, o, none⟩ : Addr).add k = ⟨b, o + k, none⟩ := by intro o k; unfold Addr.add; split <;> simp_all
  rw [h1, h1]
theorem add_zero' (x : Addr) : (x.add (0 * 3)).add 0 = x := by simp [Addr.add]
theorem cells_reply : Try.prog.cellsOf 27 = 3 := by kernel_rfl
theorem open_replies (hv : Value.okWide Try.prog w r b0 46 v) (h : DataW.Trod enc Try.prog w 0 (fun _ => true) true 46 v d p) : ∃ a n cap, v = .slice a n cap ∧ IsReplies w a n cap := by
  obtain ⟨a, n, cap, rfl⟩ := okWide_slice Try.underlying46 hv
  refine ⟨a, n, cap, rfl, ?_⟩
  obtain ⟨fuel, hf⟩ := h
  rcases open_slice Try.underlying46 hf with ⟨hcs, _⟩ | ⟨x, len, c, m, n', D, Pl, hcs, _, hl, hm, hmm, _, hi⟩
  · simp [Value.cells] at hcs
    obtain ⟨rfl, rfl, rfl⟩ := hcs
    exact ⟨by omega, by unfold maxLen; omega, fun h => by omega⟩
  · simp [Value.cells] at hcs
    obtain ⟨rfl, rfl, rfl⟩ := hcs
    simp only [if_true] at hmm
    subst hmm
    refine ⟨hl, by omega, fun hn => ?_⟩
    have hsp : x.spot = none := by
      obtain ⟨cs', hc, ht⟩ := hi 0 (by omega)
      rw [cells_reply] at hc
      obtain ⟨_, hcl, hat⟩ := World.cells?_some hc
      match cs', hcl with
      | [c0, c1, c2], _ =>
        have q0 := hat 0 (by omega)
        rw [add_zero'] at q0
        exact World.cell?_spot q0
    obtain ⟨b, off, spot⟩ := x
    simp only at hsp
    subst hsp
    have key : ∀ i, i < n → ∃ f y m cm sum ds, RepAt w b (off + i * 3) f y m cm sum ds := by
      intro i hin
      obtain ⟨cs', hc, ht⟩ := hi i (by omega)
      rw [cells_reply] at hc
      obtain ⟨_, hcl, hat⟩ := World.cells?_some hc
      obtain ⟨y0, y1, y2, k, _, _, h0, h1, h2⟩ := trod_struct3 Try.underlying27 ht
      match cs', hcl with
      | [c0, c1, c2], _ =>
        have q0 := hat 0 (by omega)
        have q1 := hat 1 (by omega)
        have q2 := hat 2 (by omega)
        rw [show Try.prog.cellsOf 3 = 1 by kernel_rfl] at h0
        obtain ⟨f, e0, _⟩ := int_of Try.underlying3 h0
        have h1' : DataW.trod enc Try.prog w 0 (fun _ => true) true k 22 [c1] = some y1 := h1
        have h2' : DataW.trod enc Try.prog w 0 (fun _ => true) true k 25 [c2] = some y2 := h2
        obtain ⟨ad, m, cm, z, e1, hr⟩ := row_of h1'
        obtain ⟨sum, e2, _⟩ := int_of Try.underlying25 h2'
        have hcap := Row.cap hr
        obtain ⟨ds, hds, hml⟩ := Bs.ofRow hr
        rw [add_two] at q0 q1 q2
        refine ⟨f, ad, m, cm, sum, ds, ?_, ?_, ?_, hds.sl, hcap, hml⟩
        · rw [Nat.add_zero] at q0; rw [q0, ← e0]; rfl
        · rw [q1, ← e1]; rfl
        · rw [q2, ← e2]; rfl
    obtain ⟨f, y, m, cm, sum, ds, hr⟩ := key 0 hn
    exact ⟨b, off, rfl, World.block_lt_of_cell? w _ hr.1, key⟩
end
end Go.Proofs.Ytikkkmfddhijeaa
