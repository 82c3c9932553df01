/- jar: items in memory; the reference's again. No condition. -/
import Derived.Test.YtaedohlfcbppaaaJarRef
import Derived.Test.YtaedohlfcbppaaaRegionS
import Derived.Lib.SmallJoins
namespace Go.Proofs.Ytaedohlfcbppaaa
open Go.ChangeShapes Go.WideShapes Go.ChangeAt Go.RowKit
/-- An item in memory. -/
structure IW where
  name : List UInt8
  da : Option Addr
  dn : Nat
  dc : Nat
  data : List UInt8
def IW.cells (f : IW) : List Value := [.string ⟨f.name.toArray⟩, .slice f.da f.dn f.dc]
def IW.iv (f : IW) : IV := ⟨f.name, f.data⟩
theorem IW.cells_length (f : IW) : f.cells.length = 2 := rfl
theorem IW.cells_one (f : IW) : ∀ u ∈ f.cells, u.oneCell' = true := by
  intro u hu
  simp [IW.cells] at hu
  rcases hu with rfl | rfl <;> rfl
/-- A slice of items. -/
def Im (w : World) (a : Option Addr) (n : Nat) (F : List IW) : Prop := Ss 2 IW.cells w a n F
theorem Im.below {w w' : World} {a : Option Addr} {n : Nat} {F : List IW} (h : Im w a n F) (hb : Below w.heap.size w w') : Im w' a n F := Ss.below h hb
theorem Im.at {w : World} {a : Option Addr} {n : Nat} {F : List IW} (h : Im w a n F) (i : Nat) (hi : i < n) : ∃ b off f, a = some ⟨b, off, none⟩ ∧ b < w.heap.size ∧ F[i]? = some f ∧
    w.cell? ⟨b, off + i * 2, none⟩ = some (.string ⟨f.name.toArray⟩) ∧ w.cell? ⟨b, off + i * 2 + 1, none⟩ = some (.slice f.da f.dn f.dc) := by
  obtain ⟨b, off, ha, hlt, hc⟩ := h.2 (by omega)
  have hl : i < F.length := by rw [h.1]; exact hi
  exact ⟨b, off, F[i], ha, hlt, List.getElem?_eq_getElem hl, hc i hl 0 (by omega), hc i hl 1 (by omega)⟩
/-- Does the name at a place stand ahead, too? -/
def againB (F : List IW) (i : Nat) (nm : List UInt8) : Bool := (F.take i).any fun x => x.name == nm
theorem again_yes {F : List IW} {i k : Nat} {f : IW} {nm : List UInt8} (hk : k < i) (hf : F[k]? = some f) (h : f.name = nm) : againB F i nm = true := by
  unfold againB
  rw [List.any_eq_true]
  obtain ⟨hl, he⟩ := List.getElem?_eq_some_iff.1 hf
  exact ⟨f, List.mem_take_iff_getElem.2 ⟨k, by omega, he⟩, by simp [h]⟩
theorem again_no {F : List IW} {i : Nat} {nm : List UInt8} (h : ∀ k f, k < i → F[k]? = some f → f.name ≠ nm) : againB F i nm = false := by
  unfold againB
  rw [List.any_eq_false]
  intro x hx
  obtain ⟨k, hk, rfl⟩ := List.mem_take_iff_getElem.1 hx
  have := h k _ (by omega) (List.getElem?_eq_getElem (by omega))
  simpa using this
set_option maxRecDepth 100000 in
set_option maxHeartbeats 4000000 in
theorem again_any (w : World) (a : Option Addr) (n cap : Nat) (F : List IW) (i : Nat) (g : IW) (hs : Im w a n F) (hn : n ≤ 65536) (hcap : n ≤ cap) (hi : i < n) (hg : F[i]? = some g) :
    Calls Try.prog 20 #[.slice a n cap, .int .i64 i] w fun e w' => e = .returned (.bool (againB F i g.name)) ∧ Below w.heap.size w w' := by
  have HS := Lib.hid hs
  have HI := Lib.hid (show ∀ w', Below w.heap.size w w' → ∃ b off, a = some ⟨b, off, none⟩ ∧ b < w.heap.size ∧ w'.cell? ⟨b, off + i * 2, none⟩ = some (.string ⟨g.name.toArray⟩) from fun w' hb => by
    obtain ⟨b, off, f, ha, hlt, hf, c0, _⟩ := hs.at i hi
    rw [hg] at hf
    cases hf
    exact ⟨b, off, ha, hlt, cellS_below hb c0⟩)
  have HY := Lib.hid (fun k f => again_yes (F := F) (i := i) (k := k) (f := f) (nm := g.name))
  have HN := Lib.hid (again_no (F := F) (i := i) (nm := g.name))
  generalize againB F i g.name = r at *
  generalize g.name = nm at *
  have hic : (i : Int) ≤ cap := by omega
  have hin : (i : Int) < n := by omega
  clear hs hg
  go_enter Try.func20, Try.ntmps20
  go_wp2_with fail
  go_loopg [11] i (fun gn k wr => ∃ j : Nat, j ≤ i ∧ gn = i - j ∧ k = .int .i64 j ∧ Hid (∀ k f, k < j → F[k]? = some f → f.name ≠ nm) ∧ Hid (Below w.heap.size w wr))
  case atStart => exact ⟨0, by omega, by omega, by go_num, Lib.hid (fun k f h => by omega), Lib.hid (Below.refl _ _)⟩
  case round =>
    obtain ⟨j, hj, rfl, rfl, HG, HB⟩ := hrel
    by_cases hlt : j < i
    · obtain ⟨b, off, f, rfl, hbl, hf, c0, c1⟩ := (HS.out.below HB.out).at j (by omega)
      obtain ⟨b', off', he, hbl2, c2⟩ := HI.out _ HB.out
      cases he
      have HYE := Lib.hid (HY.out j f hlt hf)
      have HNX := Lib.hid (show f.name ≠ nm → ∀ k f, k < j + 1 → F[k]? = some f → f.name ≠ nm from fun h k f' hk hf' => by
        rcases Nat.lt_or_ge k j with h1 | h1
        · exact HG.out k f' h1 hf'
        · obtain rfl : k = j := by omega
          rw [hf] at hf'
          cases hf'
          exact h)
      have j1 : (j : Int) < i := by omega
      generalize f.name = x at *
      generalize f.da = fa at *
      generalize f.dn = fn at *
      generalize f.dc = fc at *
      clear hf
      have HAL := Lib.hid (HB.out.alloc HB.out.size (.cells #[.string ⟨x.toArray⟩, .slice fa fn fc] 36))
      by_cases hx : x = nm
      · subst hx
        have HR := Lib.hid (HYE.out rfl)
        have ex : (x == x) = true := by simp
        clear HYE HNX
        go_wp2_with fail
        go_quiet (fail)
        go_wp2_with fail
        go_ret
        exact ⟨ret_boolE HR.out.symm, bdrewN HAL.out _⟩
      · have ex : (x == nm) = false := by simp [hx]
        have HQ := Lib.hid (HNX.out hx)
        clear hx HYE HNX
        go_wp2_with fail
        go_quiet (fail)
        go_wp2_with fail
        go_roundg (i - (j + 1))
        case measure => omega
        case rel => exact ⟨j + 1, by omega, rfl, by go_num, HQ, Lib.hid (bdrewN HAL.out _)⟩
    · obtain rfl : j = i := by omega
      have HR := Lib.hid (HN.out HG.out)
      go_wp2_with fail
      go_ret
      exact ⟨ret_boolE HR.out.symm, HB.out⟩
end Go.Proofs.Ytaedohlfcbppaaa
