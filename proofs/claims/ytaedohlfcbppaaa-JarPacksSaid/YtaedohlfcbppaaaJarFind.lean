/- jar: Find. No condition. -/
import Derived.Test.YtaedohlfcbppaaaJarOpen
import Derived.Test.YtaedohlfcbppaaaClone
namespace Go.Proofs.Ytaedohlfcbppaaa
open Go.ChangeShapes Go.WideShapes Go.ChangeAt Go.RowKit
/-- The first place from j on where a name stands, or -1. -/
def FirstAt (F : List IW) (nm : List UInt8) (j : Nat) (r : Int) : Prop :=
  (∃ (i : Nat) (f : IW), j ≤ i ∧ r = i ∧ F[i]? = some f ∧ f.name = nm ∧ ∀ k g, j ≤ k → k < i → F[k]? = some g → g.name ≠ nm) ∨ (r = -1 ∧ ∀ k g, j ≤ k → F[k]? = some g → g.name ≠ nm)
theorem FirstAt.one {F : List IW} {nm : List UInt8} {j : Nat} {r q : Int} (h : FirstAt F nm j r) (h' : FirstAt F nm j q) : r = q := by
  rcases h with ⟨i, f, h1, rfl, h2, h3, h4⟩ | ⟨rfl, h4⟩
  · rcases h' with ⟨i', f', g1, rfl, g2, g3, g4⟩ | ⟨rfl, g4⟩
    · rcases Nat.lt_trichotomy i i' with hl | rfl | hl
      · exact absurd h3 (g4 i f h1 hl h2)
      · rfl
      · exact absurd g3 (h4 i' f' g1 hl g2)
    · exact absurd h3 (g4 i f h1 h2)
  · rcases h' with ⟨i', f', g1, rfl, g2, g3, g4⟩ | ⟨rfl, g4⟩
    · exact absurd g3 (h4 i' f' g1 g2)
    · rfl
theorem FirstAt.end (F : List IW) (nm : List UInt8) : FirstAt F nm F.length (-1) := .inr ⟨rfl, fun k g hk hg => by
  have := (List.getElem?_eq_some_iff.1 hg).1
  omega⟩
theorem FirstAt.yes {F : List IW} {nm : List UInt8} {j : Nat} {f : IW} (hf : F[j]? = some f) (h : f.name = nm) : FirstAt F nm j (j : Nat) := .inl ⟨j, f, Nat.le_refl _, rfl, hf, h, fun k g h1 h2 => by omega⟩
theorem FirstAt.no {F : List IW} {nm : List UInt8} {j : Nat} {f : IW} {r : Int} (hf : F[j]? = some f) (h : f.name ≠ nm) (hr : FirstAt F nm (j + 1) r) : FirstAt F nm j r := by
  have key : ∀ k g, j ≤ k → ¬ j + 1 ≤ k → F[k]? = some g → g.name ≠ nm := by
    intro k g h1 h2 hg
    obtain rfl : k = j := by omega
    rw [hf] at hg
    cases hg
    exact h
  rcases hr with ⟨i, f', h1, rfl, h2, h3, h4⟩ | ⟨rfl, h4⟩
  · refine .inl ⟨i, f', by omega, rfl, h2, h3, fun k g g1 g2 hg => ?_⟩
    by_cases hk : j + 1 ≤ k
    · exact h4 k g hk g2 hg
    · exact key k g g1 hk hg
  · refine .inr ⟨rfl, fun k g g1 hg => ?_⟩
    by_cases hk : j + 1 ≤ k
    · exact h4 k g hk hg
    · exact key k g g1 hk hg
set_option maxHeartbeats 4000000 in
set_option maxRecDepth 100000 in
theorem find1_any (w : World) (nm s : List UInt8) (da : Option Addr) (dn dc B : Nat) (hB : w.cell? ⟨B, 0, none⟩ = some (.string ⟨nm.toArray⟩)) :
    Calls Try.prog 28 #[.agg #[.string ⟨s.toArray⟩, .slice da dn dc], .pointer (some ⟨B, 0, none⟩)] w fun e w' => e = .returned (.bool (s == nm)) ∧ Below w.heap.size w w' := by
  have hal : Below w.heap.size w (w.alloc (.cells #[.string ⟨s.toArray⟩, .slice da dn dc] 36)) := (Below.refl _ _).alloc (Nat.le_refl _) _
  have HAL := Lib.hid hal
  have hB2 := cellS_below hal hB
  clear hal
  go_enter Try.func28, Try.ntmps28
  go_wp2_with fail
  go_ret
  exact ⟨rfl, HAL.out⟩
set_option maxHeartbeats 4000000 in
set_option maxRecDepth 100000 in
theorem indexItem_any (w : World) (a : Option Addr) (n cap : Nat) (F : List IW) (nm : List UInt8) (B : Nat) (hs : Im w a n F) (hn : n ≤ 65536) (hB : w.cell? ⟨B, 0, none⟩ = some (.string ⟨nm.toArray⟩)) :
    Calls Try.prog 27 #[.slice a n cap, .func (.func 28) #[] #[.pointer (some ⟨B, 0, none⟩)]] w fun e w' => (∃ r : Int, e = .returned (.int .i64 r) ∧ FirstAt F nm 0 r) ∧ Below w.heap.size w w' := by
  have HS := Lib.hid hs
  have HLn := Lib.hid hs.1
  have HC := Lib.hid (fun w' (hb : Below w.heap.size w w') s da dn dc => find1_any w' nm s da dn dc B (cellS_below hb hB))
  clear hs hB
  go_enter Try.func27, Try.ntmps27
  go_wp2_with fail
  go_loopg [8] n (fun gn i wr => ∃ j : Nat, j ≤ n ∧ gn = n - j ∧ i = .int .i64 j ∧ Hid (∀ k g, k < j → F[k]? = some g → g.name ≠ nm) ∧ Hid (Below w.heap.size w wr))
  case atStart => exact ⟨0, by omega, by omega, by go_num, Lib.hid (fun k g h0 => by omega), Lib.hid (Below.refl _ _)⟩
  case round =>
    obtain ⟨j, hj, rfl, rfl, HG, HB⟩ := hrel
    by_cases hlt : j < n
    · obtain ⟨b, off, f, rfl, hbl, hf, c0, c1⟩ := (HS.out.below HB.out).at j hlt
      have HY := Lib.hid (show f.name = nm → FirstAt F nm 0 (j : Nat) from fun h => .inl ⟨j, f, Nat.zero_le _, rfl, hf, h, fun k g _ hk hg => HG.out k g hk hg⟩)
      have HNX := Lib.hid (show f.name ≠ nm → ∀ k g, k < j + 1 → F[k]? = some g → g.name ≠ nm from fun h k g hk hg => by
        rcases Nat.lt_or_ge k j with h1 | h1
        · exact HG.out k g h1 hg
        · obtain rfl : k = j := by omega
          rw [hf] at hg
          cases hg
          exact h)
      obtain ⟨s, da, dn, dc, ds⟩ := f
      simp only at c0 c1 HY HNX
      have HC1 := Lib.hid (HC.out wr HB.out s da dn dc)
      have j1 : (j : Int) < n := by omega
      clear hf
      go_wp2_with fail
      refine HC1.out.mono ?_
      rintro e w2 ⟨rfl, hb2⟩
      have HB2 := Lib.hid (HB.out.trans (hb2.mono HB.out.size))
      clear hb2 HC1 c0 c1
      by_cases hx : s = nm
      · have HR := Lib.hid (HY.out hx)
        have ex : (s == nm) = true := by simp [hx]
        clear hx HY HNX
        go_wp2_with fail
        go_ret
        exact ⟨⟨_, rfl, HR.out⟩, HB2.out⟩
      · have HQ := Lib.hid (HNX.out hx)
        have ex : (s == nm) = false := by simp [hx]
        clear hx HY HNX
        go_wp2_with fail
        go_roundg (n - (j + 1))
        case measure => omega
        case rel => exact ⟨j + 1, by omega, rfl, by go_num, HQ, HB2⟩
    · obtain rfl : j = n := by omega
      have HR := Lib.hid (show FirstAt F nm 0 (-1) from .inr ⟨rfl, fun k g _ hg => HG.out k g (by rw [← HLn.out]; exact (List.getElem?_eq_some_iff.1 hg).1) hg⟩)
      go_wp2_with fail
      go_ret
      exact ⟨⟨_, rfl, HR.out⟩, HB.out⟩
/-- What Find answers. -/
def FindRet (F : List IW) (nm : List UInt8) (w : World) (e : Ending) (w' : World) : Prop :=
  ∃ r : Int, FirstAt F nm 0 r ∧ Below w.heap.size w w' ∧ ((r = -1 ∧ e = .returned (.tuple #[.slice none 0 0, .bool false])) ∨ ∃ (i : Nat) (f : IW) (a : Option Addr) (m c : Nat), r = i ∧ F[i]? = some f ∧ e = .returned (.tuple #[.slice a m c, .bool true]) ∧ Sl encB w' a m f.data ∧ m ≤ c)
set_option maxHeartbeats 4000000 in
set_option maxRecDepth 100000 in
theorem Find_any (w : World) (a : Option Addr) (n cap : Nat) (F : List IW) (nm : List UInt8) (hs : Im w a n F) (hd : ∀ f ∈ F, Sl encB w f.da f.dn f.data ∧ f.dn ≤ f.dc ∧ f.dn ≤ 1000000) (hn : n ≤ 65536) :
    Calls Try.prog 15 #[.slice a n cap, .string ⟨nm.toArray⟩] w (FindRet F nm w) := by
  have HS := Lib.hid hs
  have HD := Lib.hid hd
  have hal : Below w.heap.size w (w.alloc (.cells #[.string ⟨nm.toArray⟩] 9)) := (Below.refl _ _).alloc (Nat.le_refl _) _
  have HAL := Lib.hid hal
  have HX := Lib.hid (indexItem_any (w.alloc (.cells #[.string ⟨nm.toArray⟩] 9)) a n cap F nm w.heap.size (hs.below hal) hn (by rw [cell_of_row _ _ 0 _ _ _ (heap_alloc_last w _)]; rfl))
  clear hs hd hal
  go_enter Try.func15, Try.ntmps15
  go_wp2_with fail
  refine HX.out.mono ?_
  rintro e w2 ⟨⟨r, rfl, hr⟩, hb2⟩
  have HB2 := Lib.hid (HAL.out.trans (hb2.mono HAL.out.size))
  have HR := Lib.hid hr
  clear HX hb2
  rcases hr with ⟨i, f, _, rfl, hf, hnm, _⟩ | ⟨rfl, _⟩
  · have hi : i < n := by
      have h1 := (List.getElem?_eq_some_iff.1 hf).1
      rw [HS.out.1] at h1
      exact h1
    obtain ⟨b, off, g, rfl, hbl, hg, c0, c1⟩ := (HS.out.below HB2.out).at i hi
    rw [hf] at hg
    cases hg
    obtain ⟨hfs, hfc, hfn⟩ := HD.out f (List.mem_of_getElem? hf)
    have HFS := Lib.hid (hfs.below HB2.out)
    have HFE := Lib.hid hf
    have i1 : (i : Int) < n := by omega
    have i0 : decide ((i : Int) < 0) = false := by simp
    clear hfs hf hnm
    have HCL := Lib.hid (fun w' (hb : Below w2.heap.size w2 w') => Clone_any w' f.da f.dn f.dc f.data (HFS.out.below hb) (by omega))
    go_wp2_with fail
    refine (HCL.out _ (Below.refl _ _)).mono ?_
    rintro e w3 ⟨v3, m3, rfl, ho3, hb3⟩
    obtain ⟨a3, c3, rfl, hs3, hc3⟩ := Sl.ofOwn ho3
    have HS3 := Lib.hid hs3
    have HB3 := Lib.hid (HB2.out.trans (hb3.mono HB2.out.size))
    clear ho3 hs3 hb3 HCL c0 c1
    go_wp2_with fail
    go_ret2
    exact ⟨(i : Nat), HR.out, HB3.out, .inr ⟨i, f, a3, m3, c3, rfl, HFE.out, rfl, HS3.out, hc3⟩⟩
  · have i0 : decide ((-1 : Int) < 0) = true := by decide
    go_wp2_with fail
    go_ret2
    exact ⟨-1, HR.out, HB2.out, .inl ⟨rfl, rfl⟩⟩
end Go.Proofs.Ytaedohlfcbppaaa
