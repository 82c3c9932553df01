/- Lines in any order, with blanks and empty lines. No program in sight. No condition. -/
import Derived.Test.YtlpjcfiibbcdjaaGreatDoorJFix
namespace Go.Proofs.YtlpjcfiibbcdjaaGreatDoor
open Go.ChangeShapes Go.WideShapes Go.ChangeAt Go.RowKit
def preL (h : Nat) : List UInt8 := if h % 4 = 0 then [] else if h % 4 = 1 then [32] else if h % 4 = 2 then [10] else [32, 32]
def sufL (h : Nat) : List UInt8 := if h % 3 = 0 then [] else if h % 3 = 1 then [32, 32, 32] else [32]
def textL (j : JD) : Nat → List Nat → List UInt8
  | _, [] => []
  | h, i :: is => preL h ++ lineJ j i ++ sufL h ++ [10] ++ textL j (h + 1) is
def evsL (j : JD) : Nat → List Nat → List (Option (Nat × List UInt8))
  | _, [] => [none]
  | h, i :: is => (if h % 4 = 2 then [none] else []) ++ some (i, valJ j i) :: evsL j (h + 1) is
def AllIs : List (List UInt8) → List (Option (Nat × List UInt8)) → Prop
  | [], [] => True
  | x :: xs, e :: es => lineIs x e ∧ AllIs xs es
  | _, _ => False
theorem AllIs.len : ∀ {xs es}, AllIs xs es → xs.length = es.length
  | [], [], _ => rfl
  | x :: xs, e :: es, h => by simp [AllIs.len h.2]
  | [], _ :: _, h => h.elim
  | _ :: _, [], h => h.elim
theorem AllIs.at : ∀ {xs es}, AllIs xs es → ∀ (k : Nat) (x : List UInt8) (e : Option (Nat × List UInt8)), xs[k]? = some x → es[k]? = some e → lineIs x e
  | [], [], _, k, x, e, h1, _ => by simp at h1
  | x :: xs, e :: es, h, 0, x', e', h1, h2 => by
    simp at h1 h2
    obtain rfl := h1
    obtain rfl := h2
    exact h.1
  | x :: xs, e :: es, h, k + 1, x', e', h1, h2 => AllIs.at h.2 k x' e' (by simpa using h1) (by simpa using h2)
  | [], _ :: _, h, _, _, _, _, _ => h.elim
  | _ :: _, [], h, _, _, _, _, _ => h.elim
theorem suf_rep (h : Nat) : ∃ b, sufL h = List.replicate b 32 := by
  unfold sufL
  split
  · exact ⟨0, rfl⟩
  · split
    · exact ⟨3, rfl⟩
    · exact ⟨1, rfl⟩
theorem pre_rep (h : Nat) (hn : h % 4 ≠ 2) : ∃ a, preL h = List.replicate a 32 := by
  unfold preL
  rw [if_neg hn]
  split
  · exact ⟨0, rfl⟩
  · split
    · exact ⟨1, rfl⟩
    · exact ⟨2, rfl⟩
theorem no10_rep (a : Nat) : (10 : UInt8) ∉ List.replicate a (32 : UInt8) := fun h => by
  have := (List.mem_replicate.1 h).2
  revert this; decide
theorem lines_ok {j : JD} (ho : OkJ j) : ∀ (is : List Nat) (h : Nat), (∀ i ∈ is, i < 5) → AllIs (sp 10 (textL j h is)) (evsL j h is)
  | [], h, _ => ⟨trim_blank 0, trivial⟩
  | i :: is, h, hi => by
    have hi5 := hi i (by simp)
    have ih := lines_ok ho is (h + 1) (fun k hk => hi k (by simp [hk]))
    obtain ⟨b, hb⟩ := suf_rep h
    have h10 := line_no10 ho i hi5
    unfold textL evsL
    by_cases h2 : h % 4 = 2
    · rw [if_pos h2, show preL h = [10] by unfold preL; rw [if_neg (by omega), if_neg (by omega), if_pos h2], hb]
      rw [show [10] ++ lineJ j i ++ List.replicate b 32 ++ [10] ++ textL j (h + 1) is = [] ++ 10 :: ((lineJ j i ++ List.replicate b 32) ++ 10 :: textL j (h + 1) is) by simp]
      rw [sp_app 10 [] _ (by simp), sp_app 10 _ _ (by
        intro hm
        rcases List.mem_append.1 hm with h1 | h1
        · exact h10 h1
        · exact no10_rep b h1)]
      refine ⟨trim_blank 0, ⟨?_, hi5⟩, ih⟩
      have := trim_line i hi5 (valJ j i) (valJ_ok ho i).1 (valJ_ok ho i).2 0 b
      simpa [lineJ] using this
    · obtain ⟨a, ha⟩ := pre_rep h h2
      rw [if_neg h2, ha, hb]
      rw [show List.replicate a 32 ++ lineJ j i ++ List.replicate b 32 ++ [10] ++ textL j (h + 1) is = (List.replicate a 32 ++ lineJ j i ++ List.replicate b 32) ++ 10 :: textL j (h + 1) is by simp]
      rw [sp_app 10 _ _ (by
        intro hm
        rcases List.mem_append.1 hm with h1 | h1
        · rcases List.mem_append.1 h1 with h0 | h0
          · exact no10_rep a h0
          · exact h10 h0
        · exact no10_rep b h1)]
      refine ⟨⟨?_, hi5⟩, ih⟩
      exact trim_line i hi5 (valJ j i) (valJ_ok ho i).1 (valJ_ok ho i).2 a b
theorem evs_some (j : JD) : ∀ (is : List Nat) (h : Nat), (evsL j h is).filterMap id = is.map fun i => (i, valJ j i)
  | [], h => rfl
  | i :: is, h => by
    unfold evsL
    rw [List.filterMap_append]
    have : (if h % 4 = 2 then [none] else [] : List (Option (Nat × List UInt8))).filterMap id = [] := by split <;> rfl
    rw [this, List.nil_append, List.filterMap_cons]
    simp only [id]
    rw [evs_some j is (h + 1)]
    rfl
theorem textL_len (j : JD) (hf : FitJ j) : ∀ (is : List Nat) (h : Nat), (∀ i ∈ is, (lineJ j i).length ≤ 1000) → (textL j h is).length ≤ 1010 * is.length
  | [], h, _ => by simp [textL]
  | i :: is, h, hi => by
    have ih := textL_len j hf is (h + 1) (fun k hk => hi k (by simp [hk]))
    have hl := hi i (by simp)
    have hp : (preL h).length ≤ 2 := by unfold preL; (repeat' split) <;> simp
    have hs : (sufL h).length ≤ 3 := by unfold sufL; (repeat' split) <;> simp
    unfold textL
    simp only [List.length_append, List.length_cons, List.length_nil]
    omega
/-- Lines in any order, blanks and empty lines: read as they were. -/
theorem Parse_lines (w : World) (j : JD) (hok : okJ j = true) (hh : j.hash.length = 32) (hv : VW w) (is : List Nat) (h : Nat) (hp : is.Perm [4, 3, 2, 1, 0]) :
    Calls Tryz.prog 10 #[.string ⟨(textL j h is).toArray⟩] w fun e w' => e = .returned (.tuple #[j.val, .int .i64 0]) ∧ Below w.heap.size w w' := by
  have ho := okJ_of hok hh
  have hf := okJ_fit hok hh
  have hi5 : ∀ i ∈ is, i < 5 := fun i hi => by
    have := hp.subset hi
    simp at this
    omega
  have hal := lines_ok ho is h hi5
  obtain ⟨y, hrun, hy⟩ := run_perm ho (evsL j h is) [4, 3, 2, 1, 0] zeroJ (by decide) (by decide) (by rw [evs_some]; exact hp.map _) (fun i hi hno => absurd (by
      have : i = 0 ∨ i = 1 ∨ i = 2 ∨ i = 3 ∨ i = 4 := by omega
      rcases this with rfl | rfl | rfl | rfl | rfl <;> simp) hno)
  obtain rfl := parts_all hy
  refine Parse_any w _ _ [] y y 0 ?_ hal.len (fun k x e hx he => hal.at k x e hx he) hrun (by have := hf.n; omega) (by have := hf.m; omega) (.inl ⟨rfl, hok, rfl, rfl⟩) hv
  have hlen := textL_len y hf is h (fun i hi => by
    have hl := text_len hf
    rw [text_cut] at hl
    simp only [List.length_append, List.length_cons] at hl
    have := hi5 i hi
    have : i = 0 ∨ i = 1 ∨ i = 2 ∨ i = 3 ∨ i = 4 := by omega
    rcases this with rfl | rfl | rfl | rfl | rfl <;> omega)
  rw [hp.length_eq] at hlen
  simp at hlen
  omega
end Go.Proofs.YtlpjcfiibbcdjaaGreatDoor
