/- jar: names all unlike, and sizes, plain. No program in sight. -/
import Derived.Test.YtaedohlfcbppaaaJarUnpack
namespace Go.Proofs.Ytaedohlfcbppaaa
open Go.RowKit
theorem tidy_names (L : List (List UInt8)) : Maps.Tidy (namesD L) := by
  unfold namesD
  suffices h : ∀ (L : List (List UInt8)) (D : DataW Unit), Maps.Tidy D → Maps.Tidy (L.foldl (fun D s => D.put (.string s) (.lit (.bool true))) D) from h L _ ⟨[], rfl, List.Pairwise.nil⟩
  intro L
  induction L with
  | nil => intro D h; exact h
  | cons s L ih => intro D h; exact ih _ (h.put (by trivial) _)
theorem has_names (L : List (List UInt8)) (s : List UInt8) : Maps.has (namesD L) (.string s) = decide (s ∈ L) := by
  unfold namesD
  suffices h : ∀ (L : List (List UInt8)) (D : DataW Unit), Maps.IsMap D → Maps.has (L.foldl (fun D s => D.put (.string s) (.lit (.bool true))) D) (.string s) = (Maps.has D (.string s) || decide (s ∈ L)) from by
    rw [h L _ Maps.isMap_empty]; rfl
  intro L
  induction L with
  | nil => intro D h; simp
  | cons r L ih =>
    intro D h
    rw [List.foldl_cons, ih _ (h.put _ _)]
    by_cases h2 : r = s
    · subst h2
      rw [Maps.has_put_same h (by trivial)]
      simp
    · rw [Maps.has_put_other (by intro e; cases e; exact h2 rfl)]
      have h3 : ¬ s = r := fun e => h2 e.symm
      simp [h3]
theorem size_names (L : List (List UInt8)) (s : List UInt8) : Maps.size (namesD (L ++ [s])) = if s ∈ L then Maps.size (namesD L) else Maps.size (namesD L) + 1 := by
  have h : namesD (L ++ [s]) = (namesD L).put (.string s) (.lit (.bool true)) := by unfold namesD; rw [List.foldl_append]; rfl
  rw [h, Maps.size_put (tidy_names L), has_names]
  by_cases hs : s ∈ L <;> simp [hs]
theorem size_nodup : ∀ (n : Nat) (L : List (List UInt8)), L.length = n → Maps.size (namesD L) ≤ n ∧ (Maps.size (namesD L) = n ↔ L.Nodup) := by
  intro n
  induction n with
  | zero =>
    intro L h
    obtain rfl := List.eq_nil_of_length_eq_zero h
    exact ⟨Nat.le_refl _, fun _ => List.nodup_nil, fun _ => rfl⟩
  | succ n ih =>
    intro L h
    rcases List.eq_nil_or_concat L with rfl | ⟨M, s, rfl⟩
    · simp at h
    · have hm : M.length = n := by simp at h; omega
      obtain ⟨h1, h2⟩ := ih M hm
      have h3 : (M ++ [s]).Nodup ↔ M.Nodup ∧ ¬ s ∈ M := by
        rw [List.nodup_append]
        constructor
        · rintro ⟨a, _, c⟩
          exact ⟨a, fun hs => c s hs s (by simp) rfl⟩
        · rintro ⟨a, c⟩
          exact ⟨a, by simp, fun x hx y hy e => by rw [List.mem_singleton.1 hy] at e; subst e; exact c hx⟩
      rw [List.concat_eq_append, size_names, h3]
      by_cases hs : s ∈ M
      · rw [if_pos hs]
        exact ⟨by omega, fun e => by omega, fun e => absurd hs e.2⟩
      · rw [if_neg hs]
        exact ⟨by omega, fun e => ⟨h2.1 (by omega), hs⟩, fun e => by have := h2.2 e.1; omega⟩
theorem apart_size (l : List IV) : apartB l = decide (¬ Maps.size (namesD (l.map (·.name))) < l.length) := by
  obtain ⟨h1, h2⟩ := size_nodup l.length (l.map (·.name)) (by simp)
  unfold apartB
  refine decide_eq_decide.2 ⟨fun h => by have := h2.2 h; omega, fun h => h2.1 (by omega)⟩
/-- How many bytes a jar has, reckoned. -/
def jarN (l : List IV) : Nat := 5 + (l.map fun x => 9 + x.name.length + x.data.length).sum
theorem iv_length (x : IV) : x.bytes.length = 9 + x.name.length + x.data.length := by
  unfold IV.bytes
  simp only [List.length_append, putB_length]
  omega
theorem jar_length (l : List IV) : (jarB l).length = jarN l := by
  unfold jarB jarN magicB
  rw [List.length_append, List.length_append]
  have : (l.flatMap IV.bytes).length = (l.map fun x => 9 + x.name.length + x.data.length).sum := by
    induction l with
    | nil => rfl
    | cons x l ih => rw [List.flatMap_cons, List.length_append, iv_length, ih]; simp
  rw [this]; rfl
theorem jarN_snoc (l : List IV) (x : IV) : jarN (l ++ [x]) = jarN l + (9 + x.name.length + x.data.length) := by
  unfold jarN; simp; omega
/-- What the sum of sizes tells, though it is cut. -/
def SizeOk (s T : Nat) : Prop := (T ≤ 65536 → s = T) ∧ (65536 < T → 65536 < s) ∧ s ≤ 131072
theorem SizeOk.step {s T a b : Nat} (h : SizeOk s T) : SizeOk (min (s + 9 + a + min b 65536) 131072) (T + (9 + a + b)) := by
  obtain ⟨h1, h2, h3⟩ := h
  refine ⟨fun h => ?_, fun h => ?_, by omega⟩
  · have := h1 (by omega); omega
  · by_cases hT : T ≤ 65536
    · have := h1 hT; omega
    · have := h2 (by omega); omega
theorem pack_name {l : List IV} {x : IV} (hx : x ∈ l) (h : nameOk x.name = false) : packR l = (13, []) := by
  unfold packR
  rw [if_pos]
  rw [List.all_eq_false]
  exact ⟨x, hx, by rw [h]; decide⟩
theorem pack_apart {l : List IV} (h : ∀ x ∈ l, nameOk x.name = true) (ha : apartB l = false) : packR l = (12, []) := by
  unfold packR
  rw [if_neg (by rw [List.all_eq_true.2 h]; decide), if_pos ha]
theorem pack_long {l : List IV} (h : ∀ x ∈ l, nameOk x.name = true) (ha : apartB l = true) (hl : 40 < l.length ∨ 65536 < jarN l) : packR l = (9, []) := by
  unfold packR
  rw [if_neg (by rw [List.all_eq_true.2 h]; decide), if_neg (by rw [ha]; decide), jar_length, if_pos hl]
theorem pack_ok {l : List IV} (h : ∀ x ∈ l, nameOk x.name = true) (ha : apartB l = true) (hl : ¬ (40 < l.length ∨ 65536 < jarN l)) : packR l = (0, jarB l) := by
  unfold packR
  rw [if_neg (by rw [List.all_eq_true.2 h]; decide), if_neg (by rw [ha]; decide), jar_length, if_neg hl]
end Go.Proofs.Ytaedohlfcbppaaa
