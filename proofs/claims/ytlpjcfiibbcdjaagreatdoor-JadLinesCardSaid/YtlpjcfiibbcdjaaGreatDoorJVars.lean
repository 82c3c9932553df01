/- What the variables hold that jad's calls read; the library's calls under one form. No condition. -/
import Derived.Test.YtlpjcfiibbcdjaaGreatDoorShelf
import Derived.Test.YtlpjcfiibbcdjaaGreatDoorNumFn
import Derived.Sort.Grow
import Derived.Lib.Split
import Derived.Lib.CutLaws
import Derived.Lib.AtoiErrMem
namespace Go.Proofs.YtlpjcfiibbcdjaaGreatDoor
open Go.ChangeShapes Go.WideShapes Go.ChangeAt Go.RowKit
/-- What is laid: internal/bytealg.MaxLen's block, the powers of ten, strconv's two errors. -/
structure VW (w : World) : Prop where
  m : ∃ m, w.cell? ⟨0, 0, none⟩ = some (.int .i64 m)
  tab : Lib.TabIs Tryz.prog w "internal/strconv.uint64pow10" .u64 Lib.pow10Tab
  syn : ∃ tp p, w.var? Tryz.prog "strconv.ErrSyntax" = some #[.iface tp p]
  rng : ∃ tp p, w.var? Tryz.prog "strconv.ErrRange" = some #[.iface tp p]
theorem glob_some {w : World} {n : String} {cs : Array Value} (h : w.var? Tryz.prog n = some cs) : ∃ g, Tryz.prog.globalNamed n = some g := by
  unfold World.var? at h
  cases hg : Tryz.prog.globalNamed n with
  | none => rw [hg] at h; simp at h
  | some g => exact ⟨g, rfl⟩
theorem cell_below {w w' : World} {a : Addr} {v : Value} (h : w.cell? a = some v) (hb : Below w.heap.size w w') : w'.cell? a = some v := by
  have hlt : a.block < w.heap.size := by
    rcases Nat.lt_or_ge a.block w.heap.size with h1 | h1
    · exact h1
    · exfalso
      have : w.heap[a.block]? = none := Array.getElem?_eq_none (by omega)
      simp [World.cell?, this] at h
  rw [← h]
  unfold World.cell?
  rw [hb.block _ hlt]
theorem var_below {w w' : World} {n : String} {cs : Array Value} (h : w.var? Tryz.prog n = some cs) (hb : Below w.heap.size w w') : w'.var? Tryz.prog n = some cs := by
  unfold World.var? at h ⊢
  cases hg : Tryz.prog.globalNamed n with
  | none => rw [hg] at h; simp at h
  | some g =>
    rw [hg] at h
    simp only [Option.bind_some] at h ⊢
    have hlt : g < w.heap.size := by
      rcases Nat.lt_or_ge g w.heap.size with h1 | h1
      · exact h1
      · exfalso
        rw [Array.getElem?_eq_none (by omega)] at h
        simp at h
    rw [hb.block g hlt]
    exact h
theorem TabIs_belowJ {n : String} {g : Nat} {k : IntKind} {zs : List Int} {w w' : World} (hg : Tryz.prog.globalNamed n = some g) (h : Lib.TabIs Tryz.prog w n k zs) (hb : Below w.heap.size w w') : Lib.TabIs Tryz.prog w' n k zs := var_below h hb
theorem VW.below {w w' : World} (h : VW w) (hb : Below w.heap.size w w') : VW w' := by
  obtain ⟨⟨m, hm⟩, ht, ⟨tp, p, hs⟩, ⟨tp2, p2, hr⟩⟩ := h
  obtain ⟨g, hg⟩ := glob_some ht
  exact ⟨⟨m, cell_below hm hb⟩, TabIs_belowJ hg ht hb, ⟨tp, p, var_below hs hb⟩, ⟨tp2, p2, var_below hr hb⟩⟩
theorem below_dn (w : World) : ∀ n, Below w.heap.size w (w.drewN n)
  | 0 => Below.refl _ _
  | n + 1 => (below_dn w n).drew
theorem dn_heap (w : World) : ∀ n, (w.drewN n).heap = w.heap
  | 0 => rfl
  | n + 1 => dn_heap w n
theorem Itoa_any (w : World) (n : Int) (h0 : -9223372036854775808 ≤ n) (h1 : n ≤ 9223372036854775807) (hv : VW w) :
    Calls Tryz.prog 19 #[.int .i64 n] w fun e w' => e = .returned (.string ⟨(Lib.itoa n).toArray⟩) ∧ Below w.heap.size w w' := by
  refine (Tryz.strconv_Itoa n h0 h1 w hv.tab).mono ?_
  rintro e w' ⟨rfl, k, os, rfl⟩
  refine ⟨rfl, (below_dn w k).trans ⟨rfl, rfl, rfl, by simp [Sort.grow], fun b hb => ?_⟩⟩
  have : b < (w.drewN k).heap.size := by rw [dn_heap]; exact hb
  simp only [Sort.grow]
  rw [Array.getElem?_append_left this]
theorem bytes_str (s : ByteArray) : (⟨s.data.toList.toArray⟩ : ByteArray) = s := by cases s; simp
/-- Cut at each c. -/
def sp (c : UInt8) : List UInt8 → List (List UInt8)
  | [] => [[]]
  | b :: l => if b = c then [] :: sp c l else match sp c l with | [] => [[b]] | x :: xs => (b :: x) :: xs
theorem index_one_nil (c : UInt8) : Lib.index [] [c] = -1 := by unfold Lib.index; simp
theorem index_one_cons (b c : UInt8) (l : List UInt8) : Lib.index (b :: l) [c] = if b = c then 0 else if Lib.index l [c] = -1 then -1 else Lib.index l [c] + 1 := by
  rw [Lib.index]
  by_cases h : b = c
  · subst h; simp
  · have : ¬ c = b := fun e => h e.symm
    simp [h, this]
theorem sp_miss (c : UInt8) : ∀ s, Lib.index s [c] = -1 → sp c s = [s]
  | [], _ => rfl
  | b :: l, h => by
    rw [index_one_cons] at h
    split at h
    · cases h
    · next hb =>
      have hg := Lib.index_ge l [c]
      split at h
      · next h1 => simp [sp, hb, sp_miss c l h1]
      · omega
theorem sp_hit (c : UInt8) : ∀ s (i : Nat), Lib.index s [c] = i → sp c s = s.take i :: sp c (s.drop (i + 1))
  | [], i, h => by rw [index_one_nil] at h; omega
  | b :: l, i, h => by
    rw [index_one_cons] at h
    split at h
    · next hb => have : i = 0 := by omega
                 subst this; simp [sp, hb]
    · next hb =>
      have hg := Lib.index_ge l [c]
      split at h
      · omega
      · obtain ⟨k, rfl⟩ : ∃ k, i = k + 1 := ⟨i - 1, by omega⟩
        simp [sp, hb, sp_hit c l k (by omega)]
theorem split_sp (c : UInt8) : ∀ (n : Nat) (s : List UInt8), s.length ≤ n → Lib.splitK [c] 0 (Lib.count s [c]) s = sp c s ∧ (sp c s).length = Lib.count s [c] + 1 := by
  intro n
  induction n with
  | zero =>
    intro s h
    have : s = [] := List.eq_nil_of_length_eq_zero (by omega)
    subst this
    rw [Lib.count_miss (index_one_nil c)]
    exact ⟨rfl, rfl⟩
  | succ n ih =>
    intro s h
    by_cases h1 : Lib.index s [c] = -1
    · rw [Lib.count_miss h1, sp_miss c s h1]; exact ⟨rfl, rfl⟩
    · have hg := Lib.index_ge s [c]
      obtain ⟨i, hi⟩ : ∃ i : Nat, Lib.index s [c] = i := ⟨(Lib.index s [c]).toNat, by omega⟩
      have hne : 0 < s.length := by
        rcases Nat.eq_zero_or_pos s.length with h0 | h0
        · have : s = [] := List.eq_nil_of_length_eq_zero h0
          subst this; exact absurd (index_one_nil c) h1
        · exact h0
      obtain ⟨e1, e2⟩ := ih (s.drop (i + 1)) (by rw [List.length_drop]; omega)
      rw [Lib.count_hit (by simp) hi, sp_hit c s i hi]
      constructor
      · rw [Nat.add_comm, Lib.splitK, if_neg (by simp [hi]), hi]
        simp only [Int.toNat_natCast, Nat.add_zero, List.length_singleton]
        rw [e1]
      · simp only [List.length_cons, List.length_nil, Nat.zero_add]
        rw [e2]; omega
/-- strings.Split at one byte. -/
theorem Split_any (w : World) (s : List UInt8) (c : UInt8) (hs : s.length ≤ 4294967000) (hv : VW w) :
    Calls Tryz.prog 28 #[.string ⟨s.toArray⟩, .string ⟨#[c]⟩] w fun e w' =>
      e = .returned (.slice (some ⟨w.heap.size, 0, none⟩) (sp c s).length (sp c s).length) ∧ w' = w.alloc (.cells ((sp c s).map fun x => Value.string ⟨x.toArray⟩).toArray 9) := by
  obtain ⟨m, hm⟩ := hv.m
  refine (Tryz.strings_Split ⟨s.toArray⟩ ⟨#[c]⟩ m w (by simp [ByteArray.size]; omega) hm (Nat.le_refl 1)).mono ?_
  rintro e w' ⟨rfl, rfl⟩
  obtain ⟨e1, e2⟩ := split_sp c s.length s (Nat.le_refl _)
  have e3 := Lib.splitB_data ⟨#[c]⟩ 0 (Lib.countB ⟨s.toArray⟩ ⟨#[c]⟩) ⟨s.toArray⟩
  have e4 : (Lib.splitB ⟨#[c]⟩ 0 (Lib.countB ⟨s.toArray⟩ ⟨#[c]⟩) ⟨s.toArray⟩).map Value.string = (sp c s).map fun x => Value.string ⟨x.toArray⟩ := by
    rw [← e1]
    rw [show Lib.splitK [c] 0 (Lib.count s [c]) s = _ from e3.symm, List.map_map]
    refine List.map_congr_left fun x _ => ?_
    simp [bytes_str]
  rw [e2]
  exact ⟨rfl, by rw [e4]⟩
theorem cut_miss (c : UInt8) (s : List UInt8) (h : Lib.index s [c] = -1) : Lib.cut s [c] = (s, [], false) := by unfold Lib.cut; rw [if_neg (by omega)]
theorem cut_hit (c : UInt8) (s : List UInt8) (i : Nat) (h : Lib.index s [c] = i) : Lib.cut s [c] = (s.take i, s.drop (i + 1), true) := by unfold Lib.cut; rw [if_pos (by omega), h]; simp
theorem Cut_any (w : World) (s : List UInt8) (c : UInt8) (hs : s.length ≤ 4294967000) (hv : VW w) :
    Calls Tryz.prog 30 #[.string ⟨s.toArray⟩, .string ⟨#[c]⟩] w fun e w' =>
      e = .returned (.tuple #[.string ⟨(Lib.cut s [c]).1.toArray⟩, .string ⟨(Lib.cut s [c]).2.1.toArray⟩, .bool (Lib.cut s [c]).2.2]) ∧ Below w.heap.size w w' ∧ w'.heap = w.heap := by
  obtain ⟨m, hm⟩ := hv.m
  refine (Tryz.strings_Cut ⟨s.toArray⟩ ⟨#[c]⟩ m w (by simp [ByteArray.size]; omega) hm).mono ?_
  rintro e w' ⟨rfl, n, rfl⟩
  exact ⟨rfl, below_dn w n, dn_heap w n⟩
theorem Trim_any (w : World) (s : List UInt8) (hs : s.length ≤ 4294967000) :
    Calls Tryz.prog 29 #[.string ⟨s.toArray⟩, .string ⟨#[32]⟩] w fun e w' => e = .returned (.string ⟨(Lib.trimB s 32).toArray⟩) ∧ Below w.heap.size w w' ∧ w'.heap = w.heap := by
  refine (Tryz.strings_Trim_one ⟨s.toArray⟩ 32 (by decide) w (by simp [ByteArray.size]; omega)).mono ?_
  rintro e w' ⟨rfl, rfl | rfl⟩
  · exact ⟨rfl, Below.refl _ _, rfl⟩
  · exact ⟨rfl, (Below.refl _ _).drew, rfl⟩
theorem Join_any (w : World) (g c : Nat) (xs : List (List UInt8)) (sep : List UInt8) (hc : ∀ (j : Nat) x, xs[j]? = some x → w.cell? ⟨g, j, none⟩ = some (.string ⟨x.toArray⟩)) (hg : g < w.heap.size) (hn : xs.length ≤ c) (hN : xs.length ≤ 1000000) (hl : (Lib.join xs sep).length ≤ 140737488355328) :
    Calls Tryz.prog 18 #[.slice (some ⟨g, 0, none⟩) xs.length c, .string ⟨sep.toArray⟩] w fun e w' => e = .returned (.string ⟨(Lib.join xs sep).toArray⟩) ∧ Below w.heap.size w w' := by
  have e : (xs.map fun x => (⟨x.toArray⟩ : ByteArray)).map (fun b => b.data.toList) = xs := by rw [List.map_map]; simp [Function.comp_def]
  have := Tryz.strings_Join g 0 c (xs.map fun x => (⟨x.toArray⟩ : ByteArray)) ⟨sep.toArray⟩ w (fun j x hx => by
    rw [List.getElem?_map] at hx
    cases h : xs[j]? with
    | none => rw [h] at hx; cases hx
    | some y => rw [h] at hx; cases hx; rw [Nat.zero_add]; exact hc j y h) hg (by simp; omega) (by simp; omega) (by rw [e]; exact hl)
  rw [e] at this
  simpa using this
/-- What strconv.Atoi gives. -/
def atoiV (s : List UInt8) : Int := match Lib.atoiAll s with | .ok v => v | .range => Lib.atoiSat s | _ => 0
def atoiOk (s : List UInt8) : Bool := match Lib.atoiAll s with | .ok _ => true | _ => false
def ErrIs (b : Bool) (v : Value) : Prop := if b then v = .nilIface else ∃ t N, v = .iface t (.pointer (some ⟨N, 0, none⟩))
theorem Atoi_any (w : World) (s : List UInt8) (hs : s.length ≤ 281474976710656) (hv : VW w) :
    Calls Tryz.prog 63 #[.string ⟨s.toArray⟩] w fun e w' => (∃ er, ErrIs (atoiOk s) er ∧ e = .returned (.tuple #[.int .i64 (atoiV s), er])) ∧ Below w.heap.size w w' := by
  rcases h : Lib.atoiAll s with v | _ | _
  · skip
    refine (Tryz.strconv_Atoi_ok ⟨s.toArray⟩ (by simp [ByteArray.size]; omega) v h w).mono ?_
    rintro e w' ⟨rfl, hw⟩
    refine ⟨⟨.nilIface, ?_, ?_⟩, ?_⟩
    · unfold atoiOk ErrIs; rw [h]; rfl
    · unfold atoiV; rw [h]
    · rcases hw with rfl | ⟨t, rfl⟩
      · exact Below.refl _ _
      · exact Lib.bytesWorld_below _ _ _
  · skip
    obtain ⟨tp, p, hs2⟩ := hv.syn
    refine (Tryz.strconv_Atoi_syntax_var ⟨s.toArray⟩ (by simp [ByteArray.size]; omega) (fun v e => by rw [h] at e; cases e) (fun e => by rw [h] at e; cases e) tp p w hs2).mono ?_
    rintro e w' ⟨N, rfl, _, _, hb⟩
    refine ⟨⟨.iface 119 (.pointer (some ⟨N, 0, none⟩)), ?_, ?_⟩, hb⟩
    · unfold atoiOk ErrIs; rw [h]; exact ⟨_, _, rfl⟩
    · unfold atoiV; rw [h]
  · skip
    obtain ⟨tp, p, hs2⟩ := hv.rng
    refine (Tryz.strconv_Atoi_range_var ⟨s.toArray⟩ (by simp [ByteArray.size]; omega) h tp p w hs2).mono ?_
    rintro e w' ⟨N, rfl, _, _, hb⟩
    refine ⟨⟨.iface 119 (.pointer (some ⟨N, 0, none⟩)), ?_, ?_⟩, hb⟩
    · unfold atoiOk ErrIs; rw [h]; exact ⟨_, _, rfl⟩
    · unfold atoiV; rw [h]
theorem Cmp_any (w : World) (x y : Int) : Calls Tryz.prog 64 #[.int .i64 x, .int .i64 y] w fun e w' => e = .returned (.int .i64 (Lib.compareInt x y)) ∧ w' = w := Tryz.cmp_Compare_int x y w
theorem str_app (xs ys : List UInt8) : ((⟨xs.toArray⟩ : ByteArray) ++ (⟨ys.toArray⟩ : ByteArray)) = ⟨(xs ++ ys).toArray⟩ := by
  apply ByteArray.ext
  simp
end Go.Proofs.YtlpjcfiibbcdjaaGreatDoor
