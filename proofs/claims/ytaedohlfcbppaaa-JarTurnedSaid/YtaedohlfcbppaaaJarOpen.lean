/- jar: items that came in; the reference's Few. No condition. -/
import Derived.Test.YtaedohlfcbppaaaJarRef5
import Derived.Test.YtaedohlfcbppaaaJarPlain5
import Derived.Test.YtaedohlfcbppaaaBytesOpen
namespace Go.Proofs.Ytaedohlfcbppaaa
open Go.ChangeShapes Go.WideShapes Go.ChangeAt Go.RowKit Go.Joins Go.Deep
theorem list_ofJ {α : Type} (n : Nat) (P : Nat → α → Prop) (h : ∀ i, i < n → ∃ x, P i x) : ∃ L : List α, L.length = n ∧ ∀ i (hi : i < L.length), P i L[i] := by
  induction n with
  | zero => exact ⟨[], rfl, fun i hi => by simp at hi⟩
  | succ n ih =>
    obtain ⟨L, hl, hL⟩ := ih (fun i hi => h i (by omega))
    obtain ⟨x, hx⟩ := h n (by omega)
    refine ⟨L ++ [x], by simp [hl], fun i hi => ?_⟩
    by_cases hin : i < L.length
    · rw [List.getElem_append_left hin]; exact hL i hin
    · have : i = n := by simp at hi; omega
      subst this
      rw [List.getElem_append_right (by omega)]
      simpa [hl] using hx
/-- An item that came in. -/
def IWf (w : World) (f : IW) : Prop := Sl encB w f.da f.dn f.data ∧ f.dn ≤ f.dc ∧ f.name.length ≤ 9223372036854775807 ∧ f.dn ≤ 9223372036854775807
/-- A slice of items that came in. -/
def IsItems (w : World) (a : Option Addr) (n cap : Nat) : Prop := n ≤ cap ∧ n ≤ maxLen ∧ ∃ F, Im w a n F ∧ ∀ f ∈ F, IWf w f
section
variable {H : Type} {enc : TypeId × Value → H} {w : World} {r : Reach} {b0 : Nat} {v : Value} {d : DataW H} {p : List MemPlace}
theorem str_ofJ {fuel : Nat} {v : Value} {x : DataW H × List MemPlace} (hf : DataW.trod enc Try.prog w 0 (fun _ => true) true fuel 9 [v] = some x) : ∃ s : List UInt8, v = .string ⟨s.toArray⟩ ∧ s.length ≤ 9223372036854775807 := by
  obtain ⟨n, hcs, _, h2⟩ := DataW.trod_string Try.underlying9 hf
  simp at hcs
  unfold maxLen at h2
  exact ⟨n.data.toList, by rw [hcs], by rw [Array.length_toList]; exact h2⟩
theorem add_twoJ (b off k j : Nat) : ((⟨b, off, none⟩ : Addr).add k).add j = ⟨b, off + k + j, none⟩ := by rw [addr_add, addr_add]
theorem add_zeroJ (x : Addr) (k : Nat) : (x.add (0 * k)).add 0 = x := by simp [Addr.add]
theorem cells_item2 : Try.prog.cellsOf 36 = 2 := by kernel_rfl
theorem open_items (hv : Value.okWide Try.prog w r b0 24 v) (h : DataW.Trod enc Try.prog w 0 (fun _ => true) true 24 v d p) : ∃ a n cap, v = .slice a n cap ∧ IsItems w a n cap := by
  obtain ⟨a, n, cap, rfl⟩ := okWide_slice Try.underlying24 hv
  refine ⟨a, n, cap, rfl, ?_⟩
  obtain ⟨fuel, hf⟩ := h
  rcases open_slice Try.underlying24 hf with ⟨hcs, _⟩ | ⟨x, len, c, m, n', D, Pl, hcs, _, hl, hm, hmm, _, hi⟩
  · simp [Value.cells] at hcs
    obtain ⟨rfl, rfl, rfl⟩ := hcs
    exact ⟨by omega, by unfold maxLen; omega, [], Ss.nil _ _, fun c hc => by cases hc⟩
  · simp [Value.cells] at hcs
    obtain ⟨rfl, rfl, rfl⟩ := hcs
    simp only [if_true] at hmm
    subst hmm
    refine ⟨hl, by omega, ?_⟩
    by_cases hn : 0 < n
    · have hsp : x.spot = none := by
        obtain ⟨cs', hc, ht⟩ := hi 0 (by omega)
        rw [cells_item2] at hc
        obtain ⟨_, hcl, hat⟩ := World.cells?_some hc
        match cs', hcl with
        | [c0, c1], _ =>
          have q0 := hat 0 (by omega)
          rw [add_zeroJ] at q0
          exact World.cell?_spot q0
      obtain ⟨b, off, spot⟩ := x
      simp only at hsp
      subst hsp
      have key : ∀ i, i < n → ∃ c : IW, (∀ j, j < 2 → w.cell? ⟨b, off + i * 2 + j, none⟩ = c.cells[j]?) ∧ IWf w c := by
        intro i hin
        obtain ⟨cs', hc, ht⟩ := hi i (by omega)
        rw [cells_item2] at hc
        obtain ⟨_, hcl, hat⟩ := World.cells?_some hc
        match cs', hcl with
        | [c0, c1], _ =>
          obtain ⟨xs, k, _, _, _, hlen, hg⟩ := DataW.trod_struct Try.underlying36 ht
          match xs, hlen with
          | [y0, y1], _ =>
            have g0 : DataW.trod enc Try.prog w 0 (fun _ => true) true k 9 [c0] = some y0 := hg 0 _ rfl
            have g1 : DataW.trod enc Try.prog w 0 (fun _ => true) true k 22 [c1] = some y1 := hg 1 _ rfl
            obtain ⟨s, rfl, hs⟩ := str_ofJ g0
            obtain ⟨ad, m, cm, z, rfl, hr⟩ := row_of g1
            have hcap := Row.cap hr
            obtain ⟨ds, hds, hml⟩ := Bs.ofRow hr
            refine ⟨⟨s, ad, m, cm, ds⟩, fun j hj => ?_, hds.sl, hcap, hs, by unfold maxLen at hml; exact hml⟩
            have q := hat j (by omega)
            rw [add_twoJ] at q
            exact q
      obtain ⟨L, hL, hat⟩ := list_ofJ n _ key
      refine ⟨L, ⟨hL, fun _ => ⟨b, off, rfl, ?_, fun i hi j hj => (hat i hi).1 j hj⟩⟩, fun c hc => ?_⟩
      · have q := (hat 0 (by omega)).1 0 (by omega)
        exact World.block_lt_of_cell? w _ q
      · obtain ⟨i, hi, rfl⟩ := List.getElem_of_mem hc
        exact (hat i hi).2
    · have h0 : n = 0 := by omega
      subst h0
      exact ⟨[], Ss.nil _ _, fun c hc => by cases hc⟩
end
theorem nat_min (a b : Nat) : ((min a b : Nat) : Int) = min (a : Int) b := by omega
set_option maxRecDepth 100000 in
set_option maxHeartbeats 8000000 in
theorem Few_any (w : World) (a : Option Addr) (n cap : Nat) (F : List IW) (hs : Im w a n F) (hl : ∀ f ∈ F, f.name.length ≤ 9223372036854775807 ∧ f.dn ≤ 9223372036854775807) :
    Calls Try.prog 14 #[.slice a n cap] w fun e w' => (∃ b, e = .returned (.bool b) ∧ (b = true → n ≤ 60 ∧ ∀ f ∈ F, f.dn ≤ 70000)) ∧ Below w.heap.size w w' := by
  have HS := Lib.hid hs
  have HLn := Lib.hid hs.1
  have HL := Lib.hid hl
  clear hs hl
  by_cases h60 : 60 < n
  · have e1 : decide ((60 : Int) < n) = true := by simp; omega
    clear h60
    go_enter Try.func14, Try.ntmps14
    go_wp2_with fail
    go_ret
    exact ⟨⟨false, rfl, fun h => by cases h⟩, Below.refl _ _⟩
  have e1 : decide ((60 : Int) < n) = false := by simp; omega
  have hn : n ≤ 60 := by omega
  clear h60
  go_enter Try.func14, Try.ntmps14
  go_wp2_with fail
  go_loopg [11, 3] n (fun gn i v wr => ∃ j s : Nat, j ≤ n ∧ gn = n - j ∧ i = .int .i64 j ∧ v = .int .i64 s ∧ s ≤ j * 101000 ∧ Hid (∀ k f, k < j → F[k]? = some f → min f.dn 100000 ≤ s) ∧ Hid (Below w.heap.size w wr))
  case atStart => exact ⟨0, 0, by omega, by omega, by go_num, rfl, by omega, Lib.hid (fun k f h => by omega), Lib.hid (Below.refl _ _)⟩
  case round =>
    obtain ⟨j, s, hj, rfl, rfl, rfl, hs, HG, HB⟩ := hrel
    by_cases hlt : j < n
    · obtain ⟨b, off, f, rfl, hbl, hf, c0, c1⟩ := (HS.out.below HB.out).at j hlt
      obtain ⟨hfn, hfd⟩ := HL.out f (List.mem_of_getElem? hf)
      obtain ⟨s', hs'⟩ : ∃ s', s' = s + min f.dn 100000 + min f.name.length 1000 := ⟨_, rfl⟩
      have HNX := Lib.hid (show ∀ k g, k < j + 1 → F[k]? = some g → min g.dn 100000 ≤ s' from fun k g hk hg => by
        rcases Nat.lt_or_ge k j with h1 | h1
        · have := HG.out k g h1 hg; omega
        · obtain rfl : k = j := by omega
          rw [hf] at hg
          cases hg
          omega)
      have hsb : s' ≤ (j + 1) * 101000 := by omega
      have HS' := Lib.hid hs'
      obtain ⟨nm, da, dn, dc, ds⟩ := f
      simp only at c0 c1 HS' hfn hfd
      have j1 : (j : Int) < n := by omega
      clear hf hs'
      have HAL := Lib.hid (HB.out.alloc HB.out.size (.cells #[.string ⟨nm.toArray⟩, .slice da dn dc] 36))
      go_wp2_with fail
      all_goals
        go_roundg (n - (j + 1))
        case measure => omega
        case rel => exact ⟨j + 1, s', by omega, rfl, by go_num, congrArg (Value.int .i64) (by have := HS'.out; omega), hsb, HNX, HAL⟩
    · obtain rfl : j = n := by omega
      have HE := Lib.hid (show s < 67536 → ∀ f ∈ F, f.dn ≤ 70000 from fun h f hf => by
        obtain ⟨k, hk, rfl⟩ := List.getElem_of_mem hf
        have := HG.out k F[k] (by rw [← HLn.out]; exact hk) (List.getElem?_eq_getElem hk)
        omega)
      clear HG
      by_cases h1 : s < 67536
      · have HE2 := Lib.hid (HE.out h1)
        have e2 : decide ((s : Int) < 67536) = true := by simp; omega
        obtain ⟨b1, hb1⟩ : ∃ b1, decide ((s : Int) < 4000) = b1 := ⟨_, rfl⟩
        obtain ⟨b2, hb2⟩ : ∃ b2, decide ((65536 : Int) < s) = b2 := ⟨_, rfl⟩
        obtain ⟨b3, hb3⟩ : ∃ b3, decide ((j : Int) < 4) = b3 := ⟨_, rfl⟩
        clear h1
        cases b1 <;> cases b2 <;> cases b3
        all_goals
          go_wp2_with fail
          go_ret
          exact ⟨⟨_, rfl, fun _ => ⟨hn, HE2.out⟩⟩, HB.out⟩
      · have e2 : decide ((s : Int) < 4000) = false := by simp; omega
        have e3 : decide ((65536 : Int) < s) = true := by simp; omega
        have e4 : decide ((s : Int) < 67536) = false := by simp; omega
        clear h1
        go_wp2_with fail
        go_ret
        exact ⟨⟨false, rfl, fun h => by cases h⟩, HB.out⟩
end Go.Proofs.Ytaedohlfcbppaaa
