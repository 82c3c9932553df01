/- pool: is, Text, Class, Member and the reference's. No condition. -/
import Derived.Test.YtlfoedagcagpgaaPoolPlain
import Derived.Test.YtlfoedagcagpgaaNumFn
namespace Go.Proofs.Ytlfoedagcagpgaa
open Go.ChangeShapes Go.WideShapes Go.ChangeAt Go.RowKit
/-- A slice of constants. -/
def Ks (w : World) (a : Option Addr) (n : Nat) (L : List KV) : Prop := Ss 5 KV.cells w a n L
/-- The cells of a constant. -/
structure KAt (w : World) (b o : Nat) (c : KV) : Prop where
  c0 : w.cell? ⟨b, o, none⟩ = some (.int .i64 c.tag)
  c1 : w.cell? ⟨b, o + 1, none⟩ = some (.int .i64 c.a)
  c2 : w.cell? ⟨b, o + 2, none⟩ = some (.int .i64 c.b)
  c3 : w.cell? ⟨b, o + 3, none⟩ = some (.int .i64 c.n)
  c4 : w.cell? ⟨b, o + 4, none⟩ = some (.string ⟨c.s.toArray⟩)
theorem Ks.below {w w' : World} {a : Option Addr} {n : Nat} {L : List KV} (h : Ks w a n L) (hb : Below w.heap.size w w') : Ks w' a n L := Ss.below h hb
theorem KAt.below {w w' : World} {b o : Nat} {c : KV} (h : KAt w b o c) (hb : Below w.heap.size w w') : KAt w' b o c :=
  ⟨cellS_below hb h.c0, cellS_below hb h.c1, cellS_below hb h.c2, cellS_below hb h.c3, cellS_below hb h.c4⟩
theorem Ks.at {w : World} {a : Option Addr} {n : Nat} {L : List KV} (h : Ks w a n L) (i : Nat) (hi : i < n) : ∃ b off, a = some ⟨b, off, none⟩ ∧ b < w.heap.size ∧ KAt w b (off + i * 5) (kAt L i) := by
  obtain ⟨b, off, ha, hlt, hc⟩ := h.2 (by omega)
  have hl : i < L.length := by rw [h.1]; exact hi
  have hk : kAt L i = L[i] := by unfold kAt; simp [List.getD, hl]
  refine ⟨b, off, ha, hlt, ?_⟩
  rw [hk]
  exact ⟨hc i hl 0 (by omega), hc i hl 1 (by omega), hc i hl 2 (by omega), hc i hl 3 (by omega), hc i hl 4 (by omega)⟩
theorem isT_low {L : List KV} {i t : Int} (h : i < 1) : isT L i t = false := by unfold isT; rw [decide_eq_false]; omega
theorem isT_high {L : List KV} {i t : Int} (h : (L.length : Int) ≤ i) : isT L i t = false := by unfold isT; rw [decide_eq_false]; omega
theorem isT_in {L : List KV} {i t : Int} (h0 : 1 ≤ i) (h1 : i < L.length) : isT L i t = decide ((kAt L i).tag = t) := by
  unfold isT
  by_cases h : (kAt L i).tag = t
  · rw [decide_eq_true h, decide_eq_true ⟨h0, h1, h⟩]
  · rw [decide_eq_false h, decide_eq_false fun x => h x.2.2]
theorem isT_true {L : List KV} {i t : Int} (h : isT L i t = true) : 1 ≤ i ∧ i < L.length ∧ (kAt L i).tag = t := of_decide_eq_true h
set_option maxRecDepth 100000 in
set_option maxHeartbeats 4000000 in
theorem is_any (w : World) (a : Option Addr) (n cap : Nat) (L : List KV) (i t : Int) (hs : Ks w a n L) (hn : n ≤ 65536) :
    Calls Try.prog 22 #[.slice a n cap, .int .i64 i, .int .i64 t] w fun e w' => e = .returned (.bool (isT L i t)) ∧ w = w' := by
  by_cases h1 : i < 1
  · rw [isT_low h1]
    have h0 : decide (0 < i) = false := by simp; omega
    clear hs
    go_enter Try.func22, Try.ntmps22
    go_wp2_with fail
    go_ret
    exact ⟨rfl, rfl⟩
  · by_cases h2 : (n : Int) ≤ i
    · rw [isT_high (by rw [hs.1]; exact h2)]
      have h0 : decide (0 < i) = true := by simp; omega
      have h3 : decide (i < (n : Int)) = false := by simp; omega
      clear hs
      go_enter Try.func22, Try.ntmps22
      go_wp2_with fail
      go_ret
      exact ⟨rfl, rfl⟩
    · obtain ⟨k, rfl⟩ : ∃ k : Nat, i = k := ⟨i.toNat, by omega⟩
      rw [isT_in (by omega) (by rw [hs.1]; omega)]
      obtain ⟨b, off, rfl, _, hk⟩ := hs.at k (by omega)
      have g0 := hk.c0
      have k0 : 0 < k := by omega
      have k1 : k < n := by omega
      obtain ⟨t0, ht0⟩ : ∃ t0, t0 = (kAt L k).tag := ⟨_, rfl⟩
      rw [← ht0] at g0 ⊢
      clear hk hs h1 h2 ht0
      by_cases ht : t0 = t
      · subst ht
        have e1 : (t0 == t0) = true := by simp
        go_enter Try.func22, Try.ntmps22
        go_wp2_with fail
        go_ret
        exact ⟨by simp, rfl⟩
      · have e1 : (t0 == t) = false := by simp [ht]
        rw [decide_eq_false ht]
        clear ht
        go_enter Try.func22, Try.ntmps22
        go_wp2_with fail
        go_ret
        exact ⟨rfl, rfl⟩
end Go.Proofs.Ytlfoedagcagpgaa
