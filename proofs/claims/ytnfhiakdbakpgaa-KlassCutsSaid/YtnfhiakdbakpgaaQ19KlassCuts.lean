/- pool: what is read has just these bytes. Plain. -/
import Derived.Test.YtnfhiakdbakpgaaQ18KlassCuts
namespace Go.Proofs.Ytnfhiakdbakpgaa
open Go.RowKit
theorem next_inv (bs : List UInt8) (p m : Nat) (h : (nextR bs p 0 m).2.2 = 0) : ∃ v : Nat, nextR bs p 0 m = ((v : Int), p + m, 0) ∧ v < 256 ^ m ∧ p + m ≤ bs.length ∧ bs.drop p = putB v m ++ bs.drop (p + m) := by
  obtain ⟨h1, h2⟩ := next_ok bs p m h
  have he : (getR bs p m).2 = 0 := by unfold nextR at h; rw [if_pos rfl] at h; exact h
  have h8 : ¬ ((m : Int) < 1 ∨ 8 < (m : Int)) := by
    intro hc
    unfold getR at he
    rw [if_pos hc] at he
    cases he
  have hl : ((bs.drop p).take m).length = m := by rw [List.length_take, List.length_drop]; omega
  refine ⟨getN ((bs.drop p).take m), ?_, ?_, h2, ?_⟩
  · unfold nextR
    rw [if_pos rfl]
    unfold getR
    rw [if_neg h8, if_neg (by omega)]
    simp
  · have := getN_lt ((bs.drop p).take m)
    rwa [hl] at this
  · have h3 := put_get ((bs.drop p).take m)
    rw [hl] at h3
    rw [h3, ← List.drop_drop]
    exact (List.take_append_drop m (bs.drop p)).symm
theorem putB_one (v : Nat) (h : v < 256) : putB v 1 = [UInt8.ofNat v] := by
  rw [putB_succ v 0, Nat.mod_eq_of_lt h]
  rfl
theorem signN (v m : Nat) (hm : m = 4 ∨ m = 8) (hv : v < 256 ^ m) : putB (u64N (signB v m)) m = putB v m := by
  have h : u64N (signB v m) % 256 ^ m = v := by
    rcases hm with rfl | rfl
    · unfold signB u64N
      rw [if_neg (by omega)]
      simp only [Int.toNat_natCast, show (8 * 4 - 1 : Nat) = 31 by rfl, show (8 * 4 : Nat) = 32 by rfl] at *
      simp only [show (2 ^ 31 : Int) = 2147483648 by decide, show (2 ^ 32 : Int) = 4294967296 by decide, show (256 ^ 4 : Nat) = 4294967296 by decide] at *
      omega
    · unfold signB u64N
      rw [if_neg (by omega)]
      simp only [Int.toNat_natCast, show (8 * 8 - 1 : Nat) = 63 by rfl, show (8 * 8 : Nat) = 64 by rfl] at *
      simp only [show (2 ^ 63 : Int) = 9223372036854775808 by decide, show (2 ^ 64 : Int) = 18446744073709551616 by decide, show (256 ^ 8 : Nat) = 18446744073709551616 by decide] at *
      omega
  have h2 := put_get (putB (u64N (signB v m)) m)
  rw [putB_length, get_put, h] at h2
  exact h2.symm
theorem u64N_nat (v : Nat) (h : v < 18446744073709551616) : u64N (v : Int) = v := by unfold u64N; omega
theorem one_inv (bs : List UInt8) (p : Nat) (h : (oneR bs p).2.2 = 0) : (oneR bs p).2.1 ≤ bs.length ∧ bs.drop p = oneK (oneR bs p).1 ++ bs.drop (oneR bs p).2.1 ∧ (oneR bs p).1.tag ≠ 0 := by
  have h0 : (nextR bs p 0 1).2.2 = 0 := by
    by_cases hc : (nextR bs p 0 1).2.2 = 0
    · exact hc
    · unfold oneR at h
      simp only [hc, not_false_eq_true, ne_eq, if_true] at h
  obtain ⟨g, hg, hgl, hp1, hd1⟩ := next_inv bs p 1 h0
  rw [putB_one g hgl] at hd1
  unfold oneR at h ⊢
  simp only [hg, ne_eq, not_true_eq_false, if_false] at h ⊢
  by_cases h1 : (g : Int) = 1
  · simp only [h1, if_true] at h ⊢
    have hb0 : (nextR bs (p + 1) 0 2).2.2 = 0 := by
      by_cases hc : (nextR bs (p + 1) 0 2).2.2 = 0
      · exact hc
      · unfold textR at h
        rw [if_pos hc] at h
        exact absurd h hc
    obtain ⟨v, hv, hvl, hp2, hd2⟩ := next_inv bs (p + 1) 2 hb0
    simp only [hv, Int.toNat_natCast] at h ⊢
    unfold textR at h ⊢
    rw [if_neg (by simp)] at h ⊢
    by_cases hs : (bs.length : Int) - ((p + 1 + 2 : Nat) : Int) < (v : Int)
    · rw [if_pos hs] at h; simp at h
    · rw [if_neg hs] at h ⊢
      simp only
      have hl : ((bs.drop (p + 1 + 2)).take v).length = v := by rw [List.length_take, List.length_drop]; omega
      refine ⟨by omega, ?_, by simp⟩
      have hg1 : g = 1 := by omega
      unfold oneK
      simp only [show ((1 : Int) = 0) = False by simp, if_false, if_true, hl]
      rw [hd1, hd2, hg1]
      have h4 : bs.drop (p + 1 + 2) = (bs.drop (p + 1 + 2)).take v ++ bs.drop (p + 1 + 2 + v) := (List.take_append_drop v (bs.drop (p + 1 + 2))).symm.trans (by rw [List.drop_drop])
      rw [h4]
      simp [hl]
  · simp only [h1, if_false] at h ⊢
    by_cases h3 : (g : Int) = 3
    · simp only [h3, if_true] at h ⊢
      obtain ⟨v, hv, hvl, hp2, hd2⟩ := next_inv bs (p + 1) 4 h
      simp only [hv] at h ⊢
      refine ⟨by omega, ?_, by simp⟩
      have hg1 : g = 3 := by omega
      unfold oneK
      simp only [show ((3 : Int) = 0) = False by simp, show ((3 : Int) = 1) = False by simp, if_false, if_true, signN v 4 (.inl rfl) hvl]
      rw [hd1, hd2, hg1]
      simp
      exact (signN v 4 (.inl rfl) hvl).symm
    · simp only [h3, if_false] at h ⊢
      by_cases h5 : (g : Int) = 5
      · simp only [h5, if_true] at h ⊢
        obtain ⟨v, hv, hvl, hp2, hd2⟩ := next_inv bs (p + 1) 8 h
        simp only [hv] at h ⊢
        refine ⟨by omega, ?_, by simp⟩
        have hg1 : g = 5 := by omega
        unfold oneK
        simp only [show ((5 : Int) = 0) = False by simp, show ((5 : Int) = 1) = False by simp, show ((5 : Int) = 3) = False by simp, if_false, if_true, signN v 8 (.inr rfl) hvl]
        rw [hd1, hd2, hg1]
        simp
        exact (signN v 8 (.inr rfl) hvl).symm
      · simp only [h5, if_false] at h ⊢
        by_cases h7 : (g : Int) = 7 ∨ (g : Int) = 8
        · rw [if_pos h7] at h ⊢
          obtain ⟨v, hv, hvl, hp2, hd2⟩ := next_inv bs (p + 1) 2 h
          simp only [hv] at h ⊢
          have hv2 : v < 65536 := by simpa using hvl
          refine ⟨by omega, ?_, by omega⟩
          unfold oneK
          simp only
          rw [if_neg (by omega), if_neg h1, if_neg h3, if_neg h5, if_pos h7, u64N_nat v (by omega), hd1, hd2]
          simp
        · rw [if_neg h7] at h ⊢
          by_cases h9 : (g : Int) = 9 ∨ (g : Int) = 10 ∨ (g : Int) = 12
          · rw [if_pos h9] at h ⊢
            obtain ⟨v, hv, hvl, hp2, hd2⟩ := next_inv bs (p + 1) 4 h
            simp only [hv] at h ⊢
            have hv2 : v < 4294967296 := by simpa using hvl
            refine ⟨by omega, ?_, by omega⟩
            unfold oneK
            simp only
            have e1 : ((v : Int) / 65536) = ((v / 65536 : Nat) : Int) := by omega
            have e2 : ((v : Int) % 65536) = ((v % 65536 : Nat) : Int) := by omega
            rw [if_neg (by omega), if_neg h1, if_neg h3, if_neg h5, if_neg h7, e1, e2, u64N_nat _ (by omega), u64N_nat _ (by omega), ← put_pair (v / 65536) (v % 65536) (by omega), show v / 65536 * 65536 + v % 65536 = v by omega, hd1, hd2]
            simp
          · rw [if_neg h9] at h
            simp at h
theorem parF_inv (bs : List UInt8) (count : Nat) : ∀ (fuel p : Nat) (acc : List KV), (parF bs count fuel p acc).1 = 0 → p ≤ bs.length → bs = putB count 2 ++ acc.flatMap oneK ++ bs.drop p → p = 2 + (acc.flatMap oneK).length →
    (parF bs count fuel p acc).2.1 ≤ bs.length ∧ bs = putB count 2 ++ (parF bs count fuel p acc).2.2.flatMap oneK ++ bs.drop (parF bs count fuel p acc).2.1 ∧ (parF bs count fuel p acc).2.1 = 2 + ((parF bs count fuel p acc).2.2.flatMap oneK).length ∧ (count ≤ fuel + acc.length → count ≤ (parF bs count fuel p acc).2.2.length)
  | 0, p, acc, _, hp, hd, hl => ⟨hp, hd, hl, fun h => by simpa [parF] using h⟩
  | fuel + 1, p, acc, h, hp, hd, hl => by
    by_cases hc : count ≤ acc.length
    · rw [parF_end hc]
      exact ⟨hp, hd, hl, fun _ => hc⟩
    · by_cases he : (oneR bs p).2.2 = 0
      · rw [parF_next hc he] at h ⊢
        obtain ⟨h1, h2, h3⟩ := one_inv bs p he
        have hk : oneK kz = [] := rfl
        have hf : (acc ++ [(oneR bs p).1] ++ (if (oneR bs p).1.tag = 5 then [kz] else [])).flatMap oneK = acc.flatMap oneK ++ oneK (oneR bs p).1 := by
          split <;> simp [hk]
        have hdl : (oneR bs p).2.1 = p + (oneK (oneR bs p).1).length := by
          have := congrArg List.length h2
          rw [List.length_append, List.length_drop, List.length_drop] at this
          omega
        have h4 := parF_inv bs count fuel (oneR bs p).2.1 _ h h1 (by rw [hf]; conv => lhs; rw [hd, h2]
                                                                     simp) (by rw [hf, List.length_append, hdl, hl]; omega)
        refine ⟨h4.1, h4.2.1, h4.2.2.1, fun hq => h4.2.2.2 ?_⟩
        simp only [List.length_append, List.length_cons, List.length_nil]
        omega
      · rw [parF_err hc he] at h
        exact absurd h he
theorem parse_inv (bs : List UInt8) (h : (parseK bs).1 = 0) : (parseK bs).2.1 ≤ bs.length ∧ bs = bytesK (parseK bs).2.2 ++ bs.drop (parseK bs).2.1 ∧ (parseK bs).2.1 = (bytesK (parseK bs).2.2).length ∧ poolOk (parseK bs).2.2 = true := by
  unfold parseK at h ⊢
  by_cases h0 : (nextR bs 0 0 2).2.2 = 0
  · obtain ⟨c, hc, hcl, hp, hd⟩ := next_inv bs 0 2 h0
    simp only [hc, ne_eq, not_true_eq_false, if_false, Int.toNat_natCast] at h ⊢
    by_cases h1 : (c : Int) < 1 ∨ 1024 < (c : Int)
    · rw [if_pos h1] at h; simp at h
    · rw [if_neg h1] at h ⊢
      by_cases h2 : (parF bs c c 2 [kz]).1 = 0
      · simp only [h2, not_true_eq_false, if_false] at h ⊢
        by_cases h3 : c < (parF bs c c 2 [kz]).2.2.length ∨ poolOk (parF bs c c 2 [kz]).2.2 = false
        · rw [if_pos h3] at h; simp at h
        · rw [if_neg h3]
          have h4 := parF_inv bs c c 2 [kz] h2 (by omega) (by simpa [oneK, kz] using hd) (by simp [oneK, kz])
          have h5 := h4.2.2.2 (by simp)
          have hl : (parF bs c c 2 [kz]).2.2.length = c := by omega
          refine ⟨h4.1, ?_, ?_, ?_⟩
          · unfold bytesK; rw [hl]; exact h4.2.1
          · unfold bytesK; rw [List.length_append, putB_length]; exact h4.2.2.1
          · cases hb : poolOk (parF bs c c 2 [kz]).2.2
            · exact absurd (.inr hb) h3
            · rfl
      · simp only [h2, not_false_eq_true, if_true] at h
  · rw [if_pos h0] at h
    exact absurd h h0
end Go.Proofs.Ytnfhiakdbakpgaa
/- klass: what is read has just these bytes, part by part. Plain. -/
namespace Go.Proofs.Ytnfhiakdbakpgaa
open Go.RowKit
/-- Of what is read without a fault: the bytes that were read are its own. -/
def InvR {α : Type} (bs : List UInt8) (one : RM α) (enc : α → List UInt8) : Prop :=
  ∀ s : St, (s.2 = 0 → s.1 ≤ bs.length) → (one s).2.2 = 0 → s.2 = 0 ∧ (one s).2.1 = s.1 + (enc (one s).1).length ∧ (one s).2.1 ≤ bs.length ∧ bs.drop s.1 = enc (one s).1 ++ bs.drop (one s).2.1
section
variable {α β : Type} {bs : List UInt8}
theorem InvR.pure (a : α) (enc : α → List UInt8) (h : enc a = []) : InvR bs (pureR a) enc := by
  intro s hs he
  have h0 : s.2 = 0 := he
  refine ⟨h0, ?_, ?_, ?_⟩
  · show s.1 = s.1 + (enc a).length; rw [h]; rfl
  · exact hs h0
  · show bs.drop s.1 = enc a ++ bs.drop s.1; rw [h]; rfl
theorem InvR.bind {f : RM α} {g : α → RM β} {ef : α → List UInt8} {eg : α → β → List UInt8} {enc : β → List UInt8} (hf : InvR bs f ef) (hg : ∀ x, InvR bs (g x) (eg x)) (he : ∀ x s, enc (g x s).1 = ef x ++ eg x (g x s).1) : InvR bs (bindR f g) enc := by
  intro s hs h0
  change (g (f s).1 (f s).2).2.2 = 0 at h0
  have key : (f s).2.2 = 0 → (f s).2.1 ≤ bs.length := fun h => (hf s hs h).2.2.1
  obtain ⟨g0, g1, g2, g3⟩ := hg (f s).1 (f s).2 key h0
  obtain ⟨f0, f1, f2, f3⟩ := hf s hs g0
  show _ ∧ (g (f s).1 (f s).2).2.1 = s.1 + (enc (g (f s).1 (f s).2).1).length ∧ (g (f s).1 (f s).2).2.1 ≤ bs.length ∧ bs.drop s.1 = enc (g (f s).1 (f s).2).1 ++ bs.drop (g (f s).1 (f s).2).2.1
  rw [he, List.length_append]
  refine ⟨f0, by omega, g2, ?_⟩
  rw [f3, g3, List.append_assoc]
theorem InvR.bindP {f : RM α} {g : α → RM β} {ef : α → List UInt8} {eg : α → β → List UInt8} {enc : β → List UInt8} (P : α → Prop) (hP : ∀ s, P (f s).1) (hf : InvR bs f ef) (hg : ∀ x, P x → InvR bs (g x) (eg x)) (he : ∀ x s, P x → (s.2 = 0 → s.1 ≤ bs.length) → (g x s).2.2 = 0 → enc (g x s).1 = ef x ++ eg x (g x s).1) : InvR bs (bindR f g) enc := by
  intro s hs h0
  change (g (f s).1 (f s).2).2.2 = 0 at h0
  have key : (f s).2.2 = 0 → (f s).2.1 ≤ bs.length := fun h => (hf s hs h).2.2.1
  obtain ⟨g0, g1, g2, g3⟩ := hg (f s).1 (hP s) (f s).2 key h0
  obtain ⟨f0, f1, f2, f3⟩ := hf s hs g0
  show _ ∧ (g (f s).1 (f s).2).2.1 = s.1 + (enc (g (f s).1 (f s).2).1).length ∧ (g (f s).1 (f s).2).2.1 ≤ bs.length ∧ bs.drop s.1 = enc (g (f s).1 (f s).2).1 ++ bs.drop (g (f s).1 (f s).2).2.1
  rw [he _ _ (hP s) key h0, List.length_append]
  refine ⟨f0, by omega, g2, ?_⟩
  rw [f3, g3, List.append_assoc]
theorem InvR.get (n : Nat) (h4 : n ≤ 4) : InvR bs (getS bs n) (fun v => putB (u64N v) n) := by
  intro s hs he
  have h0 : s.2 = 0 := by
    by_cases h : s.2 = 0
    · exact h
    · unfold getS at he; rw [if_pos h] at he; exact absurd he h
  have hn : nextR bs s.1 0 n = ((getS bs n s).1, (getS bs n s).2.1, (getS bs n s).2.2) := by
    unfold nextR getS
    rw [if_pos rfl, if_neg (by simp [h0])]
  have hz : (nextR bs s.1 0 n).2.2 = 0 := by rw [hn]; exact he
  obtain ⟨v, hv, hvl, hp, hd⟩ := next_inv bs s.1 n hz
  rw [hn] at hv
  have e1 : (getS bs n s).1 = v := congrArg (·.1) hv
  have e2 : (getS bs n s).2.1 = s.1 + n := congrArg (·.2.1) hv
  have hv8 : v < 18446744073709551616 := by
    have : 256 ^ n ≤ 256 ^ 4 := Nat.pow_le_pow_right (by omega) h4
    have h2 : (256 ^ 4 : Nat) = 4294967296 := by decide
    omega
  refine ⟨h0, ?_, ?_, ?_⟩
  · rw [e2, putB_length]
  · rw [e2]; exact hp
  · rw [e1, e2]; show bs.drop s.1 = putB (u64N (v : Int)) n ++ bs.drop (s.1 + n); rw [u64N_nat v hv8]; exact hd
theorem InvR.bad (b : St → Bool) : InvR bs (badS b) (fun _ => []) := by
  intro s hs he
  unfold badS at he ⊢
  split at he
  · simp at he
  · rename_i h
    rw [if_neg h]
    exact ⟨he, by simp, hs he, by simp⟩
theorem InvR.row {one : RM α} {enc : α → List UInt8} (h : InvR bs one enc) : ∀ n, InvR bs (rowS one n) (fun l => l.flatMap enc)
  | 0 => InvR.pure [] _ rfl
  | n + 1 => by
    intro s hs he
    unfold rowS at he ⊢
    split at he
    · rename_i hc; exact absurd he hc
    · rename_i hc
      rw [if_neg hc]
      have key : (one s).2.2 = 0 → (one s).2.1 ≤ bs.length := fun h1 => (h s hs h1).2.2.1
      obtain ⟨g0, g1, g2, g3⟩ := InvR.row h n (one s).2 key he
      obtain ⟨f0, f1, f2, f3⟩ := h s hs g0
      simp only [List.flatMap_cons, List.length_append] at g1 g3 ⊢
      exact ⟨f0, by omega, g2, by rw [f3, g3, List.append_assoc]⟩
theorem InvR.must (m : Nat) (h4 : m ≤ 4) : ∀ l : List Int, (∀ x ∈ l, True) → InvR bs (mustS bs m l) (fun _ => l.flatMap fun v => putB (u64N v) m)
  | [], _ => InvR.pure () _ rfl
  | x :: l, _ => by
    intro s hs he
    have hm : mustS bs m (x :: l) s = mustS bs m l (mustOne bs m s x) := rfl
    rw [hm] at he ⊢
    have key : (mustOne bs m s x).2 = 0 → (getS bs m s).2.2 = 0 ∧ (getS bs m s).1 = x ∧ mustOne bs m s x = (getS bs m s).2 := by
      intro h
      unfold mustOne at h ⊢
      split at h
      · simp at h
      · rename_i hc
        refine ⟨h, ?_, by rw [if_neg hc]⟩
        by_cases hx : (getS bs m s).1 = x
        · exact hx
        · exact absurd ⟨h, hx⟩ hc
    have hle : (mustOne bs m s x).2 = 0 → (mustOne bs m s x).1 ≤ bs.length := fun h => by
      obtain ⟨k1, k2, k3⟩ := key h
      rw [k3]
      exact (InvR.get m h4 s hs k1).2.2.1
    obtain ⟨g0, g1, g2, g3⟩ := InvR.must m h4 l (fun _ _ => trivial) (mustOne bs m s x) hle he
    obtain ⟨k1, k2, k3⟩ := key g0
    obtain ⟨f0, f1, f2, f3⟩ := InvR.get m h4 s hs k1
    rw [k3] at g1 g2 g3 ⊢
    rw [k2] at f1 f3
    dsimp only at f1 f3 g1 g3
    simp only [List.flatMap_cons, List.length_append]
    exact ⟨f0, by omega, g2, by rw [f3, g3, List.append_assoc]⟩
theorem InvR.bytes (n : Int) : InvR bs (bytesS bs n) (fun l => l) := by
  intro s hs he
  unfold bytesS at he ⊢
  by_cases h0 : s.2 = 0
  · rw [if_neg (by simp [h0])] at he ⊢
    have hp := hs h0
    by_cases h1 : (bs.length : Int) - (s.1 : Int) < n
    · rw [if_pos h1] at he; simp at he
    · rw [if_neg h1]
      simp only
      refine ⟨h0, ?_, by omega, ?_⟩
      · rw [List.length_take, List.length_drop]; omega
      · rw [← List.drop_drop]; exact (List.take_append_drop n.toNat (bs.drop s.1)).symm
  · rw [if_pos h0] at he; exact absurd he h0
theorem InvR.sized {one : RM α} {enc : α → List UInt8} (h : InvR bs one enc) : InvR bs (sizedS bs one) (fun x => putB (u64N (enc x).length) 4 ++ enc x) := by
  intro s hs he
  unfold sizedS at he ⊢
  split at he
  · simp at he
  · rename_i hc
    rw [if_neg hc]
    have hle : (getS bs 4 s).2.2 = 0 → (getS bs 4 s).2.1 ≤ bs.length := fun h1 => (InvR.get 4 (by decide) s hs h1).2.2.1
    obtain ⟨g0, g1, g2, g3⟩ := h (getS bs 4 s).2 hle he
    obtain ⟨f0, f1, f2, f3⟩ := InvR.get 4 (by decide) s hs g0
    have hv : (getS bs 4 s).1 = ((enc (one (getS bs 4 s).2).1).length : Int) := by
      by_cases hd : (((one (getS bs 4 s).2).2.1 : Int) - ((getS bs 4 s).2.1 : Int)) = (getS bs 4 s).1
      · omega
      · exact absurd ⟨he, hd⟩ hc
    dsimp only at f1 f3 ⊢
    rw [hv] at f1 f3
    rw [List.length_append]
    exact ⟨f0, by omega, g2, by rw [f3, g3, List.append_assoc]⟩
theorem rowS_full0 {one : RM α} : ∀ (n : Nat) (s : St), (rowS one n s).2.2 = 0 → (rowS one n s).1.length = n
  | 0, s, _ => by simp [rowS, pureR]
  | n + 1, s, h => by
    unfold rowS at h ⊢
    split at h
    · rename_i hc; exact absurd h hc
    · rename_i hc
      rw [if_neg hc]
      simp only [List.length_cons]
      rw [rowS_full0 n (one s).2 h]
theorem timesS_full {most : Int} {one : RM α} {n : Int} (hn : 0 ≤ n) (s : St) (h : (timesS most one n s).2.2 = 0) : ((timesS most one n s).1.length : Int) = n := by
  have h2 : (rowS one n.toNat (badS (fun _ => decide (most < n)) s).2).1.length = n.toNat := rowS_full0 n.toNat _ h
  show ((rowS one n.toNat (badS (fun _ => decide (most < n)) s).2).1.length : Int) = n
  omega
theorem InvR.times {one : RM α} {enc : α → List UInt8} (h : InvR bs one enc) (most n : Int) : InvR bs (timesS most one n) (fun l => l.flatMap enc) :=
  InvR.bind (InvR.bad _) (fun _ => InvR.row h n.toNat) (fun _ _ => rfl)
theorem two_eq (v : Int) : z2 [v] = putB (u64N v) 2 := by unfold z2; simp
theorem getS_one (bs : List UInt8) (s : St) : 0 ≤ (getS bs 1 s).1 ∧ (getS bs 1 s).1 < 256 := by
  unfold getS
  split
  · exact ⟨by show (0 : Int) ≤ 0; omega, by show (0 : Int) < 256; omega⟩
  · exact ⟨(getR_boundK bs s.1 1).1, getR_smallK bs s.1 1 1 (by omega) (by omega)⟩
theorem u8_one (tg : Int) (h : 0 ≤ tg ∧ tg < 256) : putB (u64N tg) 1 = [u8N tg] := by
  have h1 : u64N tg = tg.toNat := by unfold u64N; omega
  rw [h1, putB_one _ (by omega)]
  unfold u8N
  rw [show (tg % 256).toNat = tg.toNat by omega]
theorem InvR.slot : InvR bs (slotS bs) slotB := by
  refine InvR.bindP (ef := fun v => putB (u64N v) 1) (eg := fun tg x => if tg = 7 then z2 [x.a] else []) (fun tg => 0 ≤ tg ∧ tg < 256) (fun s => ?_) (InvR.get 1 (by decide)) (fun tg _ => ?_) (fun tg s hp _ _ => ?_)
  · exact getS_one bs s
  · split
    · exact InvR.bind (eg := fun _ _ => []) (InvR.get 2 (by decide)) (fun a => InvR.pure _ _ rfl) (fun a s => by simp [pureR, two_eq])
    · exact InvR.pure _ _ rfl
  · rw [u8_one tg hp]
    by_cases h7 : tg = 7
    · subst h7; rfl
    · simp only [h7, if_false, pureR]
      unfold slotB
      simp [h7]
theorem InvR.slots (most : Int) : InvR bs (slotsS bs most) slotsB := by
  refine InvR.bindP (ef := fun v => putB (u64N v) 2) (eg := fun _ l => l.flatMap slotB) (fun v => 0 ≤ v ∧ v < 65536) (fun s => getS_two bs 2 (by decide) s) (InvR.get 2 (by decide)) (fun n _ => InvR.times InvR.slot most n) (fun n s hp _ h => ?_)
  unfold slotsB
  rw [timesS_full hp.1 s h, two_eq]
theorem InvR.kmap : InvR bs (kmapS bs) kmapB := by
  refine InvR.bind (ef := fun v => putB (u64N v) 2) (eg := fun _ p => slotsB p.loc ++ slotsB p.stk) (InvR.get 2 (by decide)) (fun pl => ?_) (fun pl s => ?_)
  · refine InvR.bind (eg := fun _ p => slotsB p.stk) (InvR.slots 64) (fun loc => ?_) (fun loc s => by simp only [bindR, pureR])
    exact InvR.bind (eg := fun _ _ => []) (InvR.slots 64) (fun stk => InvR.pure _ _ rfl) (fun stk s => by simp [pureR])
  · unfold kmapB
    rw [List.append_assoc, ← two_eq]
    simp only [bindR, pureR]
theorem InvR.trap : InvR bs (trapS bs) trapB := by
  have e : ∀ t : KT, trapB t = putB (u64N t.fr) 2 ++ (putB (u64N t.tt) 2 ++ (putB (u64N t.pl) 2 ++ putB (u64N t.cl) 2)) := fun t => by unfold trapB z2; simp
  refine InvR.bind (eg := fun _ t => putB (u64N t.tt) 2 ++ (putB (u64N t.pl) 2 ++ putB (u64N t.cl) 2)) (InvR.get 2 (by decide)) (fun a => ?_) (fun a s => by rw [e]; rfl)
  refine InvR.bind (eg := fun _ t => putB (u64N t.pl) 2 ++ putB (u64N t.cl) 2) (InvR.get 2 (by decide)) (fun b => ?_) (fun b s => rfl)
  refine InvR.bind (eg := fun _ t => putB (u64N t.cl) 2) (InvR.get 2 (by decide)) (fun c => ?_) (fun c s => rfl)
  exact InvR.bind (eg := fun _ _ => []) (InvR.get 2 (by decide)) (fun d => InvR.pure _ _ rfl) (fun d s => by simp [pureR])
theorem InvR.maps : InvR bs (mapsS bs) mapsB := by
  refine InvR.bindP (ef := fun v => putB (u64N v) 2) (eg := fun _ l => l.flatMap kmapB) (fun v => 0 ≤ v ∧ v < 65536) (fun s => getS_two bs 2 (by decide) s) (InvR.get 2 (by decide)) (fun n _ => ?_) (fun n s hp _ h => ?_)
  · exact InvR.bind (eg := fun _ l => l.flatMap kmapB) (InvR.bad _) (fun _ => InvR.times InvR.kmap 255 n) (fun _ _ => rfl)
  · unfold mapsB
    have h2 : (timesS 255 (kmapS bs) n (badS (fun _ => decide (n = 0)) s).2).2.2 = 0 := h
    have h3 := timesS_full hp.1 _ h2
    show z2 [((timesS 255 (kmapS bs) n (badS (fun _ => decide (n = 0)) s).2).1.length : Int)] ++ _ = _
    rw [h3, two_eq]
theorem InvR.field : InvR bs (fieldS bs) fieldB := by
  have e : ∀ t : KD, fieldB t = putB (u64N t.fl) 2 ++ (putB (u64N t.nm) 2 ++ (putB (u64N t.ds) 2 ++ ([0].flatMap fun v => putB (u64N v) 2))) := fun t => by unfold fieldB z2; simp
  refine InvR.bind (eg := fun _ t => putB (u64N t.nm) 2 ++ (putB (u64N t.ds) 2 ++ ([0].flatMap fun v => putB (u64N v) 2))) (InvR.get 2 (by decide)) (fun a => ?_) (fun a s => by rw [e]; rfl)
  refine InvR.bind (eg := fun _ t => putB (u64N t.ds) 2 ++ ([0].flatMap fun v => putB (u64N v) 2)) (InvR.get 2 (by decide)) (fun b => ?_) (fun b s => rfl)
  refine InvR.bind (eg := fun _ _ => [0].flatMap fun v => putB (u64N v) 2) (InvR.get 2 (by decide)) (fun c => ?_) (fun c s => rfl)
  exact InvR.bind (eg := fun _ _ => []) (InvR.must 2 (by decide) [0] (fun _ _ => trivial)) (fun d => InvR.pure _ _ rfl) (fun d s => by simp [pureR])
end
end Go.Proofs.Ytnfhiakdbakpgaa
/- klass: a class that is read has just these bytes. Plain. -/
namespace Go.Proofs.Ytnfhiakdbakpgaa
open Go.RowKit
section
variable {bs : List UInt8}
theorem maps_ne (s : St) (h : (mapsS bs s).2.2 = 0) : (mapsS bs s).1.length ≠ 0 := by
  have hp := getS_two bs 2 (by decide) s
  have h2 : (timesS 255 (kmapS bs) (getS bs 2 s).1 (badS (fun _ => decide ((getS bs 2 s).1 = 0)) (getS bs 2 s).2).2).2.2 = 0 := h
  have h3 := timesS_full hp.1 _ h2
  have h4 : (mapsS bs s).1 = (timesS 255 (kmapS bs) (getS bs 2 s).1 (badS (fun _ => decide ((getS bs 2 s).1 = 0)) (getS bs 2 s).2).2).1 := rfl
  rw [h4]
  intro h0
  have hz : (getS bs 2 s).1 = 0 := by omega
  have h5 := InvR.times (bs := bs) InvR.kmap 255 (getS bs 2 s).1 (badS (fun _ => decide ((getS bs 2 s).1 = 0)) (getS bs 2 s).2).2
  rw [hz] at h2
  have h6 : (badS (fun _ => decide ((0 : Int) = 0)) (getS bs 2 s).2).2.2 = 0 := by
    have : timesS 255 (kmapS bs) 0 (badS (fun _ => decide ((0 : Int) = 0)) (getS bs 2 s).2).2 = ([], (badS (fun _ => decide ((255 : Int) < 0)) (badS (fun _ => decide ((0 : Int) = 0)) (getS bs 2 s).2).2).2) := rfl
    rw [this] at h2
    have h7 : (badS (fun _ => decide ((255 : Int) < 0)) (badS (fun _ => decide ((0 : Int) = 0)) (getS bs 2 s).2).2).2 = (badS (fun _ => decide ((0 : Int) = 0)) (getS bs 2 s).2).2 := by unfold badS; simp
    rw [h7] at h2
    exact h2
  unfold badS at h6
  split at h6
  · simp at h6
  · rename_i hc
    exact hc ⟨h6, by simp⟩
theorem sized_ok {α : Type} {one : RM α} (s : St) (h : (sizedS bs one s).2.2 = 0) : (one (getS bs 4 s).2).2.2 = 0 ∧ (sizedS bs one s).1 = (one (getS bs 4 s).2).1 := by
  refine ⟨?_, sizedS_fst bs one s⟩
  unfold sizedS at h
  split at h
  · simp at h
  · exact h
/-- What stands behind the tail's first number. -/
def tailR (L : List KV) (k : Int) (maps : List KP) : List UInt8 :=
  if k = 0 then [] else if k = 1 then ([(findT L sMap : Int)].flatMap fun v => putB (u64N v) 2) ++ (putB (u64N (mapsB maps).length) 4 ++ mapsB maps) else []
theorem InvR.tail (L : List KV) (k : Int) : InvR bs (tailS bs L k) (tailR L k) := by
  unfold tailS
  by_cases h0 : k = 0
  · rw [if_pos h0]; exact InvR.pure _ _ (by unfold tailR; rw [if_pos h0])
  · rw [if_neg h0]
    by_cases h1 : k = 1
    · rw [if_pos h1]
      refine InvR.bind (eg := fun _ maps => putB (u64N (mapsB maps).length) 4 ++ mapsB maps) (InvR.must 2 (by decide) [(findT L sMap : Int)] (fun _ _ => trivial)) (fun _ => InvR.sized InvR.maps) (fun _ s => ?_)
      unfold tailR
      rw [if_neg h0, if_pos h1]
    · rw [if_neg h1]
      intro s hs he
      simp at he
theorem tail_eq (L : List KV) (k : Int) (s : St) (h : (tailS bs L k s).2.2 = 0) : tailB L (tailS bs L k s).1 = putB (u64N k) 2 ++ tailR L k (tailS bs L k s).1 := by
  unfold tailS at h ⊢
  by_cases h0 : k = 0
  · subst h0
    simp only [if_true] at h ⊢
    unfold tailB tailR pureR
    simp [two_eq]
  · rw [if_neg h0] at h ⊢
    by_cases h1 : k = 1
    · rw [if_pos h1] at h ⊢
      have h2 : (sizedS bs (mapsS bs) (mustS bs 2 [(findT L sMap : Int)] s).2).2.2 = 0 := h
      have h3 : (bindR (mustS bs 2 [(findT L sMap : Int)]) fun _ => sizedS bs (mapsS bs)) s = sizedS bs (mapsS bs) (mustS bs 2 [(findT L sMap : Int)] s).2 := rfl
      rw [h3]
      obtain ⟨h4, h5⟩ := sized_ok _ h2
      have h6 := maps_ne _ h4
      rw [← h5] at h6
      generalize (sizedS bs (mapsS bs) (mustS bs 2 [(findT L sMap : Int)] s).2).1 = maps at *
      unfold tailB tailR
      rw [if_neg h6, if_neg h0, if_pos h1, h1]
      unfold z2 z4
      simp
    · rw [if_neg h1] at h
      simp at h
end
end Go.Proofs.Ytnfhiakdbakpgaa
/- klass: a method that is read has just these bytes. Plain. -/
namespace Go.Proofs.Ytnfhiakdbakpgaa
open Go.RowKit
section
variable {bs : List UInt8}
theorem InvR.code6 (L : List KV) (fl nm ds st lo : Int) (code : List UInt8) (traps : List KT) : InvR bs (bindR (getS bs 2) fun k => bindR (tailS bs L k) fun maps => pureR (⟨fl, nm, ds, st, lo, none, 0, 0, code, none, 0, 0, traps, none, 0, 0, maps⟩ : KM)) (fun m => tailB L m.maps) := by
  refine InvR.bindP (ef := fun v => putB (u64N v) 2) (eg := fun k m => tailR L k m.maps) (fun _ => True) (fun _ => trivial) (InvR.get 2 (by decide)) (fun k _ => ?_) (fun k s _ _ h => ?_)
  · exact InvR.bind (eg := fun _ _ => []) (InvR.tail L k) (fun maps => InvR.pure _ _ rfl) (fun maps s => by simp [pureR])
  · have h2 : (tailS bs L k s).2.2 = 0 := h
    exact tail_eq L k s h2
theorem InvR.code5 (L : List KV) (fl nm ds st lo : Int) (code : List UInt8) : InvR bs (bindR (getS bs 2) fun tn => bindR (timesS 255 (trapS bs) tn) fun traps => bindR (getS bs 2) fun k => bindR (tailS bs L k) fun maps => pureR (⟨fl, nm, ds, st, lo, none, 0, 0, code, none, 0, 0, traps, none, 0, 0, maps⟩ : KM))
    (fun m => putB (u64N (m.traps.length : Int)) 2 ++ (m.traps.flatMap trapB ++ tailB L m.maps)) := by
  refine InvR.bindP (ef := fun v => putB (u64N v) 2) (eg := fun _ m => m.traps.flatMap trapB ++ tailB L m.maps) (fun v => 0 ≤ v ∧ v < 65536) (fun s => getS_two bs 2 (by decide) s) (InvR.get 2 (by decide)) (fun tn _ => ?_) (fun tn s hp hs h => ?_)
  · exact InvR.bind (eg := fun _ m => tailB L m.maps) (InvR.times InvR.trap 255 tn) (fun traps => InvR.code6 L fl nm ds st lo code traps) (fun traps s => by simp only [bindR, pureR])
  · have hT := InvR.times (bs := bs) InvR.trap 255 tn s hs
    obtain ⟨h1, -⟩ := InvR.code6 (bs := bs) L fl nm ds st lo code (timesS 255 (trapS bs) tn s).1 (timesS 255 (trapS bs) tn s).2 (fun h0 => (hT h0).2.2.1) h
    have h3 := timesS_full hp.1 s h1
    have h4 : ((bindR (timesS 255 (trapS bs) tn) fun traps => bindR (getS bs 2) fun k => bindR (tailS bs L k) fun maps => pureR (⟨fl, nm, ds, st, lo, none, 0, 0, code, none, 0, 0, traps, none, 0, 0, maps⟩ : KM)) s).1.traps = (timesS 255 (trapS bs) tn s).1 := rfl
    rw [h4, h3]
theorem bytes_full (cn : Int) (hc0 : 0 ≤ cn) (s : St) (h1 : (bytesS bs cn s).2.2 = 0) (hs : s.1 ≤ bs.length) : ((bytesS bs cn s).1.length : Int) = cn := by
  unfold bytesS at h1 ⊢
  by_cases h2 : s.2 = 0
  · rw [if_neg (by simp [h2])] at h1 ⊢
    by_cases hc : (bs.length : Int) - (s.1 : Int) < cn
    · rw [if_pos hc] at h1; simp at h1
    · rw [if_neg hc]
      simp only [List.length_take, List.length_drop]
      omega
  · rw [if_pos h2] at h1; exact absurd h1 h2
set_option maxHeartbeats 2000000 in
theorem InvR.code3 (L : List KV) (fl nm ds st lo : Int) : InvR bs (bindR (getS bs 4) fun cn => bindR (bytesS bs cn) fun code => bindR (getS bs 2) fun tn => bindR (timesS 255 (trapS bs) tn) fun traps => bindR (getS bs 2) fun k => bindR (tailS bs L k) fun maps => pureR (⟨fl, nm, ds, st, lo, none, 0, 0, code, none, 0, 0, traps, none, 0, 0, maps⟩ : KM))
    (fun m => putB (u64N (m.code.length : Int)) 4 ++ (m.code ++ (putB (u64N (m.traps.length : Int)) 2 ++ (m.traps.flatMap trapB ++ tailB L m.maps)))) := by
  refine InvR.bindP (ef := fun v => putB (u64N v) 4) (eg := fun _ m => m.code ++ (putB (u64N (m.traps.length : Int)) 2 ++ (m.traps.flatMap trapB ++ tailB L m.maps))) (fun v => 0 ≤ v) (fun s => (getS_val bs 4 (by decide) s).1) (InvR.get 4 (by decide)) (fun cn _ => ?_) (fun cn s hp hs h => ?_)
  · exact InvR.bind (eg := fun _ m => putB (u64N (m.traps.length : Int)) 2 ++ (m.traps.flatMap trapB ++ tailB L m.maps)) (InvR.bytes cn) (fun code => InvR.code5 L fl nm ds st lo code) (fun code s => by simp only [bindR, pureR])
  · have hT := InvR.bytes (bs := bs) cn s hs
    obtain ⟨h1, -⟩ := InvR.code5 (bs := bs) L fl nm ds st lo (bytesS bs cn s).1 (bytesS bs cn s).2 (fun h0 => (hT h0).2.2.1) h
    obtain ⟨h2, h3, h4, h5⟩ := hT h1
    have h6 : ((bytesS bs cn s).1.length : Int) = cn := bytes_full cn hp s h1 (hs h2)
    have h7 : ((bindR (bytesS bs cn) fun code => bindR (getS bs 2) fun tn => bindR (timesS 255 (trapS bs) tn) fun traps => bindR (getS bs 2) fun k => bindR (tailS bs L k) fun maps => pureR (⟨fl, nm, ds, st, lo, none, 0, 0, code, none, 0, 0, traps, none, 0, 0, maps⟩ : KM)) s).1.code = (bytesS bs cn s).1 := rfl
    rw [h7, h6]
set_option maxHeartbeats 8000000 in
theorem InvR.code (L : List KV) (fl nm ds : Int) : InvR bs (kcodeS bs L fl nm ds) (codeB L) := by
  have e : ∀ m : KM, codeB L m = putB (u64N m.st) 2 ++ (putB (u64N m.lo) 2 ++ (putB (u64N (m.code.length : Int)) 4 ++ (m.code ++ (putB (u64N (m.traps.length : Int)) 2 ++ (m.traps.flatMap trapB ++ tailB L m.maps))))) := fun m => by unfold codeB z2 z4; simp
  refine InvR.bind (eg := fun _ m => putB (u64N m.lo) 2 ++ (putB (u64N (m.code.length : Int)) 4 ++ (m.code ++ (putB (u64N (m.traps.length : Int)) 2 ++ (m.traps.flatMap trapB ++ tailB L m.maps))))) (InvR.get 2 (by decide)) (fun st => ?_) (fun st s => by rw [e]; simp only [bindR, pureR])
  exact InvR.bind (eg := fun _ m => putB (u64N (m.code.length : Int)) 4 ++ (m.code ++ (putB (u64N (m.traps.length : Int)) 2 ++ (m.traps.flatMap trapB ++ tailB L m.maps)))) (InvR.get 2 (by decide)) (fun lo => InvR.code3 L fl nm ds st lo) (fun lo s => by simp only [bindR, pureR])
end
end Go.Proofs.Ytnfhiakdbakpgaa
/- klass: a class that is read has just these bytes. Plain. -/
namespace Go.Proofs.Ytnfhiakdbakpgaa
open Go.RowKit
section
variable {bs : List UInt8}
theorem sized_head (L : List KV) (a b c : Int) (s : St) : (sizedS bs (kcodeS bs L a b c) s).1.fl = a ∧ (sizedS bs (kcodeS bs L a b c) s).1.nm = b ∧ (sizedS bs (kcodeS bs L a b c) s).1.ds = c := by
  rw [sizedS_fst]
  exact ⟨rfl, rfl, rfl⟩
def methT (L : List KV) (m : KM) : List UInt8 := ([1, (findT L sCode : Int)].flatMap fun v => putB (u64N v) 2) ++ (putB (u64N ((codeB L m).length : Int)) 4 ++ codeB L m)
theorem methB_eq (L : List KV) (m : KM) : methB L m = putB (u64N m.fl) 2 ++ (putB (u64N m.nm) 2 ++ (putB (u64N m.ds) 2 ++ methT L m)) := by
  unfold methB methT z2 z4
  simp
theorem InvR.meth3 (L : List KV) (a b c : Int) : InvR bs (bindR (mustS bs 2 [1, (findT L sCode : Int)]) fun _ => sizedS bs (kcodeS bs L a b c)) (methT L) :=
  InvR.bind (eg := fun _ m => putB (u64N ((codeB L m).length : Int)) 4 ++ codeB L m) (InvR.must 2 (by decide) [1, (findT L sCode : Int)] (fun _ _ => trivial)) (fun _ => InvR.sized (InvR.code L a b c)) (fun _ _ => rfl)
theorem InvR.meth (L : List KV) : InvR bs (methS bs L) (methB L) := by
  refine InvR.bind (eg := fun _ m => putB (u64N m.nm) 2 ++ (putB (u64N m.ds) 2 ++ methT L m)) (InvR.get 2 (by decide)) (fun a => ?_) (fun a s => ?_)
  · refine InvR.bind (eg := fun _ m => putB (u64N m.ds) 2 ++ methT L m) (InvR.get 2 (by decide)) (fun b => ?_) (fun b s => ?_)
    · refine InvR.bind (eg := fun _ m => methT L m) (InvR.get 2 (by decide)) (fun c => InvR.meth3 L a b c) (fun c s => ?_)
      have h := (sized_head (bs := bs) L a b c (mustS bs 2 [1, (findT L sCode : Int)] s).2).2.2
      simp only [bindR] at h ⊢
      rw [h]
    · have h := (sized_head (bs := bs) L a b (getS bs 2 s).1 (mustS bs 2 [1, (findT L sCode : Int)] (getS bs 2 s).2).2).2.1
      simp only [bindR] at h ⊢
      rw [h]
  · have h := (sized_head (bs := bs) L a (getS bs 2 s).1 (getS bs 2 (getS bs 2 s).2).1 (mustS bs 2 [1, (findT L sCode : Int)] (getS bs 2 (getS bs 2 s).2).2).2).1
    rw [methB_eq]
    simp only [bindR] at h ⊢
    rw [h]
end
end Go.Proofs.Ytnfhiakdbakpgaa
/- klass: a class that is read has just these bytes. Plain. -/
namespace Go.Proofs.Ytnfhiakdbakpgaa
open Go.RowKit
section
variable {bs : List UInt8}
def p2 (v : Int) : List UInt8 := putB (u64N v) 2
def m0B : List UInt8 := [0].flatMap fun v => putB (u64N v) 2
def restT (L : List KV) (f : KF) : List UInt8 := p2 (f.methods.length : Int) ++ (f.methods.flatMap (methB L) ++ m0B)
def restF (L : List KV) (f : KF) : List UInt8 := p2 (f.fields.length : Int) ++ (f.fields.flatMap fieldB ++ restT L f)
theorem InvR.rest2 (L : List KV) (th su : Int) (fields : List KD) : InvR bs (bindR (getS bs 2) fun mn => bindR (timesS 64 (methS bs L) mn) fun methods => bindR (mustS bs 2 [0]) fun _ => pureR (⟨none, 0, 0, L, th, su, none, 0, 0, fields, none, 0, 0, methods⟩ : KF)) (restT L) := by
  refine InvR.bindP (ef := p2) (eg := fun _ f => f.methods.flatMap (methB L) ++ m0B) (fun v => 0 ≤ v ∧ v < 65536) (fun s => getS_two bs 2 (by decide) s) (InvR.get 2 (by decide)) (fun mn _ => ?_) (fun mn s hp hs h => ?_)
  · refine InvR.bind (eg := fun _ _ => m0B) (InvR.times (InvR.meth L) 64 mn) (fun methods => ?_) (fun methods s => by simp only [bindR, pureR])
    exact InvR.bind (eg := fun _ _ => []) (InvR.must 2 (by decide) [0] (fun _ _ => trivial)) (fun _ => InvR.pure _ _ rfl) (fun _ s => by simp [pureR, m0B])
  · have hT := InvR.times (bs := bs) (InvR.meth L) 64 mn s hs
    have hM := InvR.must (bs := bs) 2 (by decide) [0] (fun _ _ => trivial)
    have h2 : (mustS bs 2 [0] (timesS 64 (methS bs L) mn s).2).2.2 = 0 := h
    obtain ⟨h1, -⟩ := hM (timesS 64 (methS bs L) mn s).2 (fun h0 => (hT h0).2.2.1) h2
    have h3 := timesS_full hp.1 s h1
    show p2 ((timesS 64 (methS bs L) mn s).1.length : Int) ++ _ = _
    rw [h3]
theorem InvR.rest1 (L : List KV) (th su : Int) : InvR bs (bindR (getS bs 2) fun fn => bindR (timesS 64 (fieldS bs) fn) fun fields => bindR (getS bs 2) fun mn => bindR (timesS 64 (methS bs L) mn) fun methods => bindR (mustS bs 2 [0]) fun _ => pureR (⟨none, 0, 0, L, th, su, none, 0, 0, fields, none, 0, 0, methods⟩ : KF)) (restF L) := by
  refine InvR.bindP (ef := p2) (eg := fun _ f => f.fields.flatMap fieldB ++ restT L f) (fun v => 0 ≤ v ∧ v < 65536) (fun s => getS_two bs 2 (by decide) s) (InvR.get 2 (by decide)) (fun fn _ => ?_) (fun fn s hp hs h => ?_)
  · exact InvR.bind (eg := fun _ f => restT L f) (InvR.times InvR.field 64 fn) (fun fields => InvR.rest2 L th su fields) (fun fields s => by simp only [bindR, pureR])
  · have hT := InvR.times (bs := bs) InvR.field 64 fn s hs
    obtain ⟨h1, -⟩ := InvR.rest2 (bs := bs) L th su (timesS 64 (fieldS bs) fn s).1 (timesS 64 (fieldS bs) fn s).2 (fun h0 => (hT h0).2.2.1) h
    have h3 := timesS_full hp.1 s h1
    show p2 ((timesS 64 (fieldS bs) fn s).1.length : Int) ++ _ = _
    rw [h3]
/-- A class's bytes behind its pool. -/
def backB (L : List KV) (f : KF) : List UInt8 := ([33].flatMap fun v => putB (u64N v) 2) ++ (p2 f.th ++ (p2 f.su ++ (m0B ++ restF L f)))
set_option maxHeartbeats 2000000 in
theorem InvR.rest (L : List KV) : InvR bs (restS bs L) (backB L) := by
  refine InvR.bind (eg := fun _ f => p2 f.th ++ (p2 f.su ++ (m0B ++ restF L f))) (InvR.must 2 (by decide) [33] (fun _ _ => trivial)) (fun _ => ?_) (fun _ s => rfl)
  refine InvR.bind (ef := p2) (eg := fun _ f => p2 f.su ++ (m0B ++ restF L f)) (InvR.get 2 (by decide)) (fun th => ?_) (fun th s => by simp only [bindR, pureR])
  refine InvR.bind (ef := p2) (eg := fun _ f => m0B ++ restF L f) (InvR.get 2 (by decide)) (fun su => ?_) (fun su s => by simp only [bindR, pureR])
  exact InvR.bind (eg := fun _ f => restF L f) (InvR.must 2 (by decide) [0] (fun _ _ => trivial)) (fun _ => InvR.rest1 L th su) (fun _ s => rfl)
theorem classB_back (f : KF) : classB f = z4 3405691582 ++ z2 [0, 45] ++ bytesK f.pool ++ backB f.pool f := by
  unfold classB backB restF restT m0B p2 z2
  simp
end
end Go.Proofs.Ytnfhiakdbakpgaa
/- klass: a class that is parsed has just these bytes, and may be. Plain. -/
namespace Go.Proofs.Ytnfhiakdbakpgaa
open Go.RowKit
theorem head_inv (bs : List UInt8) (h : (headS bs).2 = 0) : (headS bs).1 = 8 ∧ 8 ≤ bs.length ∧ bs = z4 3405691582 ++ z2 [0, 45] ++ bs.drop 8 := by
  have hA := InvR.must (bs := bs) 4 (by decide) [3405691582] (fun _ _ => trivial) (0, 0) (fun _ => Nat.zero_le _)
  have hB := InvR.must (bs := bs) 2 (by decide) [0, 45] (fun _ _ => trivial) (mustS bs 4 [3405691582] (0, 0)).2 (fun h0 => (hA h0).2.2.1) h
  obtain ⟨b0, b1, b2, b3⟩ := hB
  obtain ⟨a0, a1, a2, a3⟩ := hA b0
  have l1 : ([3405691582].flatMap fun v => putB (u64N v) 4).length = 4 := by simp [putB_length]
  have l2 : (([0, 45] : List Int).flatMap fun v => putB (u64N v) 2).length = 4 := by simp [putB_length]
  dsimp only at a1 a3 b1 b3
  rw [l1] at a1
  rw [l2] at b1
  have e : (headS bs).1 = 8 := by
    show (mustS bs 2 [0, 45] (mustS bs 4 [3405691582] (0, 0)).2).2.1 = 8
    omega
  refine ⟨e, by rw [← e]; exact b2, ?_⟩
  have e2 : (mustS bs 2 [0, 45] (mustS bs 4 [3405691582] (0, 0)).2).2.1 = 8 := e
  rw [e2] at b3
  rw [b3] at a3
  simp only [List.drop_zero] at a3
  unfold z4 z2
  rw [List.append_assoc]
  simpa using a3
theorem parseF_inv (bs : List UInt8) (h : (parseF bs).2 = 0) : classB (parseF bs).1 = bs ∧ classOk (parseF bs).1 = true := by
  unfold parseF at h ⊢
  by_cases h0 : (headS bs).2 = 0
  · rw [if_neg (by simp [h0])] at h ⊢
    obtain ⟨p1, p2, p3⟩ := head_inv bs h0
    rw [p1] at h ⊢
    by_cases h1 : (parseK (bs.drop 8)).1 = 0
    · rw [if_neg (by simp [h1])] at h ⊢
      obtain ⟨k1, k2, k3, k4⟩ := parse_inv (bs.drop 8) h1
      generalize hL : (parseK (bs.drop 8)).2.2 = L at *
      generalize (parseK (bs.drop 8)).2.1 = n at *
      have hn : 8 + n ≤ bs.length := by rw [List.length_drop] at k1; omega
      have hR := InvR.rest (bs := bs) L (8 + n, 0) (fun _ => hn)
      have hpool : (restS bs L (8 + n, 0)).1.pool = L := rfl
      generalize restS bs L (8 + n, 0) = R at *
      simp only at h ⊢
      by_cases h2 : R.2.2 = 0
      · rw [if_neg (by simp [h2])] at h ⊢
        by_cases h3 : R.2.1 ≠ bs.length ∨ classOk R.1 = false
        · rw [if_pos h3] at h; simp at h
        · rw [if_neg h3]
          obtain ⟨-, r1, r2, r3⟩ := hR h2
          have hfin : R.2.1 = bs.length := by
            by_cases hq : R.2.1 = bs.length
            · exact hq
            · exact absurd (.inl hq) h3
          refine ⟨?_, ?_⟩
          · rw [classB_back, hpool]
            rw [hfin, List.drop_length, List.append_nil] at r3
            have h5 : bs.drop 8 = bytesK L ++ bs.drop (8 + n) := by rw [← List.drop_drop]; exact k2
            conv => rhs; rw [p3, h5, r3]
            simp
          · cases hb : classOk R.1
            · exact absurd (.inr hb) h3
            · rfl
      · rw [if_pos h2] at h; exact absurd h h2
    · rw [if_pos h1] at h; exact absurd h h1
  · rw [if_pos h0] at h; exact absurd h h0
end Go.Proofs.Ytnfhiakdbakpgaa
