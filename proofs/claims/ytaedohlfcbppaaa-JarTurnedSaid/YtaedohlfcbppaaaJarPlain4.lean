/- jar: what is told has these bytes, plain. No program in sight. -/
import Derived.Test.YtaedohlfcbppaaaJarPlain3
namespace Go.Proofs.Ytaedohlfcbppaaa
open Go.RowKit
theorem put_take (b : List UInt8) (m : Nat) (h : m ≤ b.length) : b = putB (getN (b.take m)) m ++ b.drop m := by
  have h1 := put_get (b.take m)
  rw [List.length_take, Nat.min_eq_left h] at h1
  rw [h1, List.take_append_drop]
theorem item_back {b : List UInt8} {names : List (List UInt8)} {x : IV} {r : List UInt8} (h : itemR b names = (0, x, r)) : b = x.bytes ++ r ∧ nameOk x.name = true ∧ ¬ x.name ∈ names := by
  rw [itemR.eq_1] at h
  by_cases c1 : b.length < 1
  · rw [if_pos c1] at h; cases h
  rw [if_neg c1] at h
  by_cases c2 : b.length - 1 < (b.getD 0 0).toNat
  · rw [if_pos c2] at h; cases h
  rw [if_neg c2] at h
  simp only at h
  have e1 := put_take b 1 (by omega)
  rw [getN_one1 b (by omega)] at e1
  generalize (b.getD 0 0).toNat = k at *
  have e2 : b.drop 1 = (b.drop 1).take k ++ b.drop (1 + k) := by rw [← List.drop_drop, List.take_append_drop]
  have l2 : ((b.drop 1).take k).length = k := by simp; omega
  by_cases c3 : nameOk ((b.drop 1).take k) = false ∨ (b.drop 1).take k ∈ names
  · rw [if_pos c3] at h; cases h
  rw [if_neg c3] at h
  generalize (b.drop 1).take k = nm at *
  generalize b.drop (1 + k) = q at *
  by_cases c4 : q.length < 4
  · rw [if_pos c4] at h; cases h
  rw [if_neg c4] at h
  by_cases c5 : q.length - 4 < getN (q.take 4) + 4
  · rw [if_pos c5] at h; cases h
  rw [if_neg c5] at h
  have e3 := put_take q 4 (by omega)
  generalize getN (q.take 4) = m at *
  have e4 : q.drop 4 = (q.drop 4).take m ++ q.drop (4 + m) := by rw [← List.drop_drop, List.take_append_drop]
  have l4 : ((q.drop 4).take m).length = m := by simp; omega
  have l5 : 4 ≤ (q.drop (4 + m)).length := by simp; omega
  generalize (q.drop 4).take m = ds at *
  generalize q.drop (4 + m) = z at *
  have e5 := put_take z 4 l5
  by_cases c6 : getN (z.take 4) = sumN ds
  · rw [if_pos c6] at h
    cases h
    rw [c6] at e5
    refine ⟨?_, ?_, fun hm => c3 (.inr hm)⟩
    · have hb : (⟨nm, ds⟩ : IV).bytes = putB nm.length 1 ++ nm ++ putB ds.length 4 ++ ds ++ putB (sumN ds) 4 := rfl
      rw [hb, l2, l4]
      calc b = putB k 1 ++ b.drop 1 := e1
        _ = putB k 1 ++ (nm ++ q) := by rw [e2]
        _ = putB k 1 ++ (nm ++ (putB m 4 ++ q.drop 4)) := by rw [← e3]
        _ = putB k 1 ++ (nm ++ (putB m 4 ++ (ds ++ z))) := by rw [e4]
        _ = putB k 1 ++ (nm ++ (putB m 4 ++ (ds ++ (putB (sumN ds) 4 ++ z.drop 4)))) := by rw [← e5]
        _ = _ := by simp only [List.append_assoc]
    · cases hn : nameOk nm
      · exact absurd (.inl hn) c3
      · rfl
  · rw [if_neg c6] at h; cases h
theorem items_back : ∀ (k : Nat) (b : List UInt8) (acc l : List IV) (r : List UInt8), itemsR k b acc = (0, l, r) → (acc.map (·.name)).Nodup → (∀ x ∈ acc, nameOk x.name = true) →
    ∃ m, l = acc ++ m ∧ m.length = k ∧ b = m.flatMap IV.bytes ++ r ∧ (l.map (·.name)).Nodup ∧ ∀ x ∈ l, nameOk x.name = true := by
  intro k
  induction k with
  | zero =>
    intro b acc l r h h1 h2
    cases h
    exact ⟨[], by simp, rfl, by simp, h1, h2⟩
  | succ k ih =>
    intro b acc l r h h1 h2
    obtain ⟨e, x, q⟩ : Int × IV × List UInt8 := itemR b (acc.map (·.name))
    generalize hi : itemR b (acc.map (·.name)) = I at *
    obtain ⟨e, x, q⟩ := I
    rw [itemsR, hi] at h
    simp only at h
    by_cases he : e ≠ 0
    · rw [if_pos he] at h
      simp only [Prod.mk.injEq] at h
      exact absurd h.1 he
    rw [if_neg he] at h
    have he0 : e = 0 := by simpa using he
    subst he0
    obtain ⟨hb, hn, hx⟩ := item_back hi
    obtain ⟨m, h3, h4, h5, h6, h7⟩ := ih q (acc ++ [x]) l r h (by
      rw [List.map_append, List.nodup_append]
      refine ⟨h1, by simp, fun y hy z hz e => ?_⟩
      simp only [List.map_cons, List.map_nil, List.mem_singleton] at hz
      subst hz
      subst e
      exact hx hy) (fun y hy => by
      rcases List.mem_append.1 hy with h | h
      · exact h2 y h
      · rw [List.mem_singleton.1 h]; exact hn)
    refine ⟨x :: m, by rw [h3]; simp, by simp [h4], ?_, h6, h7⟩
    rw [hb, h5, List.flatMap_cons, List.append_assoc]
theorem unpack_back {bs : List UInt8} {l : List IV} (h : unpackR bs = (0, l)) : packR l = (0, bs) := by
  rw [unpackR.eq_1] at h
  by_cases c1 : 65536 < bs.length
  · rw [if_pos c1] at h; cases h
  rw [if_neg c1] at h
  by_cases c2 : bs.length < 4
  · rw [if_pos c2] at h; cases h
  rw [if_neg c2] at h
  by_cases c3 : bs.take 4 ≠ magicB
  · rw [if_pos c3] at h; cases h
  rw [if_neg c3] at h
  by_cases c4 : bs.length < 5
  · rw [if_pos c4] at h; cases h
  rw [if_neg c4] at h
  by_cases c5 : 40 < (bs.getD 4 0).toNat
  · rw [if_pos c5] at h; cases h
  rw [if_neg c5] at h
  have c3' : bs.take 4 = magicB := by simpa using c3
  generalize hI : itemsR (bs.getD 4 0).toNat (bs.drop 5) [] = I at *
  obtain ⟨e, l', r⟩ := I
  simp only at h
  by_cases he : e ≠ 0
  · rw [if_pos he] at h
    simp only [Prod.mk.injEq] at h
    exact absurd h.1 he
  rw [if_neg he] at h
  have he0 : e = 0 := by simpa using he
  subst he0
  by_cases hr : 0 < r.length
  · rw [if_pos hr] at h; cases h
  rw [if_neg hr] at h
  cases h
  have hr0 : r = [] := List.eq_nil_of_length_eq_zero (by omega)
  subst hr0
  obtain ⟨m, h3, h4, h5, h6, h7⟩ := items_back _ _ _ _ _ hI List.nodup_nil (fun x hx => by cases hx)
  rw [List.nil_append] at h3
  subst h3
  rw [List.append_nil] at h5
  have hj : jarB l = bs := by
    unfold jarB
    rw [h4, ← c3', ← h5]
    have hg : UInt8.ofNat (bs.getD 4 0).toNat = bs[4]'(by omega) := by simp [List.getD, (by omega : 4 < bs.length)]
    rw [hg]
    have h8 : bs.drop 4 = bs[4]'(by omega) :: bs.drop 5 := List.drop_eq_getElem_cons (by omega)
    calc bs.take 4 ++ [bs[4]'(by omega)] ++ bs.drop 5 = bs.take 4 ++ (bs[4]'(by omega) :: bs.drop 5) := by simp
      _ = bs.take 4 ++ bs.drop 4 := by rw [← h8]
      _ = bs := List.take_append_drop 4 bs
  have hl := jar_length l
  rw [hj] at hl
  rw [pack_ok h7 (by unfold apartB; exact decide_eq_true h6) (by omega), hj]
theorem unpack_few {bs : List UInt8} {l : List IV} {e : Int} (h : unpackR bs = (e, l)) : l.length ≤ 40 ∧ ∀ x ∈ l, x.data.length ≤ 65536 ∧ x.name.length ≤ 64 := by
  by_cases he : e = 0
  · subst he
    have h1 := unpack_back h
    unfold packR at h1
    by_cases c1 : (l.all fun x => nameOk x.name) = false
    · rw [if_pos c1] at h1; cases h1
    rw [if_neg c1] at h1
    by_cases c2 : apartB l = false
    · rw [if_pos c2] at h1; cases h1
    rw [if_neg c2] at h1
    by_cases c3 : 40 < l.length ∨ 65536 < (jarB l).length
    · rw [if_pos c3] at h1; cases h1
    refine ⟨by omega, fun x hx => ?_⟩
    have h2 : (jarB l).length ≤ 65536 := by omega
    rw [jar_length] at h2
    obtain ⟨p, s, rfl⟩ := List.append_of_mem hx
    have h3 : jarN (p ++ x :: s) = jarN p + (9 + x.name.length + x.data.length) + (s.map fun x => 9 + x.name.length + x.data.length).sum := by
      unfold jarN; simp; omega
    have h4 : nameOk x.name = true := by
      have : ((p ++ x :: s).all fun x => nameOk x.name) = true := by simpa using c1
      exact List.all_eq_true.1 this x hx
    unfold nameOk at h4
    simp only [Bool.and_eq_true, decide_eq_true_eq] at h4
    exact ⟨by omega, h4.1.2⟩
  · have : l = [] := by
      unfold unpackR at h
      split at h
      · cases h; rfl
      split at h
      · cases h; rfl
      split at h
      · cases h; rfl
      split at h
      · cases h; rfl
      split at h
      · cases h; rfl
      simp only at h
      split at h
      · cases h; rfl
      split at h
      · cases h; rfl
      · simp only [Prod.mk.injEq] at h
        exact absurd h.1.symm he
    subst this
    exact ⟨by simp, fun x hx => by cases hx⟩
end Go.Proofs.Ytaedohlfcbppaaa
