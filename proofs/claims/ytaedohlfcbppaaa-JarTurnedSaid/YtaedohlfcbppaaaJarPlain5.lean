/- jar: a jar is told, none of its beginnings is, nor it with more behind, plain. No program in sight. -/
import Derived.Test.YtaedohlfcbppaaaJarRef4
namespace Go.Proofs.Ytaedohlfcbppaaa
open Go.RowKit
theorem get_putJ (v : Nat) (h : v < 4294967296) : getN (putB v 4) = v := by
  rw [get_put v 4, Nat.mod_eq_of_lt (by omega)]
theorem iv_cons (x : IV) (h : x.name.length < 256) : x.bytes = UInt8.ofNat x.name.length :: (x.name ++ (putB x.data.length 4 ++ (x.data ++ putB (sumN x.data) 4))) := by
  unfold IV.bytes
  rw [putB_oneJ _ h]
  simp only [List.append_assoc, List.cons_append, List.nil_append]
theorem name_len {s : List UInt8} (h : nameOk s = true) : s.length ≤ 64 := by
  unfold nameOk at h
  simp only [Bool.and_eq_true, decide_eq_true_eq] at h
  exact h.1.2
/-- An item whose name is there: what follows it. -/
theorem item_head {nm q : List UInt8} {names : List (List UInt8)} (hn : nameOk nm = true) (hx : ¬ nm ∈ names) :
    itemR (UInt8.ofNat nm.length :: (nm ++ q)) names =
      if q.length < 4 then (6, ⟨nm, []⟩, [])
      else if q.length - 4 < getN (q.take 4) + 4 then (6, ⟨nm, []⟩, [])
      else if getN ((q.drop (4 + getN (q.take 4))).take 4) = sumN ((q.drop 4).take (getN (q.take 4))) then (0, ⟨nm, (q.drop 4).take (getN (q.take 4))⟩, (q.drop (4 + getN (q.take 4))).drop 4)
      else (7, ⟨nm, (q.drop 4).take (getN (q.take 4))⟩, []) := by
  have hl := name_len hn
  have h0 : (((UInt8.ofNat nm.length :: (nm ++ q)).getD 0 0).toNat) = nm.length := by
    rw [List.getD_cons_zero, UInt8.toNat_ofNat_of_lt' (by omega : nm.length < 256)]
  have h1 : ((UInt8.ofNat nm.length :: (nm ++ q)).drop 1).take nm.length = nm := by simp
  have h2 : (UInt8.ofNat nm.length :: (nm ++ q)).drop (1 + nm.length) = q := by rw [Nat.add_comm, List.drop_succ_cons, List.drop_left]
  rw [itemR.eq_1, if_neg (by simp), h0, if_neg (by simp)]
  simp only [h1, h2]
  rw [if_neg (by rintro (h | h); · rw [hn] at h; cases h
                 · exact hx h)]
theorem item_ok {x : IV} {r : List UInt8} {names : List (List UInt8)} (hn : nameOk x.name = true) (hx : ¬ x.name ∈ names) (hd : x.data.length < 4294967296) : itemR (x.bytes ++ r) names = (0, x, r) := by
  have hl := name_len hn
  rw [iv_cons x (by omega), List.cons_append, List.append_assoc, item_head hn hx]
  have l4 := putB_length x.data.length 4
  have l5 := putB_length (sumN x.data) 4
  have e1 : ((putB x.data.length 4 ++ (x.data ++ putB (sumN x.data) 4)) ++ r) = putB x.data.length 4 ++ (x.data ++ (putB (sumN x.data) 4 ++ r)) := by simp only [List.append_assoc]
  rw [e1]
  have e2 : (putB x.data.length 4 ++ (x.data ++ (putB (sumN x.data) 4 ++ r))).take 4 = putB x.data.length 4 := by rw [List.take_append_of_le_length (by omega), List.take_of_length_le (by omega)]
  have e3 : (putB x.data.length 4 ++ (x.data ++ (putB (sumN x.data) 4 ++ r))).drop 4 = x.data ++ (putB (sumN x.data) 4 ++ r) := by rw [List.drop_append_of_le_length (by omega), List.drop_of_length_le (by omega), List.nil_append]
  rw [e2, get_putJ _ hd, if_neg (by simp only [List.length_append]; omega), if_neg (by simp only [List.length_append]; omega)]
  rw [← List.drop_drop, e3, List.take_left, List.drop_left]
  have e4 : (putB (sumN x.data) 4 ++ r).take 4 = putB (sumN x.data) 4 := by rw [List.take_append_of_le_length (by omega), List.take_of_length_le (by omega)]
  have e5 : (putB (sumN x.data) 4 ++ r).drop 4 = r := by rw [List.drop_append_of_le_length (by omega), List.drop_of_length_le (by omega), List.nil_append]
  rw [e4, get_putJ _ (sumN_lt _), if_pos rfl, e5]
theorem item_cut {x : IV} {c : Nat} {names : List (List UInt8)} (hn : nameOk x.name = true) (hx : ¬ x.name ∈ names) (hd : x.data.length < 4294967296) (hc : c < x.bytes.length) : (itemR (x.bytes.take c) names).1 = 6 := by
  have hl := name_len hn
  rw [iv_length] at hc
  rw [iv_cons x (by omega)]
  cases c with
  | zero => rw [List.take_zero, itemR.eq_1, if_pos (by simp)]
  | succ c =>
    rw [List.take_succ_cons]
    by_cases h1 : c < x.name.length
    · rw [List.take_append_of_le_length (by omega), itemR.eq_1, if_neg (by simp), if_pos]
      rw [List.getD_cons_zero, UInt8.toNat_ofNat_of_lt' (by omega : x.name.length < 256)]
      simp only [List.length_cons, List.length_take]
      omega
    · obtain ⟨d, rfl⟩ : ∃ d, c = x.name.length + d := ⟨c - x.name.length, by omega⟩
      rw [List.take_length_add_append, item_head hn hx]
      have l4 := putB_length x.data.length 4
      have l5 := putB_length (sumN x.data) 4
      have lq : ((putB x.data.length 4 ++ (x.data ++ putB (sumN x.data) 4)).take d).length = d := by
        simp only [List.length_take, List.length_append, l4, l5]
        omega
      rw [lq]
      by_cases h2 : d < 4
      · rw [if_pos h2]
      · have e2 : ((putB x.data.length 4 ++ (x.data ++ putB (sumN x.data) 4)).take d).take 4 = putB x.data.length 4 := by
          rw [List.take_take, Nat.min_eq_left (by omega), List.take_append_of_le_length (by omega), List.take_of_length_le (by omega)]
        rw [if_neg h2, e2, get_putJ _ hd, if_pos (by omega)]
theorem nodup_split {acc m : List IV} {x : IV} (h : ((acc ++ x :: m).map (·.name)).Nodup) : ¬ x.name ∈ acc.map (·.name) := by
  rw [List.map_append, List.map_cons, List.nodup_append] at h
  intro hx
  exact h.2.2 _ hx _ (by simp) rfl
theorem items_ok : ∀ (m acc : List IV) (r : List UInt8), ((acc ++ m).map (·.name)).Nodup → (∀ x ∈ m, nameOk x.name = true ∧ x.data.length < 4294967296) → itemsR m.length (m.flatMap IV.bytes ++ r) acc = (0, acc ++ m, r) := by
  intro m
  induction m with
  | nil => intro acc r _ _; simp [itemsR]
  | cons x m ih =>
    intro acc r hn h
    obtain ⟨h1, h2⟩ := h x (by simp)
    rw [List.length_cons, List.flatMap_cons, List.append_assoc, items_next (item_ok h1 (nodup_split hn) h2), ih (acc ++ [x]) r (by rw [List.append_assoc]; exact hn) (fun y hy => h y (by simp [hy]))]
    simp
theorem items_cut : ∀ (m acc : List IV) (c : Nat), ((acc ++ m).map (·.name)).Nodup → (∀ x ∈ m, nameOk x.name = true ∧ x.data.length < 4294967296) → c < (m.flatMap IV.bytes).length → (itemsR m.length ((m.flatMap IV.bytes).take c) acc).1 = 6 := by
  intro m
  induction m with
  | nil => intro acc c _ _ h; simp at h
  | cons x m ih =>
    intro acc c hn h hc
    obtain ⟨h1, h2⟩ := h x (by simp)
    rw [List.flatMap_cons, List.length_append] at hc
    rw [List.length_cons, List.flatMap_cons]
    by_cases hcx : c < x.bytes.length
    · rw [List.take_append_of_le_length (by omega)]
      have h3 := item_cut h1 (nodup_split hn) h2 hcx
      rw [itemsR, if_pos (by rw [h3]; decide), h3]
    · obtain ⟨d, rfl⟩ : ∃ d, c = x.bytes.length + d := ⟨c - x.bytes.length, by omega⟩
      rw [List.take_length_add_append, items_next (item_ok h1 (nodup_split hn) h2)]
      exact ih (acc ++ [x]) d (by rw [List.append_assoc]; exact hn) (fun y hy => h y (by simp [hy])) (by omega)
theorem pack_back {l : List IV} {bs : List UInt8} (h : packR l = (0, bs)) : bs = jarB l ∧ (∀ x ∈ l, nameOk x.name = true) ∧ (l.map (·.name)).Nodup ∧ l.length ≤ 40 ∧ jarN l ≤ 65536 := by
  unfold packR at h
  by_cases c1 : (l.all fun x => nameOk x.name) = false
  · rw [if_pos c1] at h; cases h
  rw [if_neg c1] at h
  by_cases c2 : apartB l = false
  · rw [if_pos c2] at h; cases h
  rw [if_neg c2] at h
  by_cases c3 : 40 < l.length ∨ 65536 < (jarB l).length
  · rw [if_pos c3] at h; cases h
  rw [if_neg c3] at h
  rw [jar_length] at c3
  cases h
  refine ⟨rfl, List.all_eq_true.1 (by simpa using c1), ?_, by omega, by omega⟩
  have h2 : apartB l = true := by simpa using c2
  unfold apartB at h2
  exact of_decide_eq_true h2
theorem data_le {l : List IV} {x : IV} (hx : x ∈ l) : 9 + x.name.length + x.data.length ≤ jarN l := by
  obtain ⟨p, s, rfl⟩ := List.append_of_mem hx
  unfold jarN; simp; omega
theorem jar_drop (l : List IV) (r : List UInt8) : (jarB l ++ r).drop 5 = l.flatMap IV.bytes ++ r := by
  unfold jarB magicB
  rfl
theorem jar_take4 (l : List IV) (r : List UInt8) : (jarB l ++ r).take 4 = magicB := by
  unfold jarB magicB
  rfl
theorem jar_at4 (l : List IV) (r : List UInt8) (h : l.length < 256) : ((jarB l ++ r).getD 4 0).toNat = l.length := by
  have h1 : (jarB l ++ r).getD 4 0 = UInt8.ofNat l.length := by unfold jarB magicB; rfl
  rw [h1, UInt8.toNat_ofNat_of_lt' h]
theorem unpack_jar {l : List IV} {bs : List UInt8} (h : packR l = (0, bs)) : unpackR bs = (0, l) := by
  obtain ⟨rfl, h1, h2, h3, h4⟩ := pack_back h
  have hl := jar_length l
  have h5 : 5 ≤ jarN l := by unfold jarN; omega
  have hi := items_ok l [] [] (by simpa using h2) (fun x hx => ⟨h1 x hx, by have := data_le hx; omega⟩)
  have e1 := jar_drop l []
  have e2 := jar_take4 l []
  have e3 := jar_at4 l [] (by omega)
  simp only [List.append_nil, List.nil_append] at hi e1 e2 e3
  rw [unpackR.eq_1, if_neg (by omega), if_neg (by omega), e2, if_neg (by simp), if_neg (by omega), e3, if_neg (by omega), e1, hi]
  simp
theorem unpack_more {l : List IV} {bs : List UInt8} (h : packR l = (0, bs)) (c : UInt8) (hb : bs.length ≤ 60000) : (unpackR (bs ++ [c])).1 = 8 := by
  obtain ⟨rfl, h1, h2, h3, h4⟩ := pack_back h
  have hl := jar_length l
  have h5 : 5 ≤ jarN l := by unfold jarN; omega
  have hi := items_ok l [] [c] (by simpa using h2) (fun x hx => ⟨h1 x hx, by have := data_le hx; omega⟩)
  have e3 := jar_at4 l [c] (by omega)
  have hlen : (jarB l ++ [c]).length = jarN l + 1 := by rw [List.length_append, hl]; rfl
  rw [unpackR.eq_1, if_neg (by omega), if_neg (by omega), jar_take4, if_neg (by simp), if_neg (by omega), e3, if_neg (by omega), jar_drop, hi]
  simp
theorem unpack_cut {l : List IV} {bs : List UInt8} (h : packR l = (0, bs)) {c : Nat} (hc : c < bs.length) : (unpackR (bs.take c)).1 = 6 := by
  obtain ⟨rfl, h1, h2, h3, h4⟩ := pack_back h
  have hl := jar_length l
  have hlen : ((jarB l).take c).length = c := by rw [List.length_take]; omega
  rw [unpackR.eq_1, if_neg (by omega)]
  by_cases c4 : c < 4
  · rw [if_pos (by omega)]
  have e2 := jar_take4 l []
  rw [List.append_nil] at e2
  rw [if_neg (by omega), List.take_take, Nat.min_eq_left (by omega), e2, if_neg (by simp)]
  by_cases c5 : c < 5
  · rw [if_pos (by omega)]
  obtain ⟨d, rfl⟩ : ∃ d, c = 5 + d := ⟨c - 5, by omega⟩
  have e1 := jar_drop l []
  have e3 := jar_at4 l [] (by omega)
  simp only [List.append_nil] at e1 e3
  have e4 : (((jarB l).take (5 + d)).getD 4 0).toNat = l.length := by
    rw [← e3]; congr 1
    simp only [List.getD_eq_getElem?_getD, List.getElem?_take]
    rw [if_pos (by omega)]
  have e5 : ((jarB l).take (5 + d)).drop 5 = (l.flatMap IV.bytes).take d := by rw [List.drop_take, e1]; congr 1; omega
  have hfl : (l.flatMap IV.bytes).length = jarN l - 5 := by rw [← e1, List.length_drop, hl]
  have hi := items_cut l [] d (by simpa using h2) (fun x hx => ⟨h1 x hx, by have := data_le hx; omega⟩) (by omega)
  rw [if_neg (by omega), e4, if_neg (by omega), e5]
  simp only [hi]
  rw [if_pos (by decide)]
end Go.Proofs.Ytaedohlfcbppaaa
