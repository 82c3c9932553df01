/- jar: a jar of two items in the first of which data is turned, plain. No program in sight. -/
import Derived.Test.YtaedohlfcbppaaaJarPlain5
namespace Go.Proofs.Ytaedohlfcbppaaa
open Go.RowKit
theorem item_turn {nm ds cs r : List UInt8} {names : List (List UInt8)} (hn : nameOk nm = true) (hx : ¬ nm ∈ names) (hl : cs.length = ds.length) (hd : ds.length < 4294967296) :
    itemR (UInt8.ofNat nm.length :: (nm ++ (putB ds.length 4 ++ (cs ++ (putB (sumN ds) 4 ++ r))))) names = if sumN ds = sumN cs then (0, ⟨nm, cs⟩, r) else (7, ⟨nm, cs⟩, []) := by
  rw [item_head hn hx]
  have l4 := putB_length ds.length 4
  have l5 := putB_length (sumN ds) 4
  have e2 : (putB ds.length 4 ++ (cs ++ (putB (sumN ds) 4 ++ r))).take 4 = putB ds.length 4 := by rw [List.take_append_of_le_length (by omega), List.take_of_length_le (by omega)]
  have e3 : (putB ds.length 4 ++ (cs ++ (putB (sumN ds) 4 ++ r))).drop 4 = cs ++ (putB (sumN ds) 4 ++ r) := by rw [List.drop_append_of_le_length (by omega), List.drop_of_length_le (by omega), List.nil_append]
  rw [e2, get_putJ _ hd, if_neg (by simp only [List.length_append]; omega), if_neg (by simp only [List.length_append]; omega)]
  rw [← List.drop_drop, e3, ← hl, List.take_left, List.drop_left]
  have e4 : (putB (sumN ds) 4 ++ r).take 4 = putB (sumN ds) 4 := by rw [List.take_append_of_le_length (by omega), List.take_of_length_le (by omega)]
  have e5 : (putB (sumN ds) 4 ++ r).drop 4 = r := by rw [List.drop_append_of_le_length (by omega), List.drop_of_length_le (by omega), List.nil_append]
  rw [e4, get_putJ _ (sumN_lt _), e5]
/-- What stands ahead of the first item's data, and behind it. -/
def preT (nm : List UInt8) (n : Nat) : List UInt8 := magicB ++ [2] ++ putB nm.length 1 ++ nm ++ putB n 4
def postT (ds es : List UInt8) : List UInt8 := putB (sumN ds) 4 ++ (⟨[122], es⟩ : IV).bytes
theorem preT_length (nm : List UInt8) (n : Nat) : (preT nm n).length = 10 + nm.length := by
  unfold preT magicB
  simp only [List.length_append, putB_length, List.length_cons, List.length_nil]
  omega
theorem postT_length (ds es : List UInt8) : (postT ds es).length = 14 + es.length := by
  unfold postT
  rw [List.length_append, putB_length, iv_length]
  simp only [List.length_cons, List.length_nil]
  omega
theorem pack_two {nm ds es : List UInt8} (hn : nameOk nm = true) (hz : nm ≠ [122]) (hd : ds.length ≤ 1500) (he : es.length ≤ 500) : packR [⟨nm, ds⟩, ⟨[122], es⟩] = (0, preT nm ds.length ++ ds ++ postT ds es) := by
  have hl := name_len hn
  rw [pack_ok]
  · unfold jarB preT postT
    simp only [List.flatMap_cons, List.flatMap_nil, List.append_nil, List.length_cons, List.length_nil]
    rw [show (⟨nm, ds⟩ : IV).bytes = putB nm.length 1 ++ nm ++ putB ds.length 4 ++ ds ++ putB (sumN ds) 4 from rfl]
    simp only [List.append_assoc]
    rfl
  · intro x hx
    simp only [List.mem_cons, List.not_mem_nil, or_false] at hx
    rcases hx with rfl | rfl
    · exact hn
    · show nameOk [122] = true; decide
  · unfold apartB
    simp [hz]
  · unfold jarN
    simp
    omega
theorem unpack_turn {nm ds cs es : List UInt8} (hn : nameOk nm = true) (hz : nm ≠ [122]) (hl : cs.length = ds.length) (hd : ds.length ≤ 1500) (he : es.length ≤ 500) :
    (unpackR (preT nm ds.length ++ cs ++ postT ds es)).1 = if sumN ds = sumN cs then 0 else 7 := by
  have hnl := name_len hn
  have h1 := preT_length nm ds.length
  have h2 := postT_length ds es
  have hlen : (preT nm ds.length ++ cs ++ postT ds es).length = 24 + nm.length + ds.length + es.length := by rw [List.length_append, List.length_append, h1, h2, hl]; omega
  have e1 : (preT nm ds.length ++ cs ++ postT ds es).take 4 = magicB := by unfold preT magicB; rfl
  have e2 : ((preT nm ds.length ++ cs ++ postT ds es).getD 4 0) = 2 := by unfold preT magicB; rfl
  have e3 : (preT nm ds.length ++ cs ++ postT ds es).drop 5 = UInt8.ofNat nm.length :: (nm ++ (putB ds.length 4 ++ (cs ++ (putB (sumN ds) 4 ++ (⟨[122], es⟩ : IV).bytes)))) := by
    unfold preT postT
    rw [putB_oneJ nm.length (by omega)]
    simp only [List.append_assoc, List.cons_append, List.nil_append]
    rfl
  rw [unpackR.eq_1, if_neg (by omega), if_neg (by omega), e1, if_neg (by simp), if_neg (by omega), e2, if_neg (by decide), e3]
  rw [show (2 : UInt8).toNat = 1 + 1 from rfl]
  have h3 := item_turn (names := []) (r := (⟨[122], es⟩ : IV).bytes) hn (by simp) hl (by omega)
  by_cases hs : sumN ds = sumN cs
  · rw [if_pos hs] at h3 ⊢
    have h4 := item_ok (x := ⟨[122], es⟩) (r := []) (names := [nm]) (by show nameOk [122] = true; decide) (by simp; exact fun h => hz h.symm) (by simp only; omega)
    rw [List.append_nil] at h4
    rw [items_next h3, show itemsR 1 = itemsR (0 + 1) from rfl, items_next (by simpa using h4)]
    simp [itemsR]
  · rw [if_neg hs] at h3 ⊢
    have h4 : itemsR (1 + 1) (UInt8.ofNat nm.length :: (nm ++ (putB ds.length 4 ++ (cs ++ (putB (sumN ds) 4 ++ (⟨[122], es⟩ : IV).bytes))))) [] = (7, [], []) := by
      rw [itemsR, if_pos (by rw [List.map_nil, h3]; exact (by decide : (7 : Int) ≠ 0)), List.map_nil, h3]
    simp [h4]
theorem set_mid (p c q : List UInt8) (i : Nat) (y : UInt8) (h : i < c.length) : (p ++ c ++ q).set (p.length + i) y = p ++ c.set i y ++ q := by
  rw [List.append_assoc, List.set_append_right _ _ (by omega), Nat.add_sub_cancel_left, List.set_append_left _ _ h, List.append_assoc]
theorem get_mid (p c q : List UInt8) (i : Nat) (h : i < c.length) (h2 : p.length + i < (p ++ c ++ q).length) : (p ++ c ++ q)[p.length + i] = c[i] := by
  rw [List.getElem_append_left (by simp; omega), List.getElem_append_right (by omega)]
  simp
end Go.Proofs.Ytaedohlfcbppaaa
