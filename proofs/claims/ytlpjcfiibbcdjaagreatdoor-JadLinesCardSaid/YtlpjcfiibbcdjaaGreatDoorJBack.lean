/- What is printed is parsed as it was. No program in sight. No condition. -/
import Derived.Test.YtlpjcfiibbcdjaaGreatDoorJParse
namespace Go.Proofs.YtlpjcfiibbcdjaaGreatDoor
open Go.ChangeShapes Go.WideShapes Go.ChangeAt Go.RowKit
theorem hexB_cons (c : UInt8) (bs : List UInt8) : hexB (c :: bs) = signAt (c.toNat / 16) :: signAt (c.toNat % 16) :: hexB bs := by
  unfold hexB
  rw [List.flatMap_cons]
  rfl
theorem hexB_at : ∀ (bs : List UInt8) (i : Nat) (h : i < bs.length), (hexB bs).getD (2 * i) 0 = signAt (bs[i].toNat / 16) ∧ (hexB bs).getD (2 * i + 1) 0 = signAt (bs[i].toNat % 16)
  | [], i, h => by simp at h
  | c :: bs, 0, _ => by rw [hexB_cons]; exact ⟨rfl, rfl⟩
  | c :: bs, i + 1, h => by
    have ih := hexB_at bs i (by simpa using h)
    rw [hexB_cons, show 2 * (i + 1) = 2 * i + 1 + 1 by omega, show 2 * i + 1 + 1 + 1 = (2 * i + 1) + 1 + 1 by omega]
    simp only [List.getD_cons_succ, List.getElem_cons_succ]
    exact ih
set_option maxRecDepth 100000 in
theorem sign_posF : ∀ k : Fin 16, ∀ c : Fin 256, (signAt k.1 = UInt8.ofNat c.1) ↔ posS (UInt8.ofNat c.1) = (k.1 : Int) := by decide +kernel
theorem sign_pos (k : Nat) (hk : k < 16) (c : UInt8) : signAt k = c ↔ posS c = (k : Int) := by
  have h := sign_posF ⟨k, hk⟩ ⟨c.toNat, c.toNat_lt⟩
  simpa using h
theorem posS_sign (n : Nat) (h : n < 16) : posS (signAt n) = n := (sign_pos n h (signAt n)).1 rfl
theorem hexB_good (bs : List UInt8) : ∀ c ∈ hexB bs, 0 ≤ posS c := by
  intro c hc
  unfold hexB at hc
  rw [List.mem_flatMap] at hc
  obtain ⟨x, _, hx⟩ := hc
  have hlt := x.toNat_lt
  simp at hx
  rcases hx with rfl | rfl
  · rw [posS_sign _ (by omega)]; omega
  · rw [posS_sign _ (by omega)]; omega
theorem unhex_hex (bs : List UInt8) (hl : bs.length = 32) : unhexV (hexB bs) = bs ∧ unhexE (hexB bs) = 0 := by
  have ha : allS (hexB bs) = true := allS_yes (by rw [hexB_length, hl]) (fun j hj => hexB_good bs _ (List.getElem_mem hj))
  unfold unhexV unhexE
  rw [ha]
  refine ⟨?_, rfl⟩
  rw [if_pos rfl]
  refine List.ext_getElem (by rw [unhxL_length, hl]) (fun i h1 h2 => ?_)
  obtain ⟨e1, e2⟩ := hexB_at bs i h2
  have hlt := bs[i].toNat_lt
  simp only [unhxL, List.getElem_map, List.getElem_range]
  rw [e1, e2, posS_sign _ (by omega), posS_sign _ (by omega)]
  simp only [Int.toNat_natCast]
  rw [show 16 * (bs[i].toNat / 16) + bs[i].toNat % 16 = bs[i].toNat by omega]
  simp

/-- No line feed and no blank. -/
def Cl (v : List UInt8) : Prop := ∀ c ∈ v, c.toNat ≠ 10 ∧ c.toNat ≠ 32
theorem sp_none (c : UInt8) : ∀ p : List UInt8, c ∉ p → sp c p = [p]
  | [], _ => rfl
  | b :: p, h => by
    have hb : ¬ b = c := fun e => h (by rw [e]; simp)
    rw [sp, if_neg hb, sp_none c p (fun e => h (by simp [e]))]
theorem sp_app (c : UInt8) : ∀ p q : List UInt8, c ∉ p → sp c (p ++ c :: q) = p :: sp c q
  | [], q, _ => by rw [List.nil_append, sp, if_pos rfl]
  | b :: p, q, h => by
    have hb : ¬ b = c := fun e => h (by rw [e]; simp)
    rw [List.cons_append, sp, if_neg hb, sp_app c p q (fun e => h (by simp [e]))]
theorem dropB_rep (b : Nat) (y : List UInt8) : (List.replicate b 32 ++ y).dropWhile (· == 32) = y.dropWhile (· == 32) := by
  induction b with
  | zero => rfl
  | succ b ih => rw [List.replicate_succ, List.cons_append, List.dropWhile_cons_of_pos (by rfl), ih]
theorem dropB_stop (c : UInt8) (y : List UInt8) (h : c ≠ 32) : (c :: y).dropWhile (· == 32) = c :: y := by
  rw [List.dropWhile_cons_of_neg (by simpa using h)]
/-- A line with blanks about it. -/
theorem trim_good (a b : Nat) (c d : UInt8) (m : List UInt8) (hc : c ≠ 32) (hd : d ≠ 32) : Lib.trimB (List.replicate a 32 ++ (c :: m ++ [d]) ++ List.replicate b 32) 32 = c :: m ++ [d] := by
  unfold Lib.trimB Lib.trimLeftB Lib.trimRightB
  have e : (List.replicate a 32 ++ (c :: m ++ [d]) ++ List.replicate b 32).reverse = List.replicate b 32 ++ (d :: (m.reverse ++ [c] ++ List.replicate a 32)) := by simp
  rw [e, dropB_rep, dropB_stop d _ hd]
  have e2 : (d :: (m.reverse ++ [c] ++ List.replicate a 32)).reverse = List.replicate a 32 ++ (c :: (m ++ [d])) := by simp
  rw [e2, dropB_rep, dropB_stop c _ hc]
  rfl
theorem trim_blank (a : Nat) : Lib.trimB (List.replicate a 32) 32 = [] := by
  unfold Lib.trimB Lib.trimLeftB Lib.trimRightB
  have : (List.replicate a (32 : UInt8)).dropWhile (· == 32) = [] := by
    have := dropB_rep a []
    rw [List.append_nil] at this
    rw [this]; rfl
  rw [List.reverse_replicate, this]
  rfl
theorem ne32 {c : UInt8} (h : c.toNat ≠ 32) : c ≠ 32 := fun e => h (by rw [e]; rfl)
theorem key_head (i : Nat) (h : i < 5) : ∃ c m, keyT i = c :: m ∧ c ≠ 32 ∧ (10 : UInt8) ∉ keyT i := by
  have : i = 0 ∨ i = 1 ∨ i = 2 ∨ i = 3 ∨ i = 4 := by omega
  rcases this with rfl | rfl | rfl | rfl | rfl <;> exact ⟨_, _, rfl, by decide, by decide⟩
theorem trim_line (i : Nat) (h : i < 5) (v : List UInt8) (hv : Cl v) (hne : v ≠ []) (a b : Nat) : Lib.trimB (List.replicate a 32 ++ (keyT i ++ v) ++ List.replicate b 32) 32 = keyT i ++ v := by
  obtain ⟨c, m, e, hc, _⟩ := key_head i h
  obtain ⟨q, d, rfl⟩ : ∃ q d, v = q ++ [d] := ⟨v.dropLast, v.getLast hne, (List.dropLast_concat_getLast hne).symm⟩
  have hd : d ≠ 32 := ne32 (hv d (by simp)).2
  rw [e, show c :: m ++ (q ++ [d]) = c :: (m ++ q) ++ [d] by simp]
  exact trim_good a b c d (m ++ q) hc hd
/-- The values of the lines. -/
def valJ (j : JD) (i : Nat) : List UInt8 := if i = 0 then j.name else if i = 1 then vtext j.a j.b j.c else if i = 2 then j.main else if i = 3 then Lib.itoa j.size else hexB j.hash
theorem dec_chars : ∀ (m u : Nat), u < m → ∀ c ∈ Lib.decDigits u, 48 ≤ c.toNat ∧ c.toNat ≤ 57 := by
  intro m
  induction m with
  | zero => intro u h; omega
  | succ m ih =>
    intro u hu c hc
    by_cases h : u < 10
    · rw [dec_small h] at hc
      obtain rfl := List.mem_singleton.1 hc
      rw [UInt8.toNat_ofNat']; omega
    · rw [dec_big h] at hc
      rcases List.mem_append.1 hc with h1 | h1
      · exact ih (u / 10) (by omega) c h1
      · obtain rfl := List.mem_singleton.1 h1
        rw [UInt8.toNat_ofNat']; omega
theorem itoa_nat {n : Int} (h : 0 ≤ n) : Lib.itoa n = Lib.decDigits n.toNat := by unfold Lib.itoa; rw [if_neg (by omega)]
theorem itoa_chars {n : Int} (h : 0 ≤ n) : ∀ c ∈ Lib.itoa n, 48 ≤ c.toNat ∧ c.toNat ≤ 57 := by rw [itoa_nat h]; exact dec_chars _ _ (Nat.lt_succ_self _)
theorem itoa_ne {n : Int} (h : 0 ≤ n) : Lib.itoa n ≠ [] := by rw [itoa_nat h]; exact dec_ne _
theorem cls_chars : ∀ (s : List UInt8) (l : Nat), cls l s = true → ∀ c ∈ s, wordN c.toNat = true ∨ c.toNat = 47
  | [], _, _, c, hc => by simp at hc
  | d :: s, l, h, c, hc => by
    unfold cls at h
    simp only [Bool.and_eq_true, Bool.or_eq_true, decide_eq_true_eq] at h
    rcases List.mem_cons.1 hc with rfl | hc
    · rcases h.1 with h1 | h1
      · exact .inl h1
      · exact .inr h1.1
    · exact cls_chars s _ h.2 c hc
theorem sign_chars (n : Nat) (h : n < 16) : 48 ≤ (signAt n).toNat := by
  rcases lt16 h with rfl | rfl | rfl | rfl | rfl | rfl | rfl | rfl | rfl | rfl | rfl | rfl | rfl | rfl | rfl | rfl <;> decide
theorem hex_chars (bs : List UInt8) : ∀ c ∈ hexB bs, 48 ≤ c.toNat := by
  intro c hc
  unfold hexB at hc
  obtain ⟨x, _, hx⟩ := List.mem_flatMap.1 hc
  have := x.toNat_lt
  simp at hx
  rcases hx with rfl | rfl
  · exact sign_chars _ (by omega)
  · exact sign_chars _ (by omega)
structure OkJ (j : JD) : Prop where
  a : 0 ≤ j.a ∧ j.a ≤ 99
  b : 0 ≤ j.b ∧ j.b ≤ 99
  c : 0 ≤ j.c ∧ j.c ≤ 99
  s : 1 ≤ j.size ∧ j.size ≤ 65536
  n : nameB j.name = true
  m : classB j.main = true
  h : j.hash.length = 32
theorem okJ_of {j : JD} (h : okJ j = true) (hh : j.hash.length = 32) : OkJ j := by
  unfold okJ at h
  simp only [Bool.and_eq_true, Bool.not_eq_true', decide_eq_true_eq, List.any_cons, List.any_nil, Bool.or_false, Bool.or_eq_false_iff, oddI, decide_eq_false_iff_not] at h
  obtain ⟨⟨⟨ha, ha2⟩, ⟨hb, hb2⟩, ⟨hc, hc2⟩⟩, hn, hm, h1, h2⟩ := h
  exact ⟨by omega, by omega, by omega, by omega, hn, hm, hh⟩
theorem Cl_of48 {v : List UInt8} (h : ∀ c ∈ v, 48 ≤ c.toNat) : Cl v := fun c hc => by have := h c hc; omega
theorem valJ_ok {j : JD} (h : OkJ j) (i : Nat) : Cl (valJ j i) ∧ valJ j i ≠ [] := by
  unfold valJ
  split
  · have hn := h.n
    unfold nameB at hn
    simp only [Bool.and_eq_true, List.all_eq_true] at hn
    refine ⟨fun c hc => ?_, fun e => by rw [e] at hn; simp at hn⟩
    have := hn.2 c hc
    unfold nameN at this
    simp only [Bool.or_eq_true, Bool.and_eq_true, decide_eq_true_eq] at this
    omega
  · split
    · constructor
      · rw [vtext_eq]
        intro c hc
        simp only [List.mem_append, List.mem_singleton] at hc
        have ha := itoa_chars h.a.1
        have hb := itoa_chars h.b.1
        have hcc := itoa_chars h.c.1
        rcases hc with (((hc | rfl) | hc) | rfl) | hc
        · have := ha c hc; omega
        · decide
        · have := hb c hc; omega
        · decide
        · have := hcc c hc; omega
      · rw [vtext_eq]; simp
    · split
      · have hm := h.m
        rw [cls_class] at hm
        simp only [Bool.and_eq_true] at hm
        refine ⟨fun c hc => ?_, fun e => by rw [e] at hm; exact absurd hm.2 (by decide)⟩
        rcases cls_chars _ _ hm.2 c hc with h1 | h1
        · unfold wordN at h1
          simp only [Bool.or_eq_true, Bool.and_eq_true, decide_eq_true_eq] at h1
          omega
        · omega
      · split
        · exact ⟨Cl_of48 fun c hc => (itoa_chars (by have := h.s.1; omega) c hc).1, itoa_ne (by have := h.s.1; omega)⟩
        · refine ⟨Cl_of48 (hex_chars _), fun e => ?_⟩
          have := congrArg List.length e
          rw [hexB_length, h.h] at this
          simp at this
theorem dec_no46 (n : Int) (h : 0 ≤ n) : (46 : UInt8) ∉ Lib.itoa n := fun hc => by have := itoa_chars h _ hc; revert this; decide
theorem vtext_sp {a b c : Int} (ha : 0 ≤ a) (hb : 0 ≤ b) (hc : 0 ≤ c) : sp 46 (vtext a b c) = [Lib.itoa a, Lib.itoa b, Lib.itoa c] := by
  rw [vtext_eq]
  rw [show Lib.itoa a ++ [46] ++ Lib.itoa b ++ [46] ++ Lib.itoa c = Lib.itoa a ++ 46 :: (Lib.itoa b ++ 46 :: Lib.itoa c) by simp]
  rw [sp_app 46 _ _ (dec_no46 a ha), sp_app 46 _ _ (dec_no46 b hb), sp_none 46 _ (dec_no46 c hc)]
theorem numOk_itoa {n : Int} {m : Nat} (h : 0 ≤ n) (h2 : n ≤ m) (hm : m ≤ 65536) : numOk (Lib.itoa n) m = true ∧ atoiV (Lib.itoa n) = n := by
  rw [itoa_nat h]
  refine ⟨(numOk_iff _ m hm).2 ⟨n.toNat, by omega, rfl⟩, ?_⟩
  rw [(atoiV_dec n.toNat (by omega)).1]
  omega
theorem pv_vtext {a b c : Int} (ha : 0 ≤ a ∧ a ≤ 99) (hb : 0 ≤ b ∧ b ≤ 99) (hc : 0 ≤ c ∧ c ≤ 99) : pvOk (vtext a b c) = true ∧ pvV (vtext a b c) = [a, b, c] := by
  have na := numOk_itoa (m := 99) ha.1 (by simpa using ha.2) (by decide)
  have nb := numOk_itoa (m := 99) hb.1 (by simpa using hb.2) (by decide)
  have nc := numOk_itoa (m := 99) hc.1 (by simpa using hc.2) (by decide)
  have h1 : pvOk (vtext a b c) = true := by
    unfold pvOk
    rw [vtext_sp ha.1 hb.1 hc.1]
    simp only [List.length_cons, List.length_nil, List.all_cons, List.all_nil]
    rw [show numOk (Lib.itoa a) 99 = true from na.1, show numOk (Lib.itoa b) 99 = true from nb.1, show numOk (Lib.itoa c) 99 = true from nc.1]
    rfl
  refine ⟨h1, ?_⟩
  unfold pvV
  rw [h1, vtext_sp ha.1 hb.1 hc.1]
  simp [na.2, nb.2, nc.2]
theorem setOk_val {j : JD} (h : OkJ j) (i : Nat) (hi : i < 5) : setOk i (valJ j i) = true := by
  have : i = 0 ∨ i = 1 ∨ i = 2 ∨ i = 3 ∨ i = 4 := by omega
  rcases this with rfl | rfl | rfl | rfl | rfl
  · rfl
  · exact (pv_vtext h.a h.b h.c).1
  · rfl
  · exact (numOk_itoa (m := 65536) (by have := h.s.1; omega) h.s.2 (by decide)).1
  · show decide (unhexE (hexB j.hash) = 0) = true
    rw [(unhex_hex j.hash h.h).2]; rfl
/-- The part i is j's. -/
def partJ (i : Nat) (x j : JD) : Prop :=
  if i = 0 then x.name = j.name else if i = 1 then x.a = j.a ∧ x.b = j.b ∧ x.c = j.c else if i = 2 then x.main = j.main else if i = 3 then x.size = j.size else x.hash = j.hash
theorem setJ_part {j x : JD} (h : OkJ j) (i k : Nat) (hi : i < 5) (hk : k < 5) : (partJ k x j ∨ k = i) → partJ k (setJ i (valJ j i) x) j := by
  have e1 := pv_vtext h.a h.b h.c
  have e3 := numOk_itoa (m := 65536) (n := j.size) (by have := h.s.1; omega) h.s.2 (by decide)
  have e4 := unhex_hex j.hash h.h
  have h1 : i = 0 ∨ i = 1 ∨ i = 2 ∨ i = 3 ∨ i = 4 := by omega
  have h2 : k = 0 ∨ k = 1 ∨ k = 2 ∨ k = 3 ∨ k = 4 := by omega
  rcases h1 with rfl | rfl | rfl | rfl | rfl <;> rcases h2 with rfl | rfl | rfl | rfl | rfl <;> intro hp <;> simp [partJ, setJ, valJ, e1.2, e3.2, e4.1] at hp ⊢ <;> exact hp
theorem parts_all {x j : JD} (h : ∀ i, i < 5 → partJ i x j) : x = j := by
  have h0 := h 0 (by decide)
  have h1 := h 1 (by decide)
  have h2 := h 2 (by decide)
  have h3 := h 3 (by decide)
  have h4 := h 4 (by decide)
  simp [partJ] at h0 h1 h2 h3 h4
  cases x; cases j
  simp_all
/-- Lines in any order, each once. -/
theorem run_perm {j : JD} (h : OkJ j) : ∀ (evs : List (Option (Nat × List UInt8))) (L : List Nat) (x : JD), L.Nodup → (∀ i ∈ L, i < 5) → (evs.filterMap id).Perm (L.map fun i => (i, valJ j i)) → (∀ i, i < 5 → i ∉ L → partJ i x j) →
    ∃ y, runE evs (L, x) = some ([], y) ∧ ∀ i, i < 5 → partJ i y j
  | [], L, x, _, _, hp, hx => by
    have : L = [] := by
      have := hp.length_eq
      simp at this
      exact List.eq_nil_of_length_eq_zero (by omega)
    subst this
    exact ⟨x, rfl, fun i hi => hx i hi (by simp)⟩
  | none :: evs, L, x, h1, h2, hp, hx => run_perm h evs L x h1 h2 (by simpa using hp) hx
  | some (i, v) :: evs, L, x, h1, h2, hp, hx => by
    have hp' : ((i, v) :: evs.filterMap id).Perm (L.map fun i => (i, valJ j i)) := by simpa using hp
    have hm : (i, v) ∈ L.map fun i => (i, valJ j i) := hp'.subset (by simp)
    obtain ⟨i', hi', e⟩ := List.mem_map.1 hm
    obtain ⟨rfl, rfl⟩ := Prod.mk.inj e
    have hi5 := h2 i' hi'
    rw [runE, if_pos ⟨hi', setOk_val h i' hi5⟩]
    refine run_perm h evs (L.erase i') _ (h1.erase i') (fun k hk => h2 k (List.mem_of_mem_erase hk)) ?_ (fun k hk hk2 => ?_)
    · have hpe : (L.map fun i => (i, valJ j i)).Perm ((i', valJ j i') :: (L.erase i').map fun i => (i, valJ j i)) := (List.perm_cons_erase hi').map _
      exact (List.perm_cons _).1 (hp'.trans hpe)
    · refine setJ_part h i' k hi5 hk ?_
      by_cases e : k = i'
      · exact .inr e
      · exact .inl (hx k hk (fun hL => hk2 ((h1.mem_erase_iff).2 ⟨e, hL⟩)))
end Go.Proofs.YtlpjcfiibbcdjaaGreatDoor
