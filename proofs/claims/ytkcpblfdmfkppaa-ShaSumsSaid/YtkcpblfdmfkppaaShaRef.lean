/- sha: the reference's Sum. No condition. -/
import Derived.Test.YtkcpblfdmfkppaaShaBlock
import Derived.Test.YtkcpblfdmfkppaaShaSum
namespace Go.Proofs.Ytkcpblfdmfkppaa
open Go.ChangeShapes Go.WideShapes Go.ChangeAt Go.RowKit
theorem pad_zeros (n j : Nat) (h : j ≤ zerosN (n % 64)) : (n + 1 + j) % 64 = 56 ↔ j = zerosN (n % 64) := by
  unfold zerosN at *
  omega
theorem pad_whole (n : Nat) : (n + (9 + zerosN (n % 64))) % 64 = 0 := by
  unfold zerosN
  omega
/-- Bytes in a block of 32. -/
def RowR (w : World) (g : Nat) (L : List UInt8) : Prop := w.heap[g]? = some (.cells (L.map encB).toArray 24)
theorem RowR.at {w : World} {g : Nat} {L : List UInt8} (h : RowR w g L) (i : Nat) (hi : i < L.length) : w.cell? ⟨g, i, none⟩ = some (.int .u8 ((L.getD i 0).toNat : Nat)) ∧ w.frozen? ⟨g, i, none⟩ = false := by
  constructor
  · rw [cell_of_row w g i _ _ _ h, List.getElem?_toArray, List.getElem?_map, List.getElem?_eq_getElem hi]
    simp [List.getD, hi, encB]
  · unfold World.frozen?
    unfold RowR at h
    rw [h]
    rfl
theorem RowR.put {w : World} {g : Nat} {L : List UInt8} (h : RowR w g L) (i : Nat) (v : UInt8) : RowR (w.setCell ⟨g, i, none⟩ (.int .u8 (v.toNat : Nat))) g (L.set i v) := by
  unfold RowR at h ⊢
  unfold World.setCell
  simp only [Array.getElem?_modify, h, Option.map_some, if_true]
  congr 2
  rw [List.setIfInBounds_toArray, List.map_set]
  rfl
theorem bytes_at (V : V8) (t r : Nat) (ht : t < 8) (hr : r < 4) : V.bytes[4 * t + r]? = some (UInt8.ofNat ((V.get t).toNat / 256 ^ (3 - r) % 256)) := by
  have : r = 0 ∨ r = 1 ∨ r = 2 ∨ r = 3 := by omega
  rcases lt8 ht with rfl | rfl | rfl | rfl | rfl | rfl | rfl | rfl <;> rcases this with rfl | rfl | rfl | rfl <;> rfl
theorem words_get (V : V8) (t : Nat) (ht : t < 8) : V.words[t]? = some (V.get t) := by
  rcases lt8 ht with rfl | rfl | rfl | rfl | rfl | rfl | rfl | rfl <;> rfl
theorem RowR.below {w w' : World} {g : Nat} {L : List UInt8} (h : RowR w g L) (hb : Below w.heap.size w w') : RowR w' g L := by
  unfold RowR at h ⊢
  rw [hb.block g (Array.getElem?_eq_some_iff.1 h).1]
  exact h
set_option maxHeartbeats 8000000 in
set_option maxRecDepth 100000 in
theorem refSum_any (w : World) (x : Option Addr) (n cx : Nat) (xs : List UInt8) (hx : Sl encB w x n xs) (hl : n ≤ 400) :
    Calls Try.prog 8 #[.slice x n cx] w fun e w' => e = .returned (.agg ((hashB xs).map encB).toArray) ∧ Below w.heap.size w w' := by
  have hxl := hx.1
  have hal : Below w.heap.size w (w.alloc (.cells (List.replicate 32 (Value.int .u8 0)).toArray 24)) := (Below.refl _ _).alloc (Nat.le_refl _) _
  have HZ := Lib.hid (show ZB (w.alloc (.cells (List.replicate 32 (Value.int .u8 0)).toArray 24)) w.heap.size 32 24 from ⟨_, rfl, heap_alloc_last w _⟩)
  have HX := Lib.hid (hx.below hal)
  have HB := Lib.hid hal
  have HXL := Lib.hid hxl
  clear hal hx hxl
  go_enter Try.func8, Try.ntmps8
  go_upto_region 1 with fail
  change Code.wp _ _ _ _ (w.alloc (.cells (List.replicate 32 (Value.int .u8 0)).toArray 24))
  generalize w.alloc (.cells (List.replicate 32 (Value.int .u8 0)).toArray 24) = w1 at *
  obtain ⟨B, hB⟩ : ∃ B, w.heap.size = B := ⟨_, rfl⟩
  rw [hB] at HZ HB ⊢
  have HBE := Lib.hid hB
  clear hB
  have HO0 := Lib.hid (own_empty w1 w1.heap.size 5 (Nat.le_refl _))
  have HB0 := Lib.hid ((Below.refl w1.heap.size w1).alloc (Nat.le_refl _) (.cells #[] 5))
  go_upto_region 2 with (at_builtin; first
    | (refine wpList_app1 oneN rfl _ _ _ rfl w1.heap.size _ _ _ rfl HO0.out _ _ _ rfl ((HX.out.below HB0.out).src encB_cell Try.underlying22 _) (by omega) (by unfold maxLen; omega) HB0.out.size ?_; intro v2 w2 hown2 hg2 hb2; have HO2 := Lib.hid hown2; have HB2 := Lib.hid (HB0.out.trans hb2); clear hown2 hg2 hb2)
    | (refine wpList_app_lit2 oneN rfl _ _ rfl w1.heap.size _ _ _ rfl HO2.out #[.int .u8 128] 1 1 _ rfl rfl rfl rfl (by omega) (by unfold maxLen; omega) HB2.out.size ?_; intro v3 w3 hown3 hg3 hb3; have HO3 := Lib.hid hown3; have HB3 := Lib.hid (HB2.out.trans hb3); clear hown3 hg3 hb3))
  obtain ⟨S, hS⟩ : ∃ S, S = w1.heap.size := ⟨_, rfl⟩
  rw [← hS] at HO3 HB3
  obtain ⟨Z, hZ⟩ : ∃ Z, Z = zerosN (n % 64) := ⟨_, rfl⟩
  have hZl : Z ≤ 63 := by rw [hZ]; unfold zerosN; omega
  have HZN := Lib.hid hZ
  have HS := Lib.hid hS
  have HOx := Lib.hid (show w3.ownsRow S 5 1 v3 (n + 1) ((xs ++ [128]).map encB) by
    have h := HO3.out
    rw [Nat.zero_add, List.map_nil, List.nil_append] at h
    rw [List.map_append]
    exact h)
  clear HO0 HB0 HO2 HB2 HO3 hS hZ
  go_loopg [3] Z (fun gn s wr => ∃ j l, j ≤ Z ∧ gn = Z - j ∧ Hid (l = n + 1 + j) ∧ Hid (wr.ownsRow S 5 1 s l ((xs ++ [128] ++ List.replicate j 0).map encB)) ∧ Hid (Below S w1 wr))
  case atStart => exact ⟨0, n + 1, by omega, by omega, Lib.hid rfl, Lib.hid (by rw [List.replicate_zero, List.append_nil]; exact HOx.out), HB3⟩
  case round =>
    clear HOx HB3
    obtain ⟨j, l, hj, rfl, HL, HO, HBr⟩ := hrel
    obtain ⟨a3, c3, rfl, hs3, hc3⟩ := Sl.ofOwn HO.out
    have HS3 := Lib.hid (And.intro hs3 hc3)
    clear hs3 hc3
    obtain ⟨q, hq⟩ : ∃ q, q = l % 64 := ⟨_, rfl⟩
    have hqE : (l : Int) % 64 = (q : Int) := by omega
    have hl5 : l ≤ 500 := by have := HL.out; omega
    have hpz := pad_zeros n j (by rw [← HZN.out]; exact hj)
    rw [← HL.out, ← hq, ← HZN.out] at hpz
    clear hq
    have HSZ := Lib.hid (show S ≤ wr.heap.size by have := HBr.out.size; rw [← HS.out] at this; exact this)
    by_cases hlt : j < Z
    · have hne : ((q : Int) != 56) = true := by
        have : (q : Int) ≠ 56 := by omega
        exact bne_iff_ne.2 this
      clear hpz
      obtain ⟨l1, hl1⟩ : ∃ l1, l1 = l + 1 := ⟨_, rfl⟩
      have HL1 := Lib.hid hl1
      clear hl1
      go_wp2_with (at_builtin; refine wpList_app_lit2 oneN rfl _ _ rfl S _ _ _ rfl HO.out #[.int .u8 0] 1 1 _ rfl rfl rfl rfl (by omega) (by unfold maxLen; omega) HSZ.out ?_; intro v4 w4 hown4 hg4 hb4; have HO4 := Lib.hid hown4; have HB4 := Lib.hid hb4; clear hown4 hb4 hg4)
      go_roundg (Z - (j + 1))
      case measure => omega
      case rel =>
        refine ⟨j + 1, l + 1, by omega, rfl, Lib.hid (by rw [HL.out]; rfl), Lib.hid ?_, Lib.hid (HBr.out.trans HB4.out)⟩
        have h := HO4.out
        rw [show ([Value.int .u8 0] : List Value) = ([0] : List UInt8).map encB from rfl, ← List.map_append] at h
        rw [List.replicate_succ', ← List.append_assoc]
        exact h
    · obtain rfl : j = Z := by omega
      have hq56 : q = 56 := hpz.2 rfl
      have hne : ((q : Int) != 56) = false := by rw [hq56]; rfl
      clear hq56
      obtain ⟨nb, hnb⟩ : ∃ nb, nb = n * 8 := ⟨_, rfl⟩
      have hnbE : (n : Int) * 8 = (nb : Int) := by omega
      have hnbl : nb ≤ 3200 := by omega
      have HNB := Lib.hid hnb
      clear hpz hnb hlt
      go_wp2_with fail
      clear hqE hne
      go_loopg [5, 3] 8 (fun gn i s wx => ∃ k iv l2, k ≤ 8 ∧ gn = 8 - k ∧ i = .int .i64 iv ∧ Hid (iv = 7 - (k : Int)) ∧ Hid (l2 = l + k) ∧ Hid (wx.ownsRow S 5 1 s l2 ((xs ++ [128] ++ List.replicate j 0 ++ (putB nb 8).take k).map encB)) ∧ Hid (Below S w1 wx))
      case atStart => exact ⟨0, 7, l, by omega, by omega, rfl, Lib.hid rfl, Lib.hid rfl, Lib.hid (by rw [List.take_zero, List.append_nil]; exact HO.out), HBr⟩
      case round =>
        clear HO HBr HSZ HS3
        obtain ⟨k, iv, l2, hk, rfl, rfl, HIV, HL2, HO, HBr⟩ := hrel
        have HSZ := Lib.hid (show S ≤ wr.heap.size by have := HBr.out.size; rw [← HS.out] at this; exact this)
        by_cases hlt : k < 8
        · obtain ⟨i, hi⟩ : ∃ i, i = 7 - k := ⟨_, rfl⟩
          obtain rfl : iv = (i : Int) := by have := HIV.out; omega
          have hi7 : i ≤ 7 := by omega
          obtain ⟨sh, hsh⟩ : ∃ sh, sh = 8 * i := ⟨_, rfl⟩
          have hshE : (8 : Int) * (i : Int) = (sh : Int) := by omega
          have hsh56 : sh ≤ 56 := by omega
          obtain ⟨pw, hpw⟩ : ∃ pw, pw = 2 ^ sh := ⟨_, rfl⟩
          have hpE : (2 : Int) ^ sh = (pw : Int) := by rw [hpw]; push_cast; rfl
          have hpE2 : (2 : Nat) ^ sh = pw := hpw.symm
          obtain ⟨d, hd⟩ : ∃ d, d = nb / pw := ⟨_, rfl⟩
          have hdE : (nb : Int) / (pw : Int) = (d : Int) := by rw [hd]; exact (Int.natCast_ediv _ _).symm
          obtain ⟨c, hc⟩ : ∃ c, c = d % 256 := ⟨_, rfl⟩
          have hcE : (d : Int) % 256 = (c : Int) := by omega
          have hdl : d ≤ 3200 := by rw [hd]; exact Nat.le_trans (Nat.div_le_self _ _) hnbl
          have HNX := Lib.hid (show (putB nb 8).take (k + 1) = (putB nb 8).take k ++ [UInt8.ofNat (d % 256)] by
            rw [putB_take nb 8 k hlt, hd, hpw, hsh, Nat.pow_mul, show 8 - 1 - k = i by omega])
          have HCE := Lib.hid (show ([Value.int .u8 (c : Nat)] : List Value) = [UInt8.ofNat (d % 256)].map encB by
            rw [List.map_cons, List.map_nil, encB_byte, hcE])
          have hl25 : l2 ≤ 600 := by have := HL2.out; omega
          have HIK := Lib.hid hi
          obtain ⟨a4, c4, rfl, hs4, hc4⟩ := Sl.ofOwn HO.out
          clear hi hsh hpw hd hc hs4 hc4
          go_wp2_with (at_builtin; refine wpList_app_lit2 oneN rfl _ _ rfl S _ _ _ rfl HO.out #[.int .u8 (c : Nat)] 1 1 _ rfl rfl rfl rfl (by omega) (by unfold maxLen; omega) HSZ.out ?_; intro v4 w4 hown4 hg4 hb4; have HO4 := Lib.hid hown4; have HB4 := Lib.hid hb4; clear hown4 hb4 hg4)
          go_roundg (8 - (k + 1))
          case measure => omega
          case rel =>
            refine ⟨k + 1, (i : Int) - 1, l2 + 1, by omega, rfl, rfl, Lib.hid (by have := HIK.out; omega), Lib.hid (by rw [HL2.out]; rfl), Lib.hid ?_, Lib.hid (HBr.out.trans HB4.out)⟩
            have h := HO4.out
            rw [HCE.out, ← List.map_append] at h
            rw [HNX.out, ← List.append_assoc]
            exact h
        · obtain rfl : k = 8 := by omega
          obtain rfl : iv = -1 := by have := HIV.out; omega
          obtain ⟨a3, c3, rfl, hs3, hc3⟩ := Sl.ofOwn HO.out
          obtain ⟨P, hP⟩ : ∃ P, P = xs ++ padR xs.length (xs.length % 64) := ⟨_, rfl⟩
          have hPe : xs ++ [128] ++ List.replicate j 0 ++ (putB nb 8).take 8 = P := by
            rw [hP, HNB.out, List.take_of_length_le (by rw [putB_length]; omega), HZN.out, HXL.out]
            unfold padR
            rw [Nat.mod_eq_of_lt (show n * 8 < 18446744073709551616 by omega)]
            simp only [List.append_assoc]
          rw [hPe] at hs3
          obtain ⟨M, hM⟩ : ∃ M, M = l2 / 64 := ⟨_, rfl⟩
          have hM2 : l2 = 64 * M := by
            have h := pad_whole n
            rw [← HZN.out] at h
            have h1 := HL.out
            have h2 := HL2.out
            omega
          have hMl : M ≤ 10 := by have := HL.out; have := HL2.out; omega
          have HP := Lib.hid hP
          have HM := Lib.hid hM2
          have HSX := Lib.hid hs3
          have hl26 : l2 ≤ 640 := by omega
          clear hPe hP hM hM2 hs3 HO hlt
          have HH := Lib.hid (show Sl encW (wr.alloc (.cells #[.int .u32 1779033703, .int .u32 3144134277, .int .u32 1013904242, .int .u32 2773480762, .int .u32 1359893119, .int .u32 2600822924, .int .u32 528734635, .int .u32 1541459225] 40)) (some ⟨wr.heap.size, 0, none⟩) 8 startV.words from Sl.lit (heap_alloc_last _ _) rfl rfl)
          have HBA := Lib.hid (show Below wr.heap.size wr (wr.alloc (.cells #[.int .u32 1779033703, .int .u32 3144134277, .int .u32 1013904242, .int .u32 2773480762, .int .u32 1359893119, .int .u32 2600822924, .int .u32 528734635, .int .u32 1541459225] 40)) from (Below.refl _ _).alloc (Nat.le_refl _) _)
          go_upto_region 10 with fail
          have HS5 := Lib.hid (HSX.out.below HBA.out)
          have HB5 := Lib.hid (HBr.out.trans (HBA.out.mono HSZ.out))
          generalize wr.alloc (.cells #[.int .u32 1779033703, .int .u32 3144134277, .int .u32 1013904242, .int .u32 2773480762, .int .u32 1359893119, .int .u32 2600822924, .int .u32 528734635, .int .u32 1541459225] 40) = w5 at *
          obtain ⟨gh, hgh⟩ : ∃ gh, gh = wr.heap.size := ⟨_, rfl⟩
          rw [← hgh] at HH ⊢
          clear hgh HBA HSZ HBr
          go_wp2_with fail
          refine (refKeys_any w5).mono ?_
          rintro e w6 ⟨ak, ck, rfl, hk6, hck6, hb6⟩
          have HK := Lib.hid hk6
          have HH6 := Lib.hid (HH.out.below hb6)
          have HS6 := Lib.hid (HS5.out.below hb6)
          have HB6 := Lib.hid (HB5.out.trans (hb6.mono (by have h := HB5.out.size; rw [← HS.out] at h; exact h)))
          have HPL := Lib.hid (show P.length = l2 from HSX.out.1)
          clear hk6 hb6 HH HS5 HB5 HSX hck6
          go_wp2_with fail
          go_loopg [3, 6] M (fun gn s h wx => ∃ jj k a3 c3 ah ch, jj ≤ M ∧ gn = M - jj ∧ s = .slice a3 k c3 ∧ h = .slice ah 8 ch ∧ k ≤ c3 ∧ Hid (k = 64 * (M - jj)) ∧ Hid (Sl encB wx a3 k (P.drop (64 * jj))) ∧ Hid (Sl encW wx ah 8 (blkV startV P jj).words) ∧ Hid (Sl encW wx ak 64 keysL) ∧ Hid (Below S w1 wx))
          case atStart => exact ⟨0, l2, a3, c3, some ⟨gh, 0, none⟩, 8, by omega, by omega, rfl, rfl, hc3, Lib.hid (by rw [HM.out]; rfl), Lib.hid HS6.out, HH6, HK, HB6⟩
          case round =>
            clear HS6 HH6 HK HB6 hc3
            obtain ⟨jj, k, a3, c3, ah, ch, hjj, rfl, rfl, rfl, hkc, HKM, HS6, HH6, HK, HBq⟩ := hrel
            by_cases hlt : jj < M
            · have hk64 : 64 ≤ k := by have := HKM.out; omega
              have hk64a : (0 : Int) < k := by omega
              have hk64b : (64 : Int) ≤ k := by omega
              have hc64 : (64 : Int) ≤ c3 := by omega
              have hkl : k ≤ 640 := by have := HKM.out; omega
              have HRB := Lib.hid (refBlock_any wr ah ch (blkV startV P jj) HH6.out a3 c3 ((P.drop (64 * jj)).take 64) (HS6.out.take hk64) ak ck HK.out)
              obtain ⟨b, off, rfl, hbl, -⟩ := HS6.out.2 (by omega)
              clear hbl
              go_upto_region 13 with fail
              go_wp2_with fail
              refine HRB.out.mono ?_
              rintro e w7 ⟨g7, rfl, hs7, hb7⟩
              have HH7 := Lib.hid (show Sl encW w7 (some ⟨g7, 0, none⟩) 8 (blkV startV P (jj + 1)).words from hs7)
              have HS7 := Lib.hid (HS6.out.below hb7)
              have HK7 := Lib.hid (HK.out.below hb7)
              have HB7 := Lib.hid (HBq.out.trans (hb7.mono (by have h := HBq.out.size; rw [← HS.out] at h; exact h)))
              have HDD := Lib.hid (show (P.drop (64 * jj)).drop 64 = P.drop (64 * (jj + 1)) by rw [List.drop_drop]; congr 1)
              clear hs7 hb7 HRB HS6 HH6 HK HBq
              by_cases hc65 : c3 = 64
              · subst hc65
                obtain rfl : k = 64 := by omega
                go_wp2_with fail
                go_roundg (M - (jj + 1))
                case measure => omega
                case rel => exact ⟨jj + 1, 0, _, 0, _, 8, by omega, rfl, rfl, rfl, Nat.le_refl _, Lib.hid (by have := HKM.out; omega), Lib.hid ⟨by rw [List.length_drop, HPL.out]; have h1 := HKM.out; have h2 := HM.out; omega, fun h => by omega⟩, HH7, HK7, HB7⟩
              · have hc66 : (64 : Int) < c3 := by omega
                go_wp2_with fail
                have v3 : Sl encB w7 (some ⟨b, off + 64, none⟩) (k - 64) (P.drop (64 * (jj + 1))) := by
                  by_cases hkk : k = 64
                  · have e : k - 64 = 0 := by omega
                    rw [e]
                    exact ⟨by rw [List.length_drop, HPL.out]; have h1 := HKM.out; have h2 := HM.out; omega, fun h => by omega⟩
                  · obtain ⟨b', off', he, h2⟩ := HS7.out.drop (j := 64) (by omega)
                    cases he
                    rw [HDD.out] at h2
                    exact h2
                go_roundg (M - (jj + 1))
                case measure => omega
                case rel => exact ⟨jj + 1, k - 64, _, c3 - 64, _, 8, by omega, rfl, rfl, rfl, by omega, Lib.hid (by have := HKM.out; omega), Lib.hid v3, HH7, HK7, HB7⟩
            · obtain rfl : jj = M := by omega
              obtain rfl : k = 0 := by have := HKM.out; omega
              obtain ⟨V, hV⟩ : ∃ V, V = blkV startV P jj := ⟨_, rfl⟩
              rw [← hV] at HH6
              have hVh : V.bytes = hashB xs := by
                have hlen : (xs ++ padR xs.length (xs.length % 64)).length / 64 = jj := by
                  have h1 := HPL.out
                  have h2 := HM.out
                  rw [HP.out] at h1
                  rw [h1, h2]
                  omega
                unfold hashB hashV
                rw [hlen, ← HP.out, ← hV]
              have HVH := Lib.hid hVh
              have hal : Below wr.heap.size wr (wr.alloc (.cells ((List.replicate 32 (0 : UInt8)).map encB).toArray 24)) := (Below.refl _ _).alloc (Nat.le_refl _) _
              have HOUT := Lib.hid (show RowR (wr.alloc (.cells ((List.replicate 32 (0 : UInt8)).map encB).toArray 24)) wr.heap.size (List.replicate 32 0) from heap_alloc_last wr _)
              have HH8 := Lib.hid (HH6.out.below hal)
              have HB8 := Lib.hid (HBq.out.trans (hal.mono (by have h := HBq.out.size; rw [← HS.out] at h; exact h)))
              have HGO := Lib.hid (show S ≤ wr.heap.size by have h := HBq.out.size; rw [← HS.out] at h; exact h)
              obtain ⟨ba, oa, rfl, hba, -⟩ := HH6.out.2 (by omega)
              clear hV hVh hal HS6 HK HH6 hlt hkc
              go_upto_region 15 with fail
              change Code.wp _ _ _ _ (wr.alloc (.cells ((List.replicate 32 (0 : UInt8)).map encB).toArray 24))
              generalize wr.alloc (.cells ((List.replicate 32 (0 : UInt8)).map encB).toArray 24) = w8 at *
              obtain ⟨go, hgo⟩ : ∃ go, go = wr.heap.size := ⟨_, rfl⟩
              rw [← hgo] at HOUT HGO hba ⊢
              have HBA := Lib.hid hba
              clear hgo hba HBq
              go_wp2_with fail
              go_loopg [54] 8 (fun gn i wx => ∃ t L, t ≤ 8 ∧ gn = 8 - t ∧ i = .int .i64 (t : Nat) ∧ Hid (RowR wx go L) ∧ Hid (L.length = 32 ∧ ∀ i, i < 4 * t → L[i]? = V.bytes[i]?) ∧ Hid (Below go w8 wx))
              case atStart => exact ⟨0, _, by omega, by omega, by go_num, HOUT, Lib.hid ⟨by simp, fun i hi => by omega⟩, Lib.hid (Below.refl _ _)⟩
              case round =>
                clear HOUT
                obtain ⟨t, L, ht, rfl, rfl, HO, HLB, HBw⟩ := hrel
                by_cases hlt : t < 8
                · have t1 : (t : Int) < 8 := by omega
                  have hcx : wr.cell? ⟨ba, oa + t, none⟩ = some (encW (V.get t)) := by
                    obtain ⟨_, _, he, -, hc⟩ := (HH8.out.belowB HBA.out HBw.out).2 (by omega)
                    cases he
                    have h := hc t hlt
                    have h2 := words_get V t hlt
                    rw [List.getElem?_eq_getElem (show t < V.words.length from hlt)] at h2
                    exact h.trans (congrArg (fun z => some (encW z)) (Option.some.inj h2))
                  obtain ⟨x, hx⟩ : ∃ x, x = (V.get t).toNat := ⟨_, rfl⟩
                  have hxE : encW (V.get t) = .int .u32 (x : Int) := by rw [hx]; rfl
                  rw [hxE] at hcx
                  have hx4 : x < 4294967296 := by rw [hx]; exact (V.get t).isLt
                  have HBY := Lib.hid (fun r (h : r < 4) => bytes_at V t r hlt h)
                  rw [← hx] at HBY
                  obtain ⟨v0, hv0⟩ : ∃ v, v = UInt8.ofNat (x / 16777216 % 256) := ⟨_, rfl⟩
                  obtain ⟨v1, hv1⟩ : ∃ v, v = UInt8.ofNat (x / 65536 % 256) := ⟨_, rfl⟩
                  obtain ⟨v2', hv2⟩ : ∃ v, v = UInt8.ofNat (x / 256 % 256) := ⟨_, rfl⟩
                  obtain ⟨v3', hv3⟩ : ∃ v, v = UInt8.ofNat (x % 256) := ⟨_, rfl⟩
                  obtain ⟨e0, he0⟩ : ∃ e, e = v0.toNat := ⟨_, rfl⟩
                  obtain ⟨e1, he1⟩ : ∃ e, e = v1.toNat := ⟨_, rfl⟩
                  obtain ⟨e2, he2⟩ : ∃ e, e = v2'.toNat := ⟨_, rfl⟩
                  obtain ⟨e3, he3⟩ : ∃ e, e = v3'.toNat := ⟨_, rfl⟩
                  have q0 : e0 = x / 16777216 % 256 := by rw [he0, hv0]; simp
                  have q1 : e1 = x / 65536 % 256 := by rw [he1, hv1]; simp
                  have q2 : e2 = x / 256 % 256 := by rw [he2, hv2]; simp
                  have q3 : e3 = x % 256 := by rw [he3, hv3]; simp
                  obtain ⟨d1, hd1⟩ : ∃ d, d = x / 65536 := ⟨_, rfl⟩
                  obtain ⟨d2, hd2⟩ : ∃ d, d = x / 256 := ⟨_, rfl⟩
                  have k0 : (x : Int) / 16777216 = (e0 : Int) := by omega
                  have k1 : (x : Int) / 65536 = (d1 : Int) := by omega
                  have k2 : (x : Int) / 256 = (d2 : Int) := by omega
                  have m1 : (d1 : Int) % 256 = (e1 : Int) := by omega
                  have m2 : (d2 : Int) % 256 = (e2 : Int) := by omega
                  have m3 : (x : Int) % 256 = (e3 : Int) := by omega
                  have b0 : e0 < 256 := by omega
                  have b1 : e1 < 256 := by omega
                  have b2 : e2 < 256 := by omega
                  have b3 : e3 < 256 := by omega
                  have d1l : d1 < 65536 := by omega
                  have d2l : d2 < 16777216 := by omega
                  obtain ⟨p0, hp0⟩ : ∃ p, p = 4 * t := ⟨_, rfl⟩
                  obtain ⟨p1, hp1⟩ : ∃ p, p = p0 + 1 := ⟨_, rfl⟩
                  obtain ⟨p2, hp2⟩ : ∃ p, p = p0 + 2 := ⟨_, rfl⟩
                  obtain ⟨p3, hp3⟩ : ∃ p, p = p0 + 3 := ⟨_, rfl⟩
                  have g0 : (4 : Int) * (t : Int) = (p0 : Int) := by omega
                  have g1 : (p0 : Int) + 1 = (p1 : Int) := by omega
                  have g2 : (p0 : Int) + 2 = (p2 : Int) := by omega
                  have g3 : (p0 : Int) + 3 = (p3 : Int) := by omega
                  have l0 : (p0 : Int) < 32 := by omega
                  have l1 : (p1 : Int) < 32 := by omega
                  have l2' : (p2 : Int) < 32 := by omega
                  have l3 : (p3 : Int) < 32 := by omega
                  have n01 : ¬ p0 = p1 := by omega
                  have n02 : ¬ p0 = p2 := by omega
                  have n03 : ¬ p0 = p3 := by omega
                  have n12 : ¬ p1 = p2 := by omega
                  have n13 : ¬ p1 = p3 := by omega
                  have n23 : ¬ p2 = p3 := by omega
                  have n10 : ¬ p1 = p0 := by omega
                  have n20 : ¬ p2 = p0 := by omega
                  have n30 : ¬ p3 = p0 := by omega
                  have n21 : ¬ p2 = p1 := by omega
                  have n31 : ¬ p3 = p1 := by omega
                  have n32 : ¬ p3 = p2 := by omega
                  obtain ⟨c0, f0⟩ := HO.out.at p0 (by rw [HLB.out.1]; omega)
                  obtain ⟨c1, f1⟩ := HO.out.at p1 (by rw [HLB.out.1]; omega)
                  obtain ⟨c2, f2⟩ := HO.out.at p2 (by rw [HLB.out.1]; omega)
                  obtain ⟨c3', f3⟩ := HO.out.at p3 (by rw [HLB.out.1]; omega)
                  have hN := (((HO.out.put p0 v0).put p1 v1).put p2 v2').put p3 v3'
                  rw [← he0, ← he1, ← he2, ← he3] at hN
                  have HN := Lib.hid hN
                  have HNL := Lib.hid (show ((((L.set p0 v0).set p1 v1).set p2 v2').set p3 v3').length = 32 ∧ ∀ i, i < 4 * (t + 1) → ((((L.set p0 v0).set p1 v1).set p2 v2').set p3 v3')[i]? = V.bytes[i]? from ⟨by simp only [List.length_set]; exact HLB.out.1, fun i hi => by
                    have hll := HLB.out.1
                    by_cases h3 : i = p3
                    · rw [h3, List.getElem?_set_self (by simp only [List.length_set]; omega), hp3, hp0, HBY.out 3 (by omega), hv3]; simp
                    rw [List.getElem?_set_ne (Ne.symm h3)]
                    by_cases h2 : i = p2
                    · rw [h2, List.getElem?_set_self (by simp only [List.length_set]; omega), hp2, hp0, HBY.out 2 (by omega), hv2]
                    rw [List.getElem?_set_ne (Ne.symm h2)]
                    by_cases h1 : i = p1
                    · rw [h1, List.getElem?_set_self (by simp only [List.length_set]; omega), hp1, hp0, HBY.out 1 (by omega), hv1]
                    rw [List.getElem?_set_ne (Ne.symm h1)]
                    by_cases h0 : i = p0
                    · rw [h0, List.getElem?_set_self (by omega), hp0]
                      have h := HBY.out 0 (by omega)
                      rw [Nat.add_zero] at h
                      rw [h, hv0]
                    rw [List.getElem?_set_ne (Ne.symm h0)]
                    exact HLB.out.2 i (by omega)⟩)
                  clear hx hxE hv0 hv1 hv2 hv3 he0 he1 he2 he3 q0 q1 q2 q3 hd1 hd2 hp0 hp1 hp2 hp3 hN HBY
                  go_wp2_with fail
                  go_roundg (8 - (t + 1))
                  case measure => omega
                  case rel => exact ⟨t + 1, _, by omega, rfl, by go_num, HN, HNL, Lib.hid ((((HBw.out.setCell (Nat.le_refl _) _).setCell (Nat.le_refl _) _).setCell (Nat.le_refl _) _).setCell (Nat.le_refl _) _)⟩
                · obtain rfl : t = 8 := by omega
                  have hLV : L = V.bytes := List.ext_getElem? (fun i => by
                    by_cases hi : i < 32
                    · exact HLB.out.2 i (by omega)
                    · rw [List.getElem?_eq_none (by rw [HLB.out.1]; omega), List.getElem?_eq_none (by rw [V8.bytes_length]; omega)])
                  have hrow : wr.heap[go]? = some (.cells (L.map encB).toArray 24) := HO.out
                  obtain ⟨A, hA⟩ : ∃ A, A = (L.map encB).toArray := ⟨_, rfl⟩
                  rw [← hA] at hrow
                  have HSA := Lib.hid (show A.size = 32 by rw [hA]; simp [HLB.out.1])
                  have HON := Lib.hid (show A.all (·.oneCell') = true by rw [hA]; simp [encB, Value.oneCell'])
                  have HAE := Lib.hid (show A = ((hashB xs).map encB).toArray by rw [hA, hLV, HVH.out])
                  have HROW := Lib.hid hrow
                  have HF1 := Lib.hid (show Below S w1 wr from HB8.out.trans (HBw.out.mono HGO.out))
                  have hz1 : ZB wr B 32 24 := HZ.out.below (by have h := HF1.out; rw [HS.out] at h; exact h)
                  obtain ⟨old, hold, hz0⟩ := hz1
                  have HZ0 := Lib.hid hz0
                  have HOLD := Lib.hid hold
                  have hbw := HBE.out
                  have HFIN := Lib.hid (show Below B w wr from HB.out.trans ((show Below S w1 wr from HF1.out).mono (by rw [HS.out]; have h := HB.out.size; rw [hbw] at h; exact h)))
                  clear hA hLV hrow hold hz0 HO HLB hbw HBw HB8
                  go_wp2_with (first
                    | (refine wpList_load_row rfl _ _ rfl _ rfl _ _ _ _ HROW.out Try.underlying24 rfl (by rw [HSA.out]; exact info_out) ?_)
                    | (refine wpList_store_row rfl _ _ _ rfl _ _ rfl rfl _ _ HZ0.out (by rw [HSA.out]; exact info_out) (by rw [HSA.out]; exact HOLD.out) HON.out ?_))
                  refine bodyPost_ret (v := .agg A) (results_cell_row rfl _ _ B _ _ _ _ rfl (setRow_heap _ _ _ _ _ _ HZ0.out) Try.underlying24 rfl (by rw [HSA.out]; exact info_out)) rfl ⟨by rw [HAE.out], ?_⟩
                  rw [HBE.out]
                  exact below_setRow HFIN.out (Nat.le_refl _) _
end Go.Proofs.Ytkcpblfdmfkppaa
