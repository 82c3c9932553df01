/- sha: the reference's keys. No condition. -/
import Derived.Test.YtkcpblfdmfkppaaShaRoot
import Derived.Test.YtkcpblfdmfkppaaShaPlain
namespace Go.Proofs.Ytkcpblfdmfkppaa
open Go.ChangeShapes Go.WideShapes Go.ChangeAt Go.RowKit
theorem cube_mono {a b : Nat} (h : a ≤ b) : a * a * a ≤ b * b * b := Nat.mul_le_mul (Nat.mul_le_mul h h) h
/-- The bits found so far. -/
theorem rootN_inv (p : Nat) (hp : p < 512) : ∀ n, n ≤ 35 → rootN p n * rootN p n * rootN p n ≤ p * 79228162514264337593543950336 ∧ p * 79228162514264337593543950336 < (rootN p n + 2 ^ (35 - n)) * (rootN p n + 2 ^ (35 - n)) * (rootN p n + 2 ^ (35 - n))
  | 0, _ => by
    have e : (2 : Nat) ^ (35 - 0) = 34359738368 := rfl
    rw [e]
    simp only [rootN]
    omega
  | n + 1, h => by
    obtain ⟨h1, h2⟩ := rootN_inv p hp n (by omega)
    rw [show 35 - n = (34 - n) + 1 by omega, Nat.pow_succ] at h2
    rw [rootN, show 35 - (n + 1) = 34 - n by omega]
    generalize 2 ^ (34 - n) = t at *
    generalize rootN p n = x at *
    split
    · rename_i h3
      exact ⟨h1, h3⟩
    · rename_i h3
      rw [show x + t + t = x + t * 2 by omega]
      exact ⟨by omega, h2⟩
theorem root_eq (p R : Nat) (hp : p < 512) (h1 : R * R * R ≤ p * 79228162514264337593543950336) (h2 : p * 79228162514264337593543950336 < (R + 1) * (R + 1) * (R + 1)) : rootN p 35 = R := by
  obtain ⟨q1, q2⟩ := rootN_inv p hp 35 (by omega)
  rw [show 35 - 35 = 0 by rfl, Nat.pow_zero] at q2
  rcases Nat.lt_trichotomy (rootN p 35) R with h | h | h
  · have := cube_mono (show rootN p 35 + 1 ≤ R from h); omega
  · exact h
  · have := cube_mono (show R + 1 ≤ rootN p 35 from h); omega
def primesL : List Nat := [2, 3, 5, 7, 11, 13, 17, 19, 23, 29, 31, 37, 41, 43, 47, 53, 59, 61, 67, 71, 73, 79, 83, 89, 97, 101, 103, 107, 109, 113, 127, 131, 137, 139, 149, 151, 157, 163, 167, 173, 179, 181, 191, 193, 197, 199, 211, 223, 227, 229, 233, 239, 241, 251, 257, 263, 269, 271, 277, 281, 283, 293, 307, 311]
def rootsL : List Nat := [5411319704, 6194414737, 7344290767, 8215976869, 9551921755, 10098905585, 11043570340, 11460697813, 12214315672, 13195500289, 13492127166, 14311783875, 14809980276, 15046980094, 15499789991, 16133124468, 16720292289, 16907126662, 17444216262, 17784676812, 17950125167, 18429019306, 18734950876, 19175934170, 19734090066, 20001703533, 20132865992, 20390182855, 20516441075, 20764397895, 21588763473, 21813078375, 22141143685, 22248366392, 22769593852, 22871018771, 23170020180, 23461497531, 23651862830, 23931792517, 24205322401, 24295138891, 24734567280, 24820601251, 24990902297, 25075189284, 25569408389, 26045227120, 26200031510, 26276752392, 26428864332, 26653801653, 26727943347, 27092625994, 27306805839, 27517677555, 27725365998, 27793908591, 27997534228, 28131656200, 28198240250, 28526537963, 28973835255, 29099129074]
theorem roots_right : ∀ i : Fin 64, primesL.getD i.1 0 < 512 ∧ rootsL.getD i.1 0 * rootsL.getD i.1 0 * rootsL.getD i.1 0 ≤ primesL.getD i.1 0 * 79228162514264337593543950336 ∧ primesL.getD i.1 0 * 79228162514264337593543950336 < (rootsL.getD i.1 0 + 1) * (rootsL.getD i.1 0 + 1) * (rootsL.getD i.1 0 + 1) ∧ BitVec.ofNat 32 (rootsL.getD i.1 0) = keysL.getD i.1 0 := by decide +kernel
theorem root_key (i : Nat) (h : i < 64) : ((rootN (primesL.getD i 0) 35 % 4294967296 : Nat) : Int) = E (keysL.getD i 0) := by
  obtain ⟨h1, h2, h3, h4⟩ := roots_right ⟨i, h⟩
  simp only at h1 h2 h3 h4
  rw [root_eq _ _ h1 h2 h3, ← h4]
  unfold E
  rw [BitVec.toNat_ofNat]
/-- The primes, one number behind the other. -/
def prL : Nat → List Nat
  | 0 => []
  | k + 1 => if (prL k).all (fun q => (k + 2) % q != 0) then prL k ++ [k + 2] else prL k
/-- The same, told in one go. -/
def prF : Nat → Nat → List Nat → List Nat
  | 0, _, L => L
  | n + 1, p, L => prF n (p + 1) (if L.all (fun q => p % q != 0) then L ++ [p] else L)
theorem prF_eq : ∀ n k, prF n (k + 2) (prL k) = prL (n + k)
  | 0, k => by rw [Nat.zero_add]; rfl
  | n + 1, k => by
    rw [prF, show n + 1 + k = n + (k + 1) by omega, ← prF_eq n (k + 1)]
    rfl
theorem prL_310 : prL 310 = primesL := by
  have h := prF_eq 310 0
  rw [show (310 + 0) = 310 from rfl] at h
  rw [← h]
  show prF 310 2 [] = primesL
  decide +kernel
theorem prL_309 : (prL 309).length = 63 := by
  have h := prF_eq 309 0
  rw [show (309 + 0) = 309 from rfl] at h
  rw [← h]
  show (prF 309 2 []).length = 63
  decide +kernel
theorem prL_up (k : Nat) : (prL k).length ≤ (prL (k + 1)).length := by
  rw [prL]
  split
  · simp
  · exact Nat.le_refl _
theorem prL_mono (k : Nat) : ∀ n, (prL k).length ≤ (prL (k + n)).length
  | 0 => Nat.le_refl _
  | n + 1 => Nat.le_trans (prL_mono k n) (prL_up (k + n))
theorem prL_few (k : Nat) (h : k < 310) : (prL k).length ≤ 63 := by
  have := prL_mono k (309 - k)
  rw [show k + (309 - k) = 309 by omega, prL_309] at this
  exact this
theorem prL_two : ∀ k, ∀ q ∈ prL k, 2 ≤ q
  | 0, q, h => by cases h
  | k + 1, q, h => by
    rw [prL] at h
    split at h
    · rw [List.mem_append] at h
      rcases h with h | h
      · exact prL_two k q h
      · simp at h; omega
    · exact prL_two k q h
set_option maxHeartbeats 4000000 in
set_option maxRecDepth 100000 in
theorem primes_any (w : World) : Calls Try.prog 23 #[.int .i64 64] w fun e w' => ∃ a c, e = .returned (.slice a 64 c) ∧ Sl encU w' a 64 primesL ∧ 64 ≤ c ∧ Below w.heap.size w w' := by
  go_enter Try.func23, Try.ntmps23
  go_wp2_with fail
  go_loopg [3, 4] 310 (fun gn s x wr => ∃ k m pv, k ≤ 310 ∧ gn = 310 - k ∧ x = .int .u64 (pv : Nat) ∧ Hid (pv = k + 2) ∧ Hid (m = (prL k).length) ∧ Hid (wr.ownsRow w.heap.size 38 1 s m ((prL k).map encU)) ∧ Hid (Below w.heap.size w wr))
  case atStart => exact ⟨0, 0, 2, by omega, by omega, rfl, Lib.hid rfl, Lib.hid rfl, Lib.hid (World.ownsRow_nil _ _ _ _), Lib.hid (Below.refl _ _)⟩
  case round =>
    obtain ⟨k, m, pv, hk, rfl, rfl, HPV, HM, HO, HB⟩ := hrel
    obtain ⟨a3, c3, rfl, hs3, hc3⟩ := Sl.ofOwn HO.out
    by_cases hlt : k < 310
    · have hm63 : m ≤ 63 := by rw [HM.out]; exact prL_few k hlt
      have hm64 : (m : Int) < 64 := by omega
      have hpvl : pv ≤ 400 := by have := HPV.out; omega
      have HS3 := Lib.hid (And.intro hs3 hc3)
      clear hs3 hc3
      go_wp2_with fail
      go_loopg [16, 5] m (fun gn i b wr2 => ∃ j bb, j ≤ m ∧ gn = m - j ∧ i = .int .i64 (j : Nat) ∧ b = .bool bb ∧ Hid (bb = ((prL k).take j).all (fun q => pv % q != 0)) ∧ Hid (wr2 = wr))
      case atStart => exact ⟨0, true, by omega, by omega, by go_num, rfl, Lib.hid rfl, Lib.hid rfl⟩
      case round =>
        obtain ⟨j, bb, hj, rfl, rfl, rfl, HBB, HW⟩ := hrel
        obtain rfl := HW.out
        clear HW
        by_cases hjm : j < m
        · have hj1 : (j : Int) < m := by omega
          have hpl := HS3.out.1.1
          obtain ⟨b3, o3, rfl, _, hc⟩ := HS3.out.1.2 (by omega)
          have hcj := hc j (by omega)
          obtain ⟨q, hq⟩ : ∃ q, q = (prL k)[j]'(by omega) := ⟨_, rfl⟩
          rw [← hq] at hcj
          unfold encU at hcj
          have hq2 : 2 ≤ q := by rw [hq]; exact prL_two k _ (List.getElem_mem _)
          obtain ⟨r, hr⟩ : ∃ r, r = pv % q := ⟨_, rfl⟩
          have hrE : (pv : Int) % (q : Int) = (r : Int) := by rw [hr]; exact (Int.natCast_emod pv q).symm
          have hrT : (pv : Int).tmod (q : Int) = (r : Int) := by rw [Int.tmod_eq_emod_of_nonneg (by omega)]; exact hrE
          have hq0 : ((q : Int) == 0) = false := by
            have : (q : Int) ≠ 0 := by omega
            exact beq_eq_false_iff_ne.2 this
          have HTK := Lib.hid (show ((prL k).take (j + 1)).all (fun q => pv % q != 0) = (bb && (r != 0)) by
            rw [List.take_succ_eq_append_getElem (by omega), List.all_append, ← HBB.out, ← hq, hr]
            simp)
          clear hpl hc hq hr
          cases bb with
          | false =>
            go_wp2_with fail
            go_roundg (m - (j + 1))
            case measure => omega
            case rel => exact ⟨j + 1, false, by omega, rfl, by go_num, rfl, Lib.hid (by rw [HTK.out]; rfl), Lib.hid rfl⟩
          | true =>
            by_cases hr0 : r = 0
            · subst hr0
              have hne : (((0 : Nat) : Int) != 0) = false := rfl
              go_wp2_with fail
              go_roundg (m - (j + 1))
              case measure => omega
              case rel => exact ⟨j + 1, false, by omega, rfl, by go_num, rfl, Lib.hid (by rw [HTK.out]; rfl), Lib.hid rfl⟩
            · have hne : ((r : Int) != 0) = true := by
                have : (r : Int) ≠ 0 := by omega
                exact bne_iff_ne.2 this
              have hne2 : (r != 0) = true := bne_iff_ne.2 hr0
              have HTK2 := Lib.hid (show ((prL k).take (j + 1)).all (fun q => pv % q != 0) = true by rw [HTK.out, hne2]; rfl)
              clear hr0 hne2 HTK
              go_wp2_with fail
              go_roundg (m - (j + 1))
              case measure => omega
              case rel => exact ⟨j + 1, true, by omega, rfl, by go_num, rfl, Lib.hid HTK2.out.symm, Lib.hid rfl⟩
        · obtain rfl : j = m := by omega
          have hpl := HS3.out.1.1
          have hall : bb = (prL k).all (fun q => (k + 2) % q != 0) := by rw [HBB.out, List.take_of_length_le (by omega), HPV.out]
          obtain ⟨pv1, hpv1⟩ : ∃ n, n = pv + 1 := ⟨_, rfl⟩
          have hpvE : (pv : Int) + 1 = (pv1 : Int) := by omega
          have HP1 := Lib.hid hpv1
          have hpv1l : pv1 ≤ 401 := by omega
          clear hpv1
          have HSZ := Lib.hid HB.out.size
          have HAL := Lib.hid hall
          clear hpl hall HS3 HBB
          cases bb with
          | false =>
            have HNX := Lib.hid (show prL (k + 1) = prL k by rw [prL, ← HAL.out]; rfl)
            clear HAL
            go_wp2_with fail
            go_roundg (310 - (k + 1))
            case measure => omega
            case rel => exact ⟨k + 1, j, pv1, by omega, rfl, rfl, Lib.hid (by rw [HP1.out, HPV.out]), Lib.hid (by rw [HNX.out]; exact HM.out), Lib.hid (by rw [HNX.out]; exact HO.out), HB⟩
          | true =>
            have HNX := Lib.hid (show prL (k + 1) = prL k ++ [pv] by rw [prL, ← HAL.out, HPV.out]; rfl)
            clear HAL
            go_wp2_with (at_builtin; refine wpList_app_lit2 oneU rfl _ _ rfl w.heap.size _ _ _ rfl HO.out #[.int .u64 (pv : Nat)] 1 1 _ rfl rfl rfl rfl (by omega) (by unfold maxLen; omega) HSZ.out ?_; intro v1 w1 hown1 hg1 hb1; have HO1 := Lib.hid hown1; have HB1 := Lib.hid hb1; clear hown1 hb1 hg1)
            go_roundg (310 - (k + 1))
            case measure => omega
            case rel =>
              refine ⟨k + 1, j + 1, pv1, by omega, rfl, rfl, Lib.hid (by rw [HP1.out, HPV.out]), Lib.hid (by rw [HNX.out, List.length_append, ← HM.out]; rfl), ?_, Lib.hid (HB.out.trans HB1.out)⟩
              rw [HNX.out, List.map_append]
              exact HO1
    · obtain rfl : k = 310 := by omega
      have hml : m = 64 := by rw [HM.out, prL_310]; rfl
      subst hml
      rw [prL_310] at hs3
      have HS3 := Lib.hid (And.intro hs3 hc3)
      clear hs3 hc3 hlt
      go_wp2_with fail
      go_ret
      exact ⟨_, _, rfl, HS3.out.1, HS3.out.2, HB.out⟩
/-- The keys' row. -/
theorem oneW : OneE 41 40 (.int .u32 0) 4 := ⟨Try.underlying41, by kernel_rfl, rfl⟩
theorem encW_cell (x : BitVec 32) : (encW x).oneCell' = true := rfl
theorem keysL_length : keysL.length = 64 := rfl
theorem getDB_pos {L : List (BitVec 32)} {i : Nat} (h : i < L.length) : L.getD i 0 = L[i] := by simp [List.getD, h]
theorem primesL_length : primesL.length = 64 := rfl
set_option maxHeartbeats 4000000 in
set_option maxRecDepth 100000 in
theorem refKeys_any (w : World) : Calls Try.prog 16 #[] w fun e w' => ∃ a c, e = .returned (.slice a 64 c) ∧ Sl encW w' a 64 keysL ∧ 64 ≤ c ∧ Below w.heap.size w w' := by
  go_enter Try.func16, Try.ntmps16
  go_wp2_with fail
  refine (primes_any w).mono ?_
  rintro e w1 ⟨a, c, rfl, hs1, hc1, hb1⟩
  obtain ⟨b3, o3, rfl, hb3, -⟩ := hs1.2 (by omega)
  have HS1 := Lib.hid hs1
  have HB1 := Lib.hid hb1
  have HB3 := Lib.hid hb3
  have HW1 := Lib.hid hb1.size
  clear hs1 hb1 hb3
  go_wp2_with fail
  go_loopg [6, 1] 64 (fun gn i s wr => ∃ k : Nat, k ≤ 64 ∧ gn = 64 - k ∧ i = .int .i64 k ∧ Hid (wr.ownsRow w1.heap.size 40 1 s k ((keysL.take k).map encW)) ∧ Hid (Sl encU wr (some ⟨b3, o3, none⟩) 64 primesL) ∧ Hid (Below w.heap.size w wr) ∧ Hid (w1.heap.size ≤ wr.heap.size))
  case atStart => exact ⟨0, by omega, by omega, by go_num, Lib.hid (World.ownsRow_nil _ _ _ _), HS1, HB1, Lib.hid (Nat.le_refl _)⟩
  case round =>
    clear HS1 HB1
    obtain ⟨k, hk, rfl, rfl, HO, HS, HB, HZ⟩ := hrel
    by_cases hlt : k < 64
    · have hk1 : (k : Int) < 64 := by omega
      obtain ⟨_, _, h3e, _, hcc⟩ := HS.out.2 (by omega)
      cases h3e
      have hck := hcc k (by rw [primesL_length]; exact hlt)
      obtain ⟨pr, hpr⟩ : ∃ pr, pr = primesL.getD k 0 := ⟨_, rfl⟩
      have hpr2 : primesL[k]'(by rw [primesL_length]; exact hlt) = pr := by rw [hpr]; exact (getD_pos (by rw [primesL_length]; exact hlt)).symm
      rw [hpr2] at hck
      unfold encU at hck
      have hpl : pr < 512 := by rw [hpr]; exact (roots_right ⟨k, hlt⟩).1
      have HRT := Lib.hid (fun w' => root_any w' pr (by omega))
      have hrk := root_key k hlt
      rw [← hpr] at hrk
      rw [hrk] at HRT
      have HTK := Lib.hid (show keysL.take (k + 1) = keysL.take k ++ [keysL.getD k 0] by
        rw [List.take_succ_eq_append_getElem (by rw [keysL_length]; exact hlt)]
        rw [getDB_pos (by rw [keysL_length]; exact hlt)])
      obtain ⟨ky, hky⟩ : ∃ ky, ky = keysL.getD k 0 := ⟨_, rfl⟩
      rw [← hky] at HRT HTK
      clear hcc hpr hpr2 hrk hky
      go_wp2_with fail
      refine (HRT.out wr).mono ?_
      rintro e w4 ⟨rfl, hb4⟩
      have HO4 := Lib.hid (own_below HO.out hb4)
      have HS4 := Lib.hid (HS.out.below hb4)
      have HB4 := Lib.hid (HB.out.trans (hb4.mono HB.out.size))
      have HSZ := Lib.hid (Nat.le_trans HZ.out hb4.size)
      clear hb4 HRT HO HS HB HZ
      go_wp2_with (at_builtin; refine wpList_app_lit2 oneW rfl _ _ rfl w1.heap.size _ _ _ rfl HO4.out #[.int .u32 (E ky)] 1 1 _ rfl rfl rfl rfl (by omega) (by unfold maxLen; omega) HSZ.out ?_; intro v1 w5 hown1 hg1 hb1; have HO1 := Lib.hid hown1; have HB1 := Lib.hid hb1; clear hown1 hb1 hg1)
      go_roundg (64 - (k + 1))
      case measure => omega
      case rel =>
        refine ⟨k + 1, by omega, rfl, by go_num, ?_, ?_, ?_, ?_⟩
        · refine Lib.hid ?_
          rw [HTK.out, List.map_append]
          exact HO1
        · exact Lib.hid (HS4.out.belowB HB3.out HB1.out)
        · exact Lib.hid (HB4.out.trans (HB1.out.mono HW1.out))
        · exact Lib.hid (Nat.le_trans HSZ.out HB1.out.size)
    · obtain rfl : k = 64 := by omega
      have hk1 : ¬ ((64 : Nat) : Int) < 64 := by omega
      obtain ⟨a3, c3, rfl, hs3, hc3⟩ := Sl.ofOwn HO.out
      rw [List.take_of_length_le (by rw [keysL_length]; omega)] at hs3
      have HS3 := Lib.hid (And.intro hs3 hc3)
      clear hs3 hc3 hlt HS
      go_wp2_with fail
      go_ret
      exact ⟨_, _, rfl, HS3.out.1, HS3.out.2, HB.out⟩
end Go.Proofs.Ytkcpblfdmfkppaa
