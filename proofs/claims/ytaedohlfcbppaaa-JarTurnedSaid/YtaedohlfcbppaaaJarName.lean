/- jar: names, the program's and the reference's. No condition. -/
import Derived.Test.YtaedohlfcbppaaaJarPlain
import Derived.Test.YtaedohlfcbppaaaConv
import Derived.Lib.Bytealg
import Derived.Deep.LoopGhost
import Derived.Deep.DeepCutAuto
import Derived.Laws.EntriesVeiled
namespace Go.Proofs.Ytaedohlfcbppaaa
open Go.ChangeShapes Go.WideShapes Go.ChangeAt Go.RowKit
set_option maxHeartbeats 1000000 in
set_option maxRecDepth 100000 in
theorem liteIndex_any (s : ByteArray) (c : Int) (w : World) :
    Calls Try.prog 37 #[.string s, .int .u8 c] w fun e w' => e = .returned (.int .i64 (Go.Lib.indexByte s.data.toList c.toNat.toUInt8)) ∧ w' = w := by
  go_enter Try.func37, Try.ntmps37
  go_wp2
  rw [run_callFunc_extern Try.func39 (by kernel_rfl) (by kernel_rfl) (by kernel_rfl) (e := Extern.BytealgIndexByte.indexByte) (by kernel_rfl), Go.Lib.run_indexByteString]
  simp only [Result.andThen]
  rw [Oper.upon_value]
  go_wp2
  go_ret
  exact ⟨rfl, rfl⟩
set_option maxHeartbeats 1000000 in
set_option maxRecDepth 100000 in
theorem index_any (s : ByteArray) (c : Int) (w : World) :
    Calls Try.prog 32 #[.string s, .int .u8 c] w fun e w' => e = .returned (.int .i64 (Go.Lib.indexByte s.data.toList c.toNat.toUInt8)) ∧ w' = w := by
  go_enter Try.func32, Try.ntmps32
  go_wp2_with fail
  refine (liteIndex_any _ _ _).mono ?_
  rintro e w' ⟨rfl, rfl⟩
  go_wp2_with fail
  go_ret
  exact ⟨rfl, rfl⟩
set_option maxRecDepth 100000 in
theorem idx_word' : ∀ c : Fin 256, decide (0 ≤ Go.Lib.indexByte [47, 95, 36, 46, 45] (UInt8.ofNat c.val)) = (c.val == 47 || c.val == 95 || c.val == 36 || c.val == 46 || c.val == 45) := by decide
theorem idx_word (c : Nat) (hc : c < 256) : decide (0 ≤ Go.Lib.indexByte [47, 95, 36, 46, 45] (UInt8.ofNat c)) = (c == 47 || c == 95 || c == 36 || c == 46 || c == 45) := idx_word' ⟨c, hc⟩
theorem ret_boolE {a b : Bool} (h : a = b) : Ending.returned (.bool a) = Ending.returned (.bool b) := by rw [h]
set_option maxHeartbeats 4000000 in
set_option maxRecDepth 100000 in
theorem word_any (w : World) (c : Nat) (hc : c < 256) : Calls Try.prog 31 #[.int .u8 (c : Nat)] w fun e w' => e = .returned (.bool (wordB c)) ∧ w' = w := by
  have hix := idx_word c hc
  go_enter Try.func31, Try.ntmps31
  go_wp2_with fail
  all_goals first
    | (go_ret; exact ⟨ret_boolE (by unfold wordB; rw [Bool.eq_iff_iff]; simp only [Bool.or_eq_true, Bool.and_eq_true, decide_eq_true_eq, beq_iff_eq, Bool.true_eq, iff_true, true_iff]; omega), rfl⟩)
    | (refine (index_any _ _ _).mono ?_
       rintro e w' ⟨rfl, rfl⟩
       go_wp2_with fail
       go_ret
       exact ⟨ret_boolE (by rw [Bool.eq_iff_iff]; unfold wordB; simp only [Bool.or_eq_true, Bool.and_eq_true, decide_eq_true_eq, beq_iff_eq] at hix ⊢; rw [Bool.eq_iff_iff] at hix; simp only [Bool.or_eq_true, Bool.and_eq_true, decide_eq_true_eq, beq_iff_eq] at hix; omega), rfl⟩)
def wordF : Value := .func (.func 31) #[] #[]
set_option maxHeartbeats 4000000 in
set_option maxRecDepth 100000 in
theorem notword_any (w : World) (c B : Nat) (hc : c < 256) (hB : w.cell? ⟨B, 0, none⟩ = some (.func (.func 31) #[] #[])) : Calls Try.prog 34 #[.int .u8 (c : Nat), .pointer (some ⟨B, 0, none⟩)] w fun e w' => e = .returned (.bool (!wordB c)) ∧ w' = w := by
  go_enter Try.func34, Try.ntmps34
  go_wp2_with fail
  refine (word_any _ c hc).mono ?_
  rintro e w' ⟨rfl, rfl⟩
  go_wp2_with fail
  go_ret
  exact ⟨rfl, rfl⟩
set_option maxHeartbeats 4000000 in
set_option maxRecDepth 100000 in
theorem indexFunc_any (w : World) (a : Option Addr) (n cap : Nat) (bs : List UInt8) (B : Nat) (hs : Sl encB w a n bs) (hn : n ≤ 65536) (hB : w.cell? ⟨B, 0, none⟩ = some (.func (.func 31) #[] #[])) :
    Calls Try.prog 38 #[.slice a n cap, .func (.func 34) #[] #[.pointer (some ⟨B, 0, none⟩)]] w fun e w' => ∃ r : Int, e = .returned (.int .i64 r) ∧ decide (0 ≤ r) = (bs.any fun c => !wordB c.toNat) ∧ w' = w := by
  have HS := Lib.hid hs
  have HLn := Lib.hid hs.1
  have HC := Lib.hid (fun c hc => notword_any w c B hc hB)
  clear hs hB
  go_enter Try.func38, Try.ntmps38
  go_wp2_with fail
  go_loopg [8] n (fun gn i wr => ∃ j : Nat, j ≤ n ∧ gn = n - j ∧ i = .int .i64 j ∧ Hid (∀ k (h : k < bs.length), k < j → wordB (bs[k]).toNat = true) ∧ wr = w)
  case atStart => exact ⟨0, by omega, by omega, by go_num, Lib.hid (fun k h h0 => by omega), rfl⟩
  case round =>
    obtain ⟨j, hj, rfl, rfl, HG, rfl⟩ := hrel
    by_cases hlt : j < n
    · obtain ⟨b, off, rfl, hbl, hc⟩ := HS.out.2 (by omega)
      have hpl : j < bs.length := by rw [HLn.out]; exact hlt
      have q0 := hc j hpl
      unfold encB at q0
      have HY := Lib.hid (show wordB (bs[j]).toNat = false → (bs.any fun c => !wordB c.toNat) = true from fun h => List.any_eq_true.2 ⟨bs[j], List.getElem_mem hpl, by rw [h]; rfl⟩)
      have HN := Lib.hid (show wordB (bs[j]).toNat = true → ∀ k (h : k < bs.length), k < j + 1 → wordB (bs[k]).toNat = true from fun h k hk hk2 => by
        rcases Nat.lt_or_ge k j with h1 | h1
        · exact HG.out k hk h1
        · obtain rfl : k = j := by omega
          exact h)
      have hw := (bs[j]).toNat_lt
      have hcx := HC.out (bs[j]).toNat hw
      have j1 : (j : Int) < n := by omega
      generalize (bs[j]).toNat = c at *
      have HCX := Lib.hid hcx
      clear hc hcx
      generalize wordB c = ok at *
      go_wp2_with fail
      refine HCX.out.mono ?_
      rintro e w' ⟨rfl, rfl⟩
      cases ok
      · have HR := Lib.hid (HY.out rfl)
        go_wp2_with fail
        go_ret
        exact ⟨_, rfl, by rw [HR.out]; simp, rfl⟩
      · have HM := Lib.hid (HN.out rfl)
        go_wp2_with fail
        go_roundg (n - (j + 1))
        case measure => omega
        case rel => exact ⟨j + 1, by omega, rfl, by go_num, HM, rfl⟩
    · obtain rfl : j = n := by omega
      have HR := Lib.hid (show (bs.any fun c => !wordB c.toNat) = false from by
        rw [List.any_eq_false]
        intro c hc
        obtain ⟨k, hk, rfl⟩ := List.getElem_of_mem hc
        rw [HG.out k hk (by rw [HLn.out] at hk; exact hk)]
        decide)
      go_wp2_with fail
      go_ret
      exact ⟨_, rfl, by rw [HR.out]; rfl, rfl⟩
set_option maxHeartbeats 4000000 in
set_option maxRecDepth 100000 in
theorem containsFunc_any (w : World) (a : Option Addr) (n cap : Nat) (bs : List UInt8) (B : Nat) (hs : Sl encB w a n bs) (hn : n ≤ 65536) (hB : w.cell? ⟨B, 0, none⟩ = some (.func (.func 31) #[] #[])) :
    Calls Try.prog 33 #[.slice a n cap, .func (.func 34) #[] #[.pointer (some ⟨B, 0, none⟩)]] w fun e w' => e = .returned (.bool (bs.any fun c => !wordB c.toNat)) ∧ w' = w := by
  have HC := Lib.hid (indexFunc_any w a n cap bs B hs hn hB)
  generalize (bs.any fun c => !wordB c.toNat) = ok at *
  clear hs hB
  go_enter Try.func33, Try.ntmps33
  go_wp2_with fail
  refine HC.out.mono ?_
  rintro e w' ⟨r, rfl, hr, rfl⟩
  go_wp2_with fail
  go_ret
  exact ⟨rfl, rfl⟩
theorem nameOk_any (s : List UInt8) : nameOk s = (!s.isEmpty && decide (s.length ≤ 64) && !(s.any fun c => !wordB c.toNat)) := by
  unfold nameOk
  congr 1
  rw [List.all_eq_not_any_not]
set_option maxHeartbeats 4000000 in
set_option maxRecDepth 100000 in
theorem isName_any (w : World) (s : List UInt8) : Calls Try.prog 23 #[.string ⟨s.toArray⟩] w fun e w' => e = .returned (.bool (nameOk s)) ∧ Below w.heap.size w w' := by
  obtain ⟨r, hr⟩ : ∃ r, r = nameOk s := ⟨_, rfl⟩
  rw [← hr]
  rw [nameOk_any] at hr
  have HR := Lib.hid hr
  clear hr
  have HB0 := Lib.hid ((Below.refl w.heap.size w).alloc (Nat.le_refl _) (.cells #[wordF] 62))
  cases he : s.isEmpty
  · by_cases hl : s.length ≤ 64
    · have hl2 : decide ((s.length : Int) ≤ 64) = true := by simp; omega
      obtain ⟨c, w1, hcv, hs1, hc1, hb1, hz1⟩ := conv_bytes (w.alloc (.cells #[wordF] 62)) s
      have hz : (w.alloc (.cells #[wordF] 62)).heap.size = w.heap.size + 1 := by simp
      rw [hz] at hcv hs1
      have HS1 := Lib.hid hs1
      have HB1 := Lib.hid (HB0.out.trans (hb1.mono (by simp)))
      have hB1 : w1.cell? ⟨w.heap.size, 0, none⟩ = some (.func (.func 31) #[] #[]) := cellS_below hb1 (by rw [cell_of_row _ w.heap.size 0 _ _ _ (heap_alloc_last w _)]; rfl)
      have HCF := Lib.hid (containsFunc_any w1 _ s.length c s w.heap.size hs1 (by omega) hB1)
      rw [he, decide_eq_true hl] at HR
      unfold wordF at hcv
      generalize (s.any fun c => !wordB c.toNat) = ok at *
      clear hs1 hb1 hB1 hl hc1 hz
      go_enter Try.func23, Try.ntmps23
      go_wp2_with fail
      refine HCF.out.mono ?_
      rintro e w' ⟨rfl, rfl⟩
      go_wp2_with fail
      go_ret
      exact ⟨ret_boolE (by rw [HR.out]; cases ok <;> rfl), HB1.out⟩
    · have hl2 : decide ((s.length : Int) ≤ 64) = false := by simp; omega
      rw [he, decide_eq_false hl] at HR
      clear hl
      go_enter Try.func23, Try.ntmps23
      go_wp2_with fail
      go_ret
      exact ⟨ret_boolE (by rw [HR.out]; rfl), HB0.out⟩
  · rw [he] at HR
    go_enter Try.func23, Try.ntmps23
    go_wp2_with fail
    go_ret
    exact ⟨ret_boolE (by rw [HR.out]; rfl), HB0.out⟩
end Go.Proofs.Ytaedohlfcbppaaa
