/- asm: own texts, merged (wip/merge2.py). No condition. -/
import Derived.Test.YtclpkipaehpkdaaGreatDoorQ01AsmNames
import Derived.Lib.ConvBytes
import Derived.Deep.LoopGhost
import Derived.Deep.DeepCutAuto
import Derived.Lib.DecodeN
set_option linter.unusedVariables false
set_option linter.unusedSimpArgs false
namespace Go.Proofs.YtclpkipaehpkdaaGreatDoor
open Go.ChangeShapes Go.WideShapes Go.ChangeAt Go.RowKit
attribute [local go_sem ↓] Go.wp_at_zero Go.wp_at_succ

def DecRet (w : World) (r : Option (List UInt16)) (e : Ending) (w' : World) : Prop :=
  match r with
  | none => e = .returned (.tuple #[.slice none 0 0, .int .i64 8]) ∧ Below w.heap.size w w'
  | some us => ∃ v n, e = .returned (.tuple #[v, .int .i64 0]) ∧ w'.ownsRow w.heap.size 231 1 v n (us.map encU) ∧ Below w.heap.size w w'

def DecRel (w : World) (n : Nat) (bs : List UInt8) (s t : Value) (wr : World) : Prop :=
  ∃ (a' : Option Addr) (m c f k : Nat) (rest : List UInt8) (us : List UInt16), s = .slice a' m c ∧ m ≤ f ∧ f ≤ n ∧ m ≤ c ∧ k + m ≤ n ∧ Hid (Sl encB w a' m rest) ∧ Hid (wr.ownsRow w.heap.size 231 1 t k (us.map encU)) ∧ Hid (Below w.heap.size w wr) ∧
      Hid (decodeB bs = (decodeF f rest).map (us ++ ·))
def lenOfV : Value → Nat | .slice _ m _ => m | _ => 0

set_option maxRecDepth 100000 in
set_option maxHeartbeats 2000000 in
theorem Decode_any (w : World) (a : Option Addr) (n cap : Nat) (bs : List UInt8) (hs : Sl encB w a n bs) (hn : n ≤ 65536) (hcap : n ≤ cap) :
    Calls Tryz.prog 169 #[.slice a n cap] w (DecRet w (decodeB bs)) := by
  have HS := Lib.hid hs
  have hnl := hs.1
  have HC := Lib.hid hcap
  clear hs hcap
  go_enter Tryz.func169, Tryz.ntmps169
  go_wp2
  go_loopw [0, 4] (fun s t wr => DecRel w n bs s t wr) (fun s _ _ => lenOfV s)
  case atStart => exact ⟨a, n, cap, n, 0, bs, [], rfl, Nat.le_refl _, Nat.le_refl _, HC.out, by omega, HS, World.ownsRow_nil _ _ _ _, Below.refl _ _, by show _ = _; unfold decodeB; rw [hnl]; simp⟩
  case round =>
    obtain ⟨a', m, c, f, k, rest, us, rfl, hmf, hfn, hmc, hkm, HR, HO, HW, HD⟩ := hrel
    by_cases hlt : 0 < m
    · have hne : rest ≠ [] := by intro h; have := HR.out.1; rw [h] at this; simp at this; omega
      have hle := takeN_le hne
      rw [HR.out.1] at hle
      go_wp2_with fail
      refine (take_any _ _ _ _ rest (HR.out.below HW.out) (by omega) hlt).mono ?_
      obtain ⟨u, hu⟩ : ∃ u, u = (takeN rest).1 := ⟨_, rfl⟩
      obtain ⟨q, hq⟩ : ∃ q, q = (takeN rest).2 := ⟨_, rfl⟩
      rw [← hu, ← hq] at hle
      obtain ⟨hq1, hu1⟩ := hle
      unfold TakeRet
      rw [← hu, ← hq]
      have HU := Lib.hid hu
      have HQ := Lib.hid hq
      clear hu hq
      rintro e w1 ⟨rfl, rfl⟩
      obtain ⟨f, rfl⟩ : ∃ f', f = f' + 1 := ⟨f - 1, by omega⟩
      have hstep := decodeF_step (f := f) (bs := rest) (by rw [HR.out.1]; omega) hne
      rw [← HU.out, ← HQ.out] at hstep
      have HT := Lib.hid hstep
      clear hstep hne
      by_cases hq0 : q = 0
      · have hN : decodeB bs = none := by rw [HD.out, HT.out, if_pos hq0]; rfl
        have HN := Lib.hid hN
        clear hN
        subst hq0
        go_wp2
        go_ret2
        rw [HN.out]
        exact ⟨rfl, HW.out⟩
      · have hq2 : ((q : Int) == 0) = false := by simp; omega
        have hqp : 0 < q := by omega
        have HD2 := Lib.hid (show decodeB bs = (decodeF f (rest.drop q)).map ((us ++ [UInt16.ofNat u]) ++ ·) by
          rw [HD.out, HT.out, if_neg hq0]
          cases decodeF f (rest.drop q) <;> simp)
        have HE := Lib.hid (show (Value.int .u16 (u : Int)) = encU (UInt16.ofNat u) by unfold encU; rw [UInt16.toNat_ofNat_of_lt' hu1])
        have g1 : (0 : Int) ≤ (q : Int) := by omega
        have g2 : (q : Int) ≤ (m : Int) := by omega
        have g3 : (m : Int) ≤ (c : Int) := by omega
        obtain ⟨b, off, rfl, _⟩ := HR.out.drop (j := 0) hlt
        by_cases hqc : c = q
        · obtain rfl : q = m := by omega
          subst hqc
          clear hq0
          go_wp2_with fail
          go_region_law ((refine step_app_lit oneU (by rfl) _ _ (by rfl) w.heap.size _ _ _ (by rfl) HO.out.drew _ 1 _ (by rfl) (by rfl) (by rfl) (by omega) (by unfold maxLen; omega) HW.out.size ?_; intro v1 w1 hown1 hg1 hb1))
          have HO1 := Lib.hid hown1
          have HB1 := Lib.hid (HW.out.trans (((Below.refl _ _).drew).trans hb1))
          clear hown1 hg1 hb1
          go_wp2_with fail
          have hrel : DecRel w n bs (.slice (some ⟨b, off, none⟩) 0 0) v1 w1 :=
            ⟨_, 0, 0, f, k + 1, _, us ++ [UInt16.ofNat u], rfl, by omega, by omega, by omega, by omega, by
              have hl := HR.out.1
              show Sl _ _ _ _ _
              rw [List.drop_of_length_le (by omega)]
              exact Sl.nil _ _, by rw [List.map_append]; show World.ownsRow _ _ _ _ _ _ (_ ++ [_]); rw [← HE.out]; exact HO1.out, HB1, HD2⟩
          exact ⟨⟨_, _, _, _, hrel, rfl, rfl, rfl, rfl⟩, by simp only [lenOfV]; omega⟩
        · clear hq0
          go_wp2_with fail
          go_region_law ((refine step_app_lit oneU (by rfl) _ _ (by rfl) w.heap.size _ _ _ (by rfl) HO.out.drew _ 1 _ (by rfl) (by rfl) (by rfl) (by omega) (by unfold maxLen; omega) HW.out.size ?_; intro v1 w1 hown1 hg1 hb1))
          have HO1 := Lib.hid hown1
          have HB1 := Lib.hid (HW.out.trans (((Below.refl _ _).drew).trans hb1))
          clear hown1 hg1 hb1
          go_wp2_with fail
          have hSl : Sl encB w (some ⟨b, off + q, none⟩) (m - q) (rest.drop q) := by
            by_cases hqm : q < m
            · obtain ⟨b', off', he, hSl⟩ := HR.out.drop hqm
              simp only [Option.some.injEq, Addr.mk.injEq, and_true] at he
              rw [he.1, he.2]; exact hSl
            · have hl := HR.out.1
              rw [List.drop_of_length_le (by omega), show m - q = 0 by omega]
              exact Sl.nil _ _
          have hrel : DecRel w n bs (.slice (some ⟨b, off + q, none⟩) (m - q) (c - q)) v1 w1 :=
            ⟨_, m - q, c - q, f, k + 1, _, us ++ [UInt16.ofNat u], rfl, by omega, by omega, by omega, by omega, hSl,
              by rw [List.map_append]; show World.ownsRow _ _ _ _ _ _ (_ ++ [_]); rw [← HE.out]; exact HO1.out, HB1, HD2⟩
          exact ⟨⟨_, _, _, _, hrel, rfl, rfl, rfl, rfl⟩, by simp only [lenOfV]; omega⟩
    · have hN : decodeB bs = some us := by
        have : rest = [] := List.eq_nil_of_length_eq_zero (by rw [HR.out.1]; omega)
        rw [HD.out, this]; simp [decodeF]
      have HN := Lib.hid hN
      clear hN
      go_wp2
      go_ret2
      rw [HN.out]
      exact ⟨_, k, rfl, HO.out, HW.out⟩

def lenOf (r : Option (List UInt16)) : Int × Int := match r with | none => (0, 8) | some us => (us.length, 0)
set_option maxRecDepth 100000 in
set_option maxHeartbeats 2000000 in
theorem Len_any (w : World) (a : Option Addr) (n cap : Nat) (bs : List UInt8) (hs : Sl encB w a n bs) (hn : n ≤ 65536) (hcap : n ≤ cap) :
    Calls Tryz.prog 136 #[.slice a n cap] w fun e w' => e = .returned (.tuple #[.int .i64 (lenOf (decodeB bs)).1, .int .i64 (lenOf (decodeB bs)).2]) ∧ Below w.heap.size w w' := by
  have HD := Lib.hid (Decode_any w a n cap bs hs hn hcap)
  clear hs hcap
  go_enter Tryz.func136, Tryz.ntmps136
  go_wp2_with fail
  refine HD.out.mono ?_
  intro e w1 hr
  clear HD
  cases hd : decodeB bs with
  | none =>
    rw [hd] at hr
    obtain ⟨rfl, hb⟩ := hr
    have H := Lib.hid hd
    clear hd
    go_wp2
    go_ret2
    exact ⟨by rw [H.out]; rfl, hb⟩
  | some us =>
    rw [hd] at hr
    obtain ⟨v, m, rfl, hown, hb⟩ := hr
    obtain ⟨a1, cap1, rfl, hsl, _⟩ := Sl.ofOwn hown
    have hl := hsl.1
    have H := Lib.hid hd
    have HL := Lib.hid hl
    clear hd hown hsl hl
    go_wp2
    go_ret2
    exact ⟨by rw [H.out, show m = us.length from HL.out.symm]; rfl, hb⟩

def firstAt (p : UInt8 → Bool) (bs : List UInt8) : Int := match bs.findIdx? p with | some i => i | none => -1
theorem firstAt_here {p : UInt8 → Bool} {bs : List UInt8} {k : Nat} (h : k < bs.length) (hp : p bs[k] = true) (hn : ∀ j (h : j < k) (h' : j < bs.length), p bs[j] = false) : firstAt p bs = k := by
  unfold firstAt
  rw [List.findIdx?_eq_some_iff_getElem.2 ⟨h, hp, fun j hj => by have := hn j hj (by omega); simp [this]⟩]
theorem firstAt_none {p : UInt8 → Bool} {bs : List UInt8} (hn : ∀ j (h' : j < bs.length), p bs[j] = false) : firstAt p bs = -1 := by
  unfold firstAt
  rw [List.findIdx?_eq_none_iff.2 (fun x hx => by obtain ⟨j, hj, rfl⟩ := List.mem_iff_getElem.1 hx; exact hn j hj)]

set_option maxRecDepth 100000 in
set_option maxHeartbeats 2000000 in
theorem IndexFunc_any (w : World) (a : Option Addr) (n cap : Nat) (bs : List UInt8) (f : Nat) (p : UInt8 → Bool) (hs : Sl encB w a n bs) (hn : n ≤ 65536)
    (he : ∀ (args : Array Value) (w : World), (callFunc f args).run Tryz.prog w = .ok (.enter f args) w) (hf : ∀ (w : World) (c : UInt8), Calls Tryz.prog f #[.int .u8 (c.toNat : Int)] w fun e w' => e = .returned (.bool (p c)) ∧ w = w') :
    Calls Tryz.prog 168 #[.slice a n cap, .func (.func f) #[] #[]] w fun e w' => e = .returned (.int .i64 (firstAt p bs)) ∧ w = w' := by
  have HS := Lib.hid hs
  have HF := Lib.hid hf
  clear hs hf
  go_enter Tryz.func168, Tryz.ntmps168
  go_wp2
  go_loop [8] (fun i => ∃ k : Nat, k ≤ n ∧ i = .int .i64 k ∧ Hid (∀ j (h : j < k) (h' : j < bs.length), p bs[j] = false)) (fun i => n - (intOf i).toNat)
  case atStart => exact ⟨0, Nat.zero_le _, rfl, fun j h => by omega⟩
  case round =>
    obtain ⟨k, hk, rfl, HN⟩ := hrel
    by_cases hlt : k < n
    · obtain ⟨b, off, rfl, hbl, hc⟩ := HS.out.2 (by omega)
      have hkl : k < bs.length := by rw [HS.out.1]; exact hlt
      have hck : w.cell? ⟨b, off + k, none⟩ = some (.int .u8 (bs[k].toNat : Int)) := hc k hkl
      clear hc hbl
      go_wp2_with fail
      refine (HF.out w bs[k]).mono ?_
      rintro e w1 ⟨rfl, rfl⟩
      cases hp : p bs[k]
      · have HP := Lib.hid hp
        clear hp
        go_wp2_with fail
        go_round
        case rel => exact ⟨k + 1, by omega, by go_num, fun j hj hj' => by
          by_cases h : j = k
          · subst h; exact HP.out
          · exact HN.out j (by omega) hj'⟩
        case measure => simp [intOf]; omega
      · have HP := Lib.hid hp
        clear hp
        go_wp2_with fail
        go_ret
        exact ⟨ret_int (firstAt_here hkl HP.out (fun j hj hj' => HN.out j hj hj')).symm, rfl⟩
    · go_wp2
      go_ret
      exact ⟨ret_int (firstAt_none (fun j hj => HN.out j (by have := HS.out.1; omega) hj)).symm, rfl⟩

theorem firstAt_pos (p : UInt8 → Bool) (bs : List UInt8) : decide (0 ≤ firstAt p bs) = bs.any p := by
  unfold firstAt
  cases h : bs.findIdx? p with
  | none =>
    rw [List.findIdx?_eq_none_iff] at h
    have : bs.any p = false := by rw [List.any_eq_false]; intro x hx; simp [h x hx]
    rw [this]; rfl
  | some i =>
    obtain ⟨hi, hp, _⟩ := List.findIdx?_eq_some_iff_getElem.1 h
    have : bs.any p = true := List.any_eq_true.2 ⟨_, List.getElem_mem hi, hp⟩
    rw [this]; simp
set_option maxHeartbeats 2000000 in
theorem ContainsFunc_any (w : World) (a : Option Addr) (n cap : Nat) (bs : List UInt8) (f : Nat) (p : UInt8 → Bool) (hs : Sl encB w a n bs) (hn : n ≤ 65536)
    (he : ∀ (args : Array Value) (w : World), (callFunc f args).run Tryz.prog w = .ok (.enter f args) w) (hf : ∀ (w : World) (c : UInt8), Calls Tryz.prog f #[.int .u8 (c.toNat : Int)] w fun e w' => e = .returned (.bool (p c)) ∧ w = w') :
    Calls Tryz.prog 135 #[.slice a n cap, .func (.func f) #[] #[]] w fun e w' => e = .returned (.bool (bs.any p)) ∧ w = w' := by
  have HI := Lib.hid (IndexFunc_any w a n cap bs f p hs hn he hf)
  have HP := Lib.hid (firstAt_pos p bs)
  clear hs he hf
  go_enter Tryz.func135, Tryz.ntmps135
  go_wp2_with fail
  refine HI.out.mono ?_
  rintro e w1 ⟨rfl, rfl⟩
  obtain ⟨q, hq⟩ : ∃ q, q = firstAt p bs := ⟨_, rfl⟩
  rw [← hq] at HP ⊢
  clear hq HI
  go_wp2
  go_ret
  exact ⟨by rw [← HP.out]; rfl, rfl⟩

end Go.Proofs.YtclpkipaehpkdaaGreatDoor

namespace Go.Proofs.YtclpkipaehpkdaaGreatDoor
open Go.ChangeShapes Go.WideShapes Go.ChangeAt Go.RowKit
theorem conv_bytes (w : World) (bs : List UInt8) : ∃ c w1, (convert 9 43 (.string ⟨bs.toArray⟩)).run Tryz.prog w = .ok (.slice (some ⟨w.heap.size, 0, none⟩) bs.length c) w1 ∧
    Sl encB w1 (some ⟨w.heap.size, 0, none⟩) bs.length bs ∧ bs.length ≤ c ∧ Below w.heap.size w w1 ∧ w1.heap.size = w.heap.size + 1 := by
  have hr := Lib.run_convert_string_bytes (P := Tryz.prog) w 9 43 5 ⟨bs.toArray⟩ Tryz.underlying9 Tryz.underlying43 Tryz.underlying5
  have hsz : (⟨bs.toArray⟩ : ByteArray).size = bs.length := by simp [ByteArray.size]
  rw [hsz] at hr
  refine ⟨_, _, hr, ⟨rfl, fun _ => ⟨w.heap.size, 0, rfl, by rw [Lib.bytesWorld_size]; omega, fun i hi => ?_⟩⟩, grownCap_ge _ _ _ _, ⟨?_, ?_, ?_, by rw [Lib.bytesWorld_size]; omega, fun k hk => Lib.bytesWorld_at_old _ _ _ _ hk⟩, Lib.bytesWorld_size _ _ _⟩
  · rw [Nat.zero_add, Lib.bytesWorld_cell _ _ _ i (by rw [hsz]; exact hi)]
    simp [List.getD, hi, encB]
  · simp [Lib.bytesWorld, World.freeze, World.alloc, World.drew, -World.alloc_eq, -World.drew_eq]
  · simp [Lib.bytesWorld, World.freeze, World.alloc, World.drew, -World.alloc_eq, -World.drew_eq]
  · simp [Lib.bytesWorld, World.freeze, World.alloc, World.drew, -World.alloc_eq, -World.drew_eq]
end Go.Proofs.YtclpkipaehpkdaaGreatDoor

namespace Go.Proofs.YtclpkipaehpkdaaGreatDoor
open Go.ChangeShapes Go.WideShapes Go.ChangeAt Go.RowKit
theorem ret_boolJ {a b : Bool} (h : a = b) : Ending.returned (.bool a) = Ending.returned (.bool b) := by rw [h]
def wordN (n : Nat) : Bool := (decide (97 ≤ n) && decide (n ≤ 122)) || (decide (65 ≤ n) && decide (n ≤ 90)) || (decide (48 ≤ n) && decide (n ≤ 57)) || decide (n = 95) || decide (n = 36)
theorem enter_word1 (args : Array Value) (w : World) : (callFunc 134 args).run Tryz.prog w = .ok (.enter 134 args) w := by kernel_rfl
theorem enter_class1 (args : Array Value) (w : World) : (callFunc 85 args).run Tryz.prog w = .ok (.enter 85 args) w := by kernel_rfl
theorem word1_nat (w : World) (n : Nat) (h : n < 256) : Calls Tryz.prog 134 #[.int .u8 (n : Int)] w fun e w' => e = .returned (.bool (!wordN n)) ∧ w = w' := by
  go_enter Tryz.func134, Tryz.ntmps134
  go_wp2
  all_goals (go_ret; refine ⟨ret_boolJ ?_, rfl⟩; rw [Bool.eq_iff_iff]; unfold wordN; simp only [Bool.or_eq_true, Bool.and_eq_true, decide_eq_true_eq, beq_iff_eq, Bool.not_eq_true', Bool.not_eq_false', beq_eq_false_iff_ne, ne_eq, Bool.or_eq_false_iff, Bool.and_eq_false_imp, decide_eq_false_iff_not, Bool.false_eq_true, false_iff, true_iff, Bool.not_eq_true, reduceCtorEq] at *; omega)
def wordB (s : List UInt8) : Bool := !s.isEmpty && s.all fun c => wordN c.toNat
set_option maxHeartbeats 4000000 in
set_option maxRecDepth 100000 in
theorem word_any (w : World) (s : List UInt8) (hl : s.length ≤ 65536) : Calls Tryz.prog 86 #[.string ⟨s.toArray⟩] w fun e w' => e = .returned (.bool (wordB s)) ∧ Below w.heap.size w w' := by
  obtain ⟨r, hr⟩ : ∃ r, r = wordB s := ⟨_, rfl⟩
  rw [← hr]
  have hall : (s.all fun c => wordN c.toNat) = !(s.any fun c => !wordN c.toNat) := by rw [List.all_eq_not_any_not]
  unfold wordB at hr
  rw [hall] at hr
  have HR := Lib.hid hr
  clear hr hall
  have HB0 := Lib.hid (Below.refl w.heap.size w)
  cases he : s.isEmpty
  · obtain ⟨c, w1, hcv, hs1, hc1, hb1, hz1⟩ := conv_bytes w s
    have HB1 := Lib.hid hb1
    have HCF := Lib.hid (ContainsFunc_any w1 _ s.length c s 134 (fun c => !wordN c.toNat) hs1 hl enter_word1 (fun w c => word1_nat w c.toNat c.toNat_lt))
    rw [he] at HR
    generalize (s.any fun c => !wordN c.toNat) = ok at *
    clear hs1 hb1 hl hc1 hz1
    go_enter Tryz.func86, Tryz.ntmps86
    go_wp2_with fail
    refine HCF.out.mono ?_
    rintro e w' ⟨rfl, rfl⟩
    go_wp2_with fail
    go_ret
    exact ⟨ret_boolJ (by rw [HR.out]; cases ok <;> rfl), HB1.out⟩
  · rw [he] at HR
    go_enter Tryz.func86, Tryz.ntmps86
    go_wp2_with fail
    go_ret
    exact ⟨ret_boolJ (by rw [HR.out]; rfl), HB0.out⟩
set_option maxHeartbeats 4000000 in
set_option maxRecDepth 100000 in
theorem class1_any (w : World) (s : List UInt8) (hl : s.length ≤ 65536) : Calls Tryz.prog 85 #[.string ⟨s.toArray⟩] w fun e w' => e = .returned (.bool (!wordB s)) ∧ Below w.heap.size w w' := by
  have HW := Lib.hid (word_any w s hl)
  generalize wordB s = ok at *
  go_enter Tryz.func85, Tryz.ntmps85
  go_wp2_with fail
  refine HW.out.mono ?_
  rintro e w' ⟨rfl, hb⟩
  have HB := Lib.hid hb
  clear hb
  go_wp2_with fail
  go_ret
  exact ⟨rfl, HB.out⟩
set_option maxRecDepth 100000 in
set_option maxHeartbeats 2000000 in
theorem IndexFuncS_any (w : World) (g cap f : Nat) (xs : List (List UInt8)) (p : List UInt8 → Bool) (hc : ∀ (j : Nat) x, xs[j]? = some x → w.cell? ⟨g, j, none⟩ = some (.string ⟨x.toArray⟩)) (hn : xs.length ≤ 65536)
    (he : ∀ (args : Array Value) (w : World), (callFunc f args).run Tryz.prog w = .ok (.enter f args) w) (hf : ∀ (w : World) x, x ∈ xs → Calls Tryz.prog f #[.string ⟨x.toArray⟩] w fun e w' => e = .returned (.bool (p x)) ∧ Below w.heap.size w w') :
    Calls Tryz.prog 132 #[.slice (some ⟨g, 0, none⟩) xs.length cap, .func (.func f) #[] #[]] w fun e w' => ∃ r : Int, e = .returned (.int .i64 r) ∧ decide (0 ≤ r) = xs.any p ∧ Below w.heap.size w w' := by
  obtain ⟨n, hN⟩ : ∃ n, n = xs.length := ⟨_, rfl⟩
  rw [← hN] at hn ⊢
  have HN := Lib.hid hN
  have HC := Lib.hid hc
  have HF := Lib.hid hf
  clear hc hf hN
  go_enter Tryz.func132, Tryz.ntmps132
  go_wp2_with fail
  go_loopg [8] n (fun gn i wr => ∃ j : Nat, j ≤ n ∧ gn = n - j ∧ i = .int .i64 j ∧ Hid (∀ k (h : k < xs.length), k < j → p xs[k] = false) ∧ Hid (Below w.heap.size w wr))
  case atStart => exact ⟨0, by omega, by omega, by go_num, Lib.hid (fun k h h0 => by omega), Lib.hid (Below.refl _ _)⟩
  case round =>
    obtain ⟨j, hj, rfl, rfl, HG, HB⟩ := hrel
    by_cases hlt : j < n
    · have hjs : j < xs.length := by rw [← HN.out]; exact hlt
      have q0 : wr.cell? ⟨g, j, none⟩ = some (.string ⟨(xs[j]).toArray⟩) := cell_below (HC.out j _ (List.getElem?_eq_getElem hjs)) HB.out
      have HY := Lib.hid (show p xs[j] = true → xs.any p = true from fun h => List.any_eq_true.2 ⟨xs[j], List.getElem_mem hjs, h⟩)
      have HX := Lib.hid (show p xs[j] = false → ∀ k (h : k < xs.length), k < j + 1 → p xs[k] = false from fun h k hk hk2 => by
        rcases Nat.lt_or_ge k j with h1 | h1
        · exact HG.out k hk h1
        · obtain rfl : k = j := by omega
          exact h)
      have HCX := Lib.hid (HF.out wr _ (List.getElem_mem hjs))
      have j1 : (j : Int) < n := by omega
      generalize xs[j] = x at *
      generalize p x = ok at *
      clear hjs
      go_wp2_with fail
      refine HCX.out.mono ?_
      rintro e w' ⟨rfl, hb⟩
      have HB2 := Lib.hid (HB.out.trans (hb.mono HB.out.size))
      clear hb
      cases ok
      · have HM := Lib.hid (HX.out rfl)
        go_wp2_with fail
        go_roundg (n - (j + 1))
        case measure => omega
        case rel => exact ⟨j + 1, by omega, rfl, by go_num, HM, HB2⟩
      · have HR := Lib.hid (HY.out rfl)
        go_wp2_with fail
        go_ret
        exact ⟨_, rfl, by rw [HR.out]; simp, HB2.out⟩
    · obtain rfl : j = n := by omega
      have HR := Lib.hid (show xs.any p = false from by
        rw [List.any_eq_false]
        intro c hc
        obtain ⟨k, hk, rfl⟩ := List.getElem_of_mem hc
        rw [HG.out k hk (by rw [← HN.out] at hk; exact hk)]
        decide)
      go_wp2_with fail
      go_ret
      exact ⟨_, rfl, by rw [HR.out]; rfl, HB.out⟩
set_option maxRecDepth 100000 in
set_option maxHeartbeats 2000000 in
theorem ContainsFuncS_any (w : World) (g cap f : Nat) (xs : List (List UInt8)) (p : List UInt8 → Bool) (hc : ∀ (j : Nat) x, xs[j]? = some x → w.cell? ⟨g, j, none⟩ = some (.string ⟨x.toArray⟩)) (hn : xs.length ≤ 65536)
    (he : ∀ (args : Array Value) (w : World), (callFunc f args).run Tryz.prog w = .ok (.enter f args) w) (hf : ∀ (w : World) x, x ∈ xs → Calls Tryz.prog f #[.string ⟨x.toArray⟩] w fun e w' => e = .returned (.bool (p x)) ∧ Below w.heap.size w w') :
    Calls Tryz.prog 83 #[.slice (some ⟨g, 0, none⟩) xs.length cap, .func (.func f) #[] #[]] w fun e w' => e = .returned (.bool (xs.any p)) ∧ Below w.heap.size w w' := by
  have HI := Lib.hid (IndexFuncS_any w g cap f xs p hc hn he hf)
  generalize xs.any p = ok at *
  generalize xs.length = n at *
  clear hc hf he
  go_enter Tryz.func83, Tryz.ntmps83
  go_wp2_with fail
  refine HI.out.mono ?_
  rintro e w' ⟨r, rfl, hr, hb⟩
  have HB := Lib.hid hb
  clear hb
  go_wp2_with fail
  go_ret
  exact ⟨rfl, HB.out⟩
def classB (s : List UInt8) : Bool := decide (s.length ≤ 64) && (sp 47 s).all wordB
theorem sp_len_mem (c : UInt8) : ∀ (s : List UInt8) x, x ∈ sp c s → x.length ≤ s.length
  | [], x, h => by simp [sp] at h; subst h; simp
  | b :: l, x, h => by
    have ih := sp_len_mem c l
    unfold sp at h
    split at h
    · rcases List.mem_cons.1 h with rfl | h
      · simp
      · have := ih x h; simp; omega
    · split at h
      · simp at h; subst h; simp
      · next y ys e =>
        rw [e] at ih
        rcases List.mem_cons.1 h with rfl | h
        · have := ih y (by simp); simp; omega
        · have := ih x (by simp [h]); simp; omega
theorem sp_length (c : UInt8) (s : List UInt8) : (sp c s).length ≤ s.length + 1 := by
  induction s with
  | nil => simp [sp]
  | cons b l ih =>
    unfold sp
    split
    · simp; omega
    · split
      · simp
      · next e => rw [e] at ih; simp at ih ⊢; omega
set_option maxRecDepth 100000 in
set_option maxHeartbeats 2000000 in
theorem IsClass_any (w : World) (s : List UInt8) (hl : s.length ≤ 4294967000) (hv : VW w) : Calls Tryz.prog 42 #[.string ⟨s.toArray⟩] w fun e w' => e = .returned (.bool (classB s)) ∧ Below w.heap.size w w' := by
  obtain ⟨r, hr⟩ : ∃ r, r = classB s := ⟨_, rfl⟩
  rw [← hr]
  unfold classB at hr
  have hall : (sp 47 s).all wordB = !((sp 47 s).any fun x => !wordB x) := by rw [List.all_eq_not_any_not]
  rw [hall] at hr
  have HR := Lib.hid hr
  clear hr hall
  have hsz : (⟨s.toArray⟩ : ByteArray).size = s.length := by simp [ByteArray.size]
  by_cases h64 : s.length ≤ 64
  · have hl2 : decide ((s.length : Int) ≤ 64) = true := by simp; omega
    have HS := Lib.hid (Split_any w s 47 hl hv)
    have h1 := sp_length 47 s
    have hb1 : Below w.heap.size w (w.alloc (.cells ((sp 47 s).map fun x => Value.string ⟨x.toArray⟩).toArray 9)) := (Below.refl _ _).alloc (Nat.le_refl _) _
    have HB1 := Lib.hid hb1
    have HC := Lib.hid (fun W1 (h : W1 = w.alloc (.cells ((sp 47 s).map fun x => Value.string ⟨x.toArray⟩).toArray 9)) => ContainsFuncS_any W1 w.heap.size (sp 47 s).length 85 (sp 47 s) (fun x => !wordB x) (fun j x hx => by
      subst h
      rw [cell_of_row _ w.heap.size j _ _ _ (heap_alloc_last w _)]
      simp [hx]) (by omega) enter_class1 (fun w x hx => class1_any w x (by have := sp_len_mem 47 s x hx; omega)))
    rw [decide_eq_true h64] at HR
    generalize ((sp 47 s).any fun x => !wordB x) = ok at *
    generalize (sp 47 s) = xs at *
    clear hl hv h64 hb1 h1
    go_enter Tryz.func42, Tryz.ntmps42
    go_wp2_with fail
    refine HS.out.mono ?_
    rintro e w1 ⟨rfl, hw1⟩
    have HC2 := Lib.hid (HC.out w1 hw1)
    rw [← hw1] at HB1
    clear hw1 HC
    go_wp2_with fail
    refine HC2.out.mono ?_
    rintro e w2 ⟨rfl, hb2⟩
    have HB2 := Lib.hid (HB1.out.trans (hb2.mono HB1.out.size))
    clear hb2
    go_wp2_with fail
    go_ret
    exact ⟨ret_boolJ (by rw [HR.out]; cases ok <;> rfl), HB2.out⟩
  · have hl2 : decide ((s.length : Int) ≤ 64) = false := by simp; omega
    have HB0 := Lib.hid (Below.refl w.heap.size w)
    rw [decide_eq_false h64] at HR
    clear hl hv h64
    go_enter Tryz.func42, Tryz.ntmps42
    go_wp2_with fail
    go_ret
    exact ⟨ret_boolJ (by rw [HR.out]; rfl), HB0.out⟩
end Go.Proofs.YtclpkipaehpkdaaGreatDoor

namespace Go.Proofs.YtclpkipaehpkdaaGreatDoor
open Go.ChangeShapes Go.WideShapes Go.ChangeAt Go.RowKit
def cls : Nat → List UInt8 → Bool
  | l, [] => decide (l ≠ 47)
  | l, c :: s => (wordN c.toNat || (decide (c.toNat = 47) && decide (l ≠ 47))) && cls c.toNat s
theorem u8_47 (c : UInt8) : c = 47 ↔ c.toNat = 47 := ⟨fun h => by rw [h]; rfl, fun h => UInt8.toNat_inj.1 h⟩
theorem sp_ne (c : UInt8) (s : List UInt8) : ∃ x xs, sp c s = x :: xs := by
  cases s with
  | nil => exact ⟨_, _, rfl⟩
  | cons b l =>
    unfold sp
    split
    · exact ⟨_, _, rfl⟩
    · split
      · exact ⟨_, _, rfl⟩
      · exact ⟨_, _, rfl⟩
theorem cls_sp : ∀ (s : List UInt8) (l : Nat) x xs, sp 47 s = x :: xs → cls l s = ((if l = 47 then wordB x else x.all fun c => wordN c.toNat) && xs.all wordB)
  | [], l, x, xs, h => by
    simp only [sp, List.cons.injEq] at h
    obtain ⟨rfl, rfl⟩ := h
    unfold cls
    by_cases hl : l = 47 <;> simp [hl, wordB]
  | c :: s, l, x, xs, h => by
    obtain ⟨y, ys, e⟩ := sp_ne 47 s
    have ih := cls_sp s c.toNat y ys e
    unfold sp at h
    unfold cls
    rw [ih]
    by_cases hc : c = 47
    · rw [if_pos hc] at h
      obtain ⟨rfl, rfl⟩ := List.cons.inj h
      rw [e]
      have hc2 : c.toNat = 47 := (u8_47 c).1 hc
      have hw : wordN c.toNat = false := by rw [hc2]; decide
      by_cases hl : l = 47 <;> simp [hl, hc2, wordB, show wordN 47 = false from by decide]
    · rw [if_neg hc, e] at h
      obtain ⟨rfl, rfl⟩ := List.cons.inj h
      have hc2 : ¬ c.toNat = 47 := fun h => hc ((u8_47 c).2 h)
      rw [if_neg hc2]
      by_cases hl : l = 47 <;> simp [hl, hc2, wordB, Bool.and_assoc]
theorem cls_class (s : List UInt8) : classB s = (decide (s.length ≤ 64) && cls 47 s) := by
  obtain ⟨y, ys, e⟩ := sp_ne 47 s
  rw [cls_sp s 47 y ys e]
  unfold classB
  rw [e]
  simp
set_option maxHeartbeats 4000000 in
set_option maxRecDepth 100000 in
theorem refIsClass_any (w : World) (s : List UInt8) (hn : s.length ≤ 281474976710656) : Calls Tryz.prog 27 #[.string ⟨s.toArray⟩] w fun e w' => e = .returned (.bool (classB s)) ∧ w' = w := by
  obtain ⟨n, hN⟩ : ∃ n, n = s.length := ⟨_, rfl⟩
  have HLn := Lib.hid hN
  obtain ⟨r, hr⟩ : ∃ r, r = classB s := ⟨_, rfl⟩
  rw [← hr]
  rw [cls_class, ← hN] at hr
  rw [← hN] at hn
  have HR := Lib.hid hr
  have hsz : (⟨s.toArray⟩ : ByteArray).size = n := by rw [hN]; simp [ByteArray.size]
  clear hr hN
  go_enter Tryz.func27, Tryz.ntmps27
  go_wp2_with fail
  go_loopg [3, 4] n (fun gn la i wr => ∃ j l : Nat, j ≤ n ∧ gn = n - j ∧ la = .int .u8 l ∧ l < 256 ∧ i = .int .i64 j ∧ Hid (cls 47 s = cls l (s.drop j)) ∧ wr = w)
  case atStart => exact ⟨0, 47, by omega, by omega, rfl, by omega, by go_num, Lib.hid rfl, rfl⟩
  case round =>
    obtain ⟨j, l, hj, rfl, rfl, hl, rfl, HG, rfl⟩ := hrel
    by_cases hlt : j < n
    · have j1 : (j : Int) < n := by omega
      go_upto_region 6 with fail
      have hjs : j < s.length := by rw [← HLn.out]; exact hlt
      generalize hc0 : (({ data := s.toArray } : ByteArray)[j]'(by rw [hsz]; exact hlt)).toNat = c
      have hc1 : (s[j]'hjs).toNat = c := hc0
      have hcl : cls 47 s = ((wordN c || (decide (c = 47) && decide (l ≠ 47))) && cls c (s.drop (j + 1))) := by
        rw [HG.out, List.drop_eq_getElem_cons hjs, cls, hc1]
      have HF := Lib.hid (show (wordN c || (decide (c = 47) && decide (l ≠ 47))) = false → r = false from fun h => by rw [HR.out, hcl, h, Bool.false_and, Bool.and_false])
      have HM := Lib.hid (show (wordN c || (decide (c = 47) && decide (l ≠ 47))) = true → cls 47 s = cls c (s.drop (j + 1)) from fun h => by rw [hcl, h, Bool.true_and])
      have hc2 : c < 256 := by rw [← hc1]; exact (s[j]'hjs).toNat_lt
      clear hc0 hc1 hjs hcl
      go_wp2_with fail
      all_goals first
        | (go_ret
           exact ⟨ret_boolJ (HF.out (by unfold wordN; rw [Bool.eq_false_iff]; simp only [Bool.or_eq_true, Bool.and_eq_true, decide_eq_true_eq, beq_iff_eq, Bool.not_eq_true', Bool.not_eq_false', decide_eq_false_iff_not, beq_eq_false_iff_ne, bne_iff_ne, bne_eq_false_iff_eq, ne_eq] at *; omega)).symm, rfl⟩)
        | (go_roundg (n - (j + 1))
           case measure => omega
           case rel => exact ⟨j + 1, c, by omega, rfl, by go_num, hc2, by go_num, Lib.hid (HM.out (by unfold wordN; simp only [Bool.or_eq_true, Bool.and_eq_true, decide_eq_true_eq, beq_iff_eq, Bool.not_eq_true', Bool.not_eq_false', decide_eq_false_iff_not, beq_eq_false_iff_ne, bne_iff_ne, bne_eq_false_iff_eq, ne_eq] at *; omega)), rfl⟩)
    · obtain rfl : j = n := by omega
      have HQ := Lib.hid (show r = (decide (j ≤ 64) && decide (l ≠ 47)) from by
        rw [HR.out, HG.out, List.drop_eq_nil_of_le (by rw [← HLn.out]; exact Nat.le_refl _), cls])
      by_cases h1 : j ≤ 64
      · have e1 : decide ((j : Int) ≤ 64) = true := by simp; omega
        have HQ2 := Lib.hid (show r = decide (l ≠ 47) by rw [HQ.out, decide_eq_true h1, Bool.true_and])
        clear h1
        go_wp2_with fail
        go_ret
        refine ⟨ret_boolJ ?_, rfl⟩
        rw [HQ2.out, Bool.eq_iff_iff]
        simp only [bne_iff_ne, decide_eq_true_eq, ne_eq]
        omega
      · have e1 : decide ((j : Int) ≤ 64) = false := by simp; omega
        have HQ2 := Lib.hid (show r = false by rw [HQ.out, decide_eq_false h1, Bool.false_and])
        clear h1
        go_wp2_with fail
        go_ret
        exact ⟨ret_boolJ HQ2.out.symm, rfl⟩
end Go.Proofs.YtclpkipaehpkdaaGreatDoor

namespace Go.Proofs.YtclpkipaehpkdaaGreatDoor
open Go.RowKit
def dimsS : List UInt8 → Nat
  | [] => 0
  | c :: s => if c = 91 then dimsS s + 1 else 0
def cutN (d : Nat) : List UInt8 → Nat
  | [] => 0
  | c :: t => if 8 < d then 0 else if c = 73 ∨ (c = 74 ∧ d = 0) ∨ (c = 66 ∧ 0 < d) then d + 1
    else if c = 76 then (if (Lib.cut t [59]).2.2 = true ∧ classB (Lib.cut t [59]).1 = true then d + (Lib.cut t [59]).1.length + 2 else 0) else 0
theorem cutN_cons (d : Nat) (c : UInt8) (t : List UInt8) : cutN d (c :: t) = if 8 < d then 0 else if c = 73 ∨ (c = 74 ∧ d = 0) ∨ (c = 66 ∧ 0 < d) then d + 1
    else if c = 76 then (if (Lib.cut t [59]).2.2 = true ∧ classB (Lib.cut t [59]).1 = true then d + (Lib.cut t [59]).1.length + 2 else 0) else 0 := rfl
def cutL (s : List UInt8) : Nat := cutN (dimsS s) (s.drop (dimsS s))
def typeB (s : List UInt8) : Bool := !s.isEmpty && decide (cutL s = s.length)
def arrayB (s : List UInt8) : Bool := decide (s.head? = some 91) && typeB s
def memB (s : List UInt8) : Bool := !s.contains 47 && classB s
def argsL : Nat → List UInt8 → Option (List UInt8)
  | n, s => if s = [] ∨ s.head? = some 41 then some s else
    match n with
    | 0 => none
    | n + 1 => if cutL s = 0 then none else argsL n (s.drop (cutL s))
def tailB (o : Option (List UInt8)) : Bool := match o with
  | none => false
  | some [] => false
  | some (d :: t) => decide (d = 41) && (decide (t = [86]) || typeB t)
def methB (s : List UInt8) : Bool :=
  match s with
  | [] => false
  | c :: r => decide (c = 40) && tailB (argsL 16 r)
theorem dims_le : ∀ s : List UInt8, dimsS s ≤ s.length
  | [] => Nat.le_refl _
  | c :: s => by
    unfold dimsS
    split
    · have := dims_le s; simp; omega
    · simp
theorem dims_drop (s : List UInt8) : s.dropWhile (· == 91) = s.drop (dimsS s) := by
  induction s with
  | nil => rfl
  | cons c s ih =>
    unfold dimsS
    by_cases h : c = 91
    · subst h; simpa using ih
    · rw [if_neg h, List.dropWhile_cons_of_neg (by simpa using h)]; rfl
theorem cut_yes {s : List UInt8} (h : (Lib.cut s [59]).2.2 = true) : s = (Lib.cut s [59]).1 ++ 59 :: (Lib.cut s [59]).2.1 ∧ (59 : UInt8) ∉ (Lib.cut s [59]).1 := by
  by_cases h1 : Lib.index s [59] = -1
  · rw [cut_miss 59 s h1] at h; cases h
  · have hg := Lib.index_ge s [59]
    obtain ⟨i, hi⟩ : ∃ i : Nat, Lib.index s [59] = i := ⟨(Lib.index s [59]).toNat, by omega⟩
    rw [cut_hit 59 s i hi]
    clear h h1 hg
    induction s generalizing i with
    | nil => rw [index_one_nil] at hi; omega
    | cons c s ih =>
      rw [index_one_cons] at hi
      split at hi
      · next hc => have : i = 0 := by omega
                   subst this; subst hc; simp
      · next hc =>
        have hg := Lib.index_ge s [59]
        split at hi
        · omega
        · obtain ⟨k, rfl⟩ : ∃ k, i = k + 1 := ⟨i - 1, by omega⟩
          obtain ⟨e1, e2⟩ := ih k (by omega)
          simp only [List.take_succ_cons, List.drop_succ_cons]
          refine ⟨by simpa using e1, fun hm => ?_⟩
          rcases List.mem_cons.1 hm with h2 | h2
          · exact hc h2.symm
          · exact e2 h2
theorem cutN_le (d : Nat) (b : List UInt8) : cutN d b ≤ d + b.length := by
  cases b with
  | nil => simp [cutN]
  | cons c t =>
    rw [cutN_cons]
    by_cases h8 : 8 < d
    · rw [if_pos h8]; omega
    · rw [if_neg h8]
      by_cases h1 : c = 73 ∨ (c = 74 ∧ d = 0) ∨ (c = 66 ∧ 0 < d)
      · rw [if_pos h1]; simp
      · rw [if_neg h1]
        by_cases h76 : c = 76
        · rw [if_pos h76]
          by_cases h : (Lib.cut t [59]).2.2 = true ∧ classB (Lib.cut t [59]).1 = true
          · rw [if_pos h]
            have := congrArg List.length (cut_yes h.1).1
            simp only [List.length_append, List.length_cons] at this ⊢
            omega
          · rw [if_neg h]; omega
        · rw [if_neg h76]; omega
theorem cutL_le (s : List UInt8) : cutL s ≤ s.length := by
  unfold cutL
  have h1 := cutN_le (dimsS s) (s.drop (dimsS s))
  have h2 := dims_le s
  rw [List.length_drop] at h1
  omega
end Go.Proofs.YtclpkipaehpkdaaGreatDoor

