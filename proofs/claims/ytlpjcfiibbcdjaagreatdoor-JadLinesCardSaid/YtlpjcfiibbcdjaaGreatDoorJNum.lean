/- jad's numbers: digits, number, the document's number. No condition. -/
import Derived.Test.YtlpjcfiibbcdjaaGreatDoorJVars
import Derived.Test.YtlpjcfiibbcdjaaGreatDoorLib2
import Derived.Deep.LoopGhost
import Derived.Deep.DeepCutAuto
namespace Go.Proofs.YtlpjcfiibbcdjaaGreatDoor
open Go.ChangeShapes Go.WideShapes Go.ChangeAt Go.RowKit
theorem ret_boolN {a b : Bool} (h : a = b) : Ending.returned (.bool a) = Ending.returned (.bool b) := by rw [h]
theorem ret_str {a b : List UInt8} (h : a = b) : Ending.returned (.string ⟨a.toArray⟩) = Ending.returned (.string ⟨b.toArray⟩) := by rw [h]
theorem dec_small {u : Nat} (h : u < 10) : Lib.decDigits u = [UInt8.ofNat (48 + u)] := by rw [Lib.decDigits, dif_pos h]
theorem dec_big {u : Nat} (h : ¬ u < 10) : Lib.decDigits u = Lib.decDigits (u / 10) ++ [UInt8.ofNat (48 + u % 10)] := by rw [Lib.decDigits, dif_neg h]
theorem dec_len : ∀ (k u : Nat), 1 ≤ k → u < 10 ^ k → (Lib.decDigits u).length ≤ k := by
  intro k
  induction k with
  | zero => intro u h; omega
  | succ k ih =>
    intro u _ hu
    by_cases h : u < 10
    · rw [dec_small h]; simp
    · rw [dec_big h, List.length_append, List.length_singleton]
      rw [Nat.pow_succ] at hu
      have : 1 ≤ k := by
        rcases Nat.eq_zero_or_pos k with rfl | h1
        · simp at hu; omega
        · exact h1
      have := ih (u / 10) this (by omega)
      omega
theorem itoa_len (n : Int) (h : -9223372036854775808 ≤ n) (h2 : n ≤ 9223372036854775807) : (Lib.itoa n).length ≤ 20 := by
  unfold Lib.itoa
  split
  · have := dec_len 19 n.natAbs (by decide) (by omega)
    simp; omega
  · have := dec_len 19 n.toNat (by decide) (by omega)
    omega
set_option maxRecDepth 100000 in
theorem conv_digit (w : World) (u : Nat) (h : u < 10) : (convert 41 9 (.slice (some ⟨w.heap.size, 0, none⟩) 1 1)).run Tryz.prog (w.alloc (.cells #[.int .u8 (48 + (u : Int))] 5)) = .ok (.string ⟨(Lib.decDigits u).toArray⟩) (w.alloc (.cells #[.int .u8 (48 + (u : Int))] 5)) := by
  rw [dec_small h]
  refine run_conv (bs := [UInt8.ofNat (48 + u)]) (n := 1) (Sl.lit (heap_alloc_last w _) ?_ rfl) 1
  simp only [List.map_cons, List.map_nil, encB]
  rw [show ((UInt8.ofNat (48 + u)).toNat : Int) = 48 + (u : Int) from by rw [UInt8.toNat_ofNat']; omega]
theorem neg_any (w : World) (n : Int) (h : -9223372036854775808 < n) (h2 : n < 0) : Calls Tryz.prog 62 #[.int .i64 n] w fun e w' => e = .returned (.int .i64 (-n)) ∧ w' = w := by
  have h3 : (n == -9223372036854775808) = false := by simp; omega
  go_enter Tryz.func62, Tryz.ntmps62
  go_wp2
  go_ret
  exact ⟨rfl, rfl⟩
set_option maxRecDepth 100000 in
set_option maxHeartbeats 2000000 in
theorem digits_nat : ∀ (m u : Nat), u < m → u ≤ 9223372036854775807 → ∀ w, Calls Tryz.prog 31 #[.int .i64 (u : Int)] w fun e w' => e = .returned (.string ⟨(Lib.decDigits u).toArray⟩) ∧ Below w.heap.size w w' := by
  intro m
  induction m with
  | zero => intro u hu; omega
  | succ m ih =>
    intro u hu h2 w
    by_cases h : u < 10
    · have hcv := conv_digit w u h
      have hd : (u : Int) < 10 := by omega
      have HB := Lib.hid ((Below.refl w.heap.size w).alloc (Nat.le_refl _) (.cells #[.int .u8 (48 + (u : Int))] 5))
      clear ih hu h2
      go_enter Tryz.func31, Tryz.ntmps31
      go_wp2_with fail
      go_ret
      exact ⟨rfl, HB.out⟩
    · have hd : ¬ (u : Int) < 10 := by omega
      obtain ⟨q, hq⟩ : ∃ q, q = u / 10 := ⟨_, rfl⟩
      obtain ⟨r, hr⟩ : ∃ r, r = u % 10 := ⟨_, rfl⟩
      have hq2 : (u : Int) / 10 = (q : Int) := by omega
      have hr2 : (u : Int) % 10 = (r : Int) := by omega
      have h10 := dec_big h
      rw [← hq, ← hr, ← dec_small (by omega : r < 10)] at h10
      rw [h10]
      have HQ := Lib.hid (ih q (by omega) (by omega))
      have HR := Lib.hid (ih r (by omega) (by omega))
      have hlx := dec_len 19 q (by decide) (by omega)
      have hly := dec_len 19 r (by decide) (by omega)
      generalize Lib.decDigits q = x at *
      generalize Lib.decDigits r = y at *
      have hcat : ¬ 9223372036854775807 < x.length + y.length := by omega
      clear ih hu h10 hq hr hlx hly
      go_enter Tryz.func31, Tryz.ntmps31
      go_wp2_with fail
      refine (HQ.out w).mono ?_
      rintro e w1 ⟨rfl, hb1⟩
      have HB1 := Lib.hid hb1
      clear hb1
      go_wp2_with fail
      refine (HR.out w1).mono ?_
      rintro e w2 ⟨rfl, hb2⟩
      have HB2 := Lib.hid (HB1.out.trans (hb2.mono HB1.out.size))
      clear hb2
      go_wp2_with fail
      go_ret
      exact ⟨by rw [str_app]; rfl, HB2.out⟩
set_option maxRecDepth 100000 in
set_option maxHeartbeats 2000000 in
theorem digits_any (w : World) (n : Int) (h : -9223372036854775808 < n) (h2 : n ≤ 9223372036854775807) : Calls Tryz.prog 31 #[.int .i64 n] w fun e w' => e = .returned (.string ⟨(Lib.itoa n).toArray⟩) ∧ Below w.heap.size w w' := by
  by_cases h0 : n < 0
  · obtain ⟨u, hu⟩ : ∃ u : Nat, -n = u := ⟨(-n).toNat, by omega⟩
    have HD := Lib.hid (digits_nat (u + 1) u (by omega) (by omega))
    have HN := Lib.hid (neg_any w n h h0)
    rw [show Lib.itoa n = 45 :: Lib.decDigits u from by unfold Lib.itoa; rw [if_pos h0]; congr 2; omega]
    rw [hu] at HN
    have hlx := dec_len 19 u (by decide) (by omega)
    generalize Lib.decDigits u = x at *
    have hcat : ¬ 9223372036854775807 < 1 + x.length := by omega
    clear hlx
    clear hu
    go_enter Tryz.func31, Tryz.ntmps31
    go_wp2_with fail
    refine HN.out.mono ?_
    rintro e w1 ⟨rfl, rfl⟩
    go_wp2_with fail
    refine (HD.out w1).mono ?_
    rintro e w2 ⟨rfl, hb2⟩
    have HB2 := Lib.hid hb2
    clear hb2
    go_wp2_with fail
    go_ret
    exact ⟨by rw [show (⟨#[45]⟩ : ByteArray) = ⟨[45].toArray⟩ from rfl, str_app]; rfl, HB2.out⟩
  · obtain ⟨u, rfl⟩ : ∃ u : Nat, n = u := ⟨n.toNat, by omega⟩
    rw [show Lib.itoa (u : Int) = Lib.decDigits u from by unfold Lib.itoa; rw [if_neg h0]; rfl]
    exact digits_nat (u + 1) u (by omega) (by omega) w
/-- jad's number. -/
def numOk (s : List UInt8) (most : Int) : Bool := atoiOk s && (decide (0 ≤ atoiV s) && (decide (atoiV s ≤ most) && decide (Lib.itoa (atoiV s) = s)))
set_option maxRecDepth 100000 in
set_option maxHeartbeats 2000000 in
theorem number_any (w : World) (s : List UInt8) (most : Int) (hs : s.length ≤ 4294967000) (hm : most ≤ 1000000) (hv : VW w) : Calls Tryz.prog 33 #[.string ⟨s.toArray⟩, .int .i64 most] w fun e w' => e = .returned (.tuple #[.int .i64 (atoiV s), .bool (numOk s most)]) ∧ Below w.heap.size w w' := by
  obtain ⟨r, hr⟩ : ∃ r, r = numOk s most := ⟨_, rfl⟩
  rw [← hr]
  unfold numOk at hr
  have HA := Lib.hid (Atoi_any w s (by omega) hv)
  have HI := Lib.hid (fun (n : Int) (h0 : 0 ≤ n) (h1 : n ≤ most) (w1 : World) (hb : Below w.heap.size w w1) => Itoa_any w1 n (by omega) (by omega) (hv.below hb))
  generalize atoiV s = v at *
  generalize atoiOk s = ok at *
  have HR := Lib.hid hr
  clear hr hs hv hm
  go_enter Tryz.func33, Tryz.ntmps33
  go_wp2_with fail
  refine HA.out.mono ?_
  rintro e w1 ⟨⟨er, he, rfl⟩, hb1⟩
  have HB1 := Lib.hid hb1
  clear hb1 HA
  cases ok
  · obtain ⟨t, N, rfl⟩ : ∃ t N, er = .iface t (.pointer (some ⟨N, 0, none⟩)) := he
    have HQ := Lib.hid (show r = false from by rw [HR.out]; rfl)
    clear HR
    go_wp2_with fail
    go_ret2
    exact ⟨by rw [HQ.out]; rfl, HB1.out⟩
  · obtain rfl : er = .nilIface := he
    by_cases h0 : 0 ≤ v
    · by_cases h1 : v ≤ most
      · have HQ := Lib.hid (show r = decide (Lib.itoa v = s) from by rw [HR.out]; simp [h0, h1])
        have HI2 := Lib.hid (HI.out v h0 h1 w1 HB1.out)
        clear HR HI
        go_wp2_with fail
        refine HI2.out.mono ?_
        rintro e w2 ⟨rfl, hb2⟩
        have HB2 := Lib.hid (HB1.out.trans (hb2.mono HB1.out.size))
        clear hb2
        go_wp2_with fail
        go_ret2
        refine ⟨?_, HB2.out⟩
        rw [HQ.out]
        simp
        rw [Bool.eq_iff_iff]
        simp
      · have HQ := Lib.hid (show r = false from by rw [HR.out]; simp [h1])
        clear HR HI
        go_wp2_with fail
        go_ret2
        exact ⟨by rw [HQ.out]; rfl, HB1.out⟩
    · have HQ := Lib.hid (show r = false from by rw [HR.out]; simp [h0])
      clear HR HI
      go_wp2_with fail
      go_ret2
      exact ⟨by rw [HQ.out]; rfl, HB1.out⟩
/-- The document's number. -/
def numGo : Nat → List UInt8 → Option Nat
  | n, [] => some n
  | n, c :: s => if c.toNat < 48 ∨ 57 < c.toNat then none else if 65536 < n * 10 + (c.toNat - 48) then none else numGo (n * 10 + (c.toNat - 48)) s
def numR (s : List UInt8) : Int := match numGo 0 s with
  | none => -1
  | some n => if s.length = 0 ∨ (1 < s.length ∧ s.head? = some 48) then -1 else n
set_option maxRecDepth 100000 in
set_option maxHeartbeats 4000000 in
theorem refNumber_any (w : World) (s : List UInt8) (hn : s.length ≤ 4294967000) : Calls Tryz.prog 34 #[.string ⟨s.toArray⟩] w fun e w' => e = .returned (.int .i64 (numR s)) ∧ w' = w := by
  obtain ⟨n, hN⟩ : ∃ n, n = s.length := ⟨_, rfl⟩
  have HLn := Lib.hid hN
  obtain ⟨r, hr⟩ : ∃ r, r = numR s := ⟨_, rfl⟩
  rw [← hr]
  have HR := Lib.hid hr
  have hsz : (⟨s.toArray⟩ : ByteArray).size = n := by rw [hN]; simp [ByteArray.size]
  rw [← hN] at hn
  clear hr hN
  go_enter Tryz.func34, Tryz.ntmps34
  go_wp2_with fail
  go_loopg [3, 4] n (fun gn vi i wr => ∃ j v : Nat, j ≤ n ∧ gn = n - j ∧ vi = .int .i64 v ∧ v ≤ 65536 ∧ i = .int .i64 j ∧ Hid (numGo 0 s = numGo v (s.drop j)) ∧ wr = w)
  case atStart => exact ⟨0, 0, by omega, by omega, by go_num, by omega, by go_num, Lib.hid rfl, rfl⟩
  case round =>
    obtain ⟨j, v, hj, rfl, rfl, hv, rfl, HG, rfl⟩ := hrel
    by_cases hlt : j < n
    · have j1 : (j : Int) < n := by omega
      go_upto_region 5 with fail
      have hjs : j < s.length := by rw [← HLn.out]; exact hlt
      obtain ⟨c, hc0⟩ : ∃ c, (({ data := s.toArray } : ByteArray)[j]'(by rw [hsz]; exact hlt)).toNat = c := ⟨_, rfl⟩
      have hc1 : (s[j]'hjs).toNat = c := hc0
      have hcl : numGo 0 s = if c < 48 ∨ 57 < c then none else if 65536 < v * 10 + (c - 48) then none else numGo (v * 10 + (c - 48)) (s.drop (j + 1)) := by
        rw [HG.out, List.drop_eq_getElem_cons hjs, numGo, hc1]
      have HX := Lib.hid hcl
      have HF := Lib.hid (show numGo 0 s = none → r = -1 from fun h => by rw [HR.out, numR, h])
      have hc2 : c < 256 := by rw [← hc1]; exact (s[j]'hjs).toNat_lt
      clear hc1 hjs hcl
      by_cases h1 : c < 48
      · have HM := Lib.hid (HF.out (by rw [HX.out, if_pos (Or.inl h1)]))
        have c1 : (c : Int) < 48 := by omega
        go_wp2_with fail
        go_ret
        exact ⟨ret_int HM.out.symm, rfl⟩
      · by_cases h2 : 57 < c
        · have HM := Lib.hid (HF.out (by rw [HX.out, if_pos (Or.inr h2)]))
          have c1 : ¬ (c : Int) < 48 := by omega
          have c2 : (57 : Int) < c := by omega
          go_wp2_with fail
          go_ret
          exact ⟨ret_int HM.out.symm, rfl⟩
        · obtain ⟨d, hd⟩ : ∃ d, d = c - 48 := ⟨_, rfl⟩
          obtain ⟨v2, hv2⟩ : ∃ v2, v2 = v * 10 + d := ⟨_, rfl⟩
          have c1 : ¬ (c : Int) < 48 := by omega
          have c2 : ¬ (57 : Int) < c := by omega
          have e1 : (c : Int) - 48 = (d : Int) := by omega
          have e2 : (v : Int) * 10 + (d : Int) = (v2 : Int) := by omega
          have hd9 : d ≤ 9 := by omega
          by_cases h3 : 65536 < v2
          · have HM := Lib.hid (HF.out (by rw [HX.out, if_neg (by omega), ← hd, ← hv2, if_pos h3]))
            have c3 : (65536 : Int) < v2 := by omega
            clear hd hv2
            go_wp2_with fail
            go_ret
            exact ⟨ret_int HM.out.symm, rfl⟩
          · have HM := Lib.hid (show numGo 0 s = numGo v2 (s.drop (j + 1)) from by rw [HX.out, if_neg (by omega), ← hd, ← hv2, if_neg h3])
            have c3 : ¬ (65536 : Int) < v2 := by omega
            clear hd hv2
            go_wp2_with fail
            go_roundg (n - (j + 1))
            case measure => omega
            case rel => exact ⟨j + 1, v2, by omega, rfl, by go_num, by omega, by go_num, HM, rfl⟩
    · obtain rfl : j = n := by omega
      have HQ := Lib.hid (show r = if j = 0 ∨ (1 < j ∧ s.head? = some 48) then -1 else (v : Int) from by
        rw [HR.out, numR, HG.out, List.drop_eq_nil_of_le (by rw [← HLn.out]; exact Nat.le_refl _), numGo, ← HLn.out])
      by_cases h0 : j = 0
      · have HQ2 := Lib.hid (show r = -1 by rw [HQ.out, if_pos (Or.inl h0)])
        subst h0
        go_wp2_with fail
        go_ret
        exact ⟨ret_int HQ2.out.symm, rfl⟩
      · by_cases h1 : 1 < j
        · have hjs : 0 < s.length := by rw [← HLn.out]; omega
          obtain ⟨c, hc0⟩ : ∃ c, (({ data := s.toArray } : ByteArray)[0]'(by rw [hsz]; omega)).toNat = c := ⟨_, rfl⟩
          have hc1 : (s[0]'hjs).toNat = c := hc0
          have hhd : s.head? = some (s[0]'hjs) := by cases s with | nil => simp at hjs | cons a l => rfl
          have hq : (s.head? = some 48) ↔ c = 48 := by
            rw [hhd, Option.some.injEq, ← hc1]
            exact ⟨fun h => by rw [h]; rfl, fun h => UInt8.toNat_inj.1 h⟩
          have HH := Lib.hid hq
          clear hc1 hhd hq hjs
          have z1 : ((j : Int) == 0) = false := by simp; omega
          have z2 : (1 : Int) < j := by omega
          by_cases h4 : c = 48
          · have HQ2 := Lib.hid (show r = -1 by rw [HQ.out, if_pos (Or.inr ⟨h1, HH.out.2 h4⟩)])
            have z3 : ((c : Int) == 48) = true := by simp; omega
            go_wp2_with fail
            go_ret
            exact ⟨ret_int HQ2.out.symm, rfl⟩
          · have HQ2 := Lib.hid (show r = v by rw [HQ.out, if_neg (fun h => by rcases h with h | h; exact h0 h; exact h4 (HH.out.1 h.2))])
            have z3 : ((c : Int) == 48) = false := by simp; omega
            go_wp2_with fail
            go_ret
            exact ⟨ret_int HQ2.out.symm, rfl⟩
        · have HQ2 := Lib.hid (show r = v by rw [HQ.out, if_neg (fun h => by rcases h with h | h; exact h0 h; exact h1 h.1)])
          have z1 : ((j : Int) == 0) = false := by simp; omega
          have z2 : ¬ (1 : Int) < j := by omega
          go_wp2_with fail
          go_ret
          exact ⟨ret_int HQ2.out.symm, rfl⟩
end Go.Proofs.YtlpjcfiibbcdjaaGreatDoor
