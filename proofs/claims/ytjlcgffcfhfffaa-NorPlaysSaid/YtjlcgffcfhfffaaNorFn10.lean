/- nor: the reference's Program. No condition. -/
import Derived.Test.YtjlcgffcfhfffaaNorFn9
namespace Go.Proofs.Ytjlcgffcfhfffaa
open Go.ChangeShapes Go.WideShapes Go.ChangeAt Go.RowKit
theorem IsFl.laid' {tF eb ec : TypeId} {w w2 : World} {g gb gc cb cc p : Nat} {f : Fl} (h : IsFl tF eb ec w g gb gc cb cc f) {cur : Array Value} (hg : w.heap[gb]? = some (.cells cur eb)) (c : List UInt8) (hp : p + c.length ≤ f.bs.length)
    (hg2 : w2.heap[gb]? = some (.cells (splice cur.toList p (c.map encB)).toArray eb)) (ho : OnlyAt gb w w2) (bs' : List UInt8) (hb : bs' = Fl.lay f.bs p c) : IsFl tF eb ec w2 g gb gc cb cc { f with bs := bs' } := by
  subst hb; exact h.laid hg c hp hg2 ho
/-- What a copy of b's first q bytes is told. -/
theorem copy_src {w : World} {gb o p n q : Nat} {a : Option Addr} {bs : List UInt8} (hs : Sl encB w a n bs) (hop : 0 < n → o = p) (hq : q ≤ n) :
    0 < ((bs.take q).map encB).length → (some (⟨gb, o, none⟩ : Addr)) = some ⟨gb, p, none⟩ ∧ ∃ ad, a = some ad ∧ ∀ j v, ((bs.take q).map encB)[j]? = some v → w.cell? (ad.add j) = some v := by
  intro h0
  have hbl := hs.1
  have htl : (bs.take q).length = q := by simp; omega
  have hq1 : 0 < q := by rw [List.length_map, htl] at h0; exact h0
  obtain ⟨bx, ox, rfl, hbx, hcx⟩ := (hs.take hq).2 hq1
  refine ⟨by rw [hop (by omega)], _, rfl, fun j v hv => ?_⟩
  rw [List.getElem?_map] at hv
  have hj : j < (bs.take q).length := by
    rcases Nat.lt_or_ge j (bs.take q).length with h | h
    · exact h
    · rw [List.getElem?_eq_none h] at hv; cases hv
  rw [List.getElem?_eq_getElem hj] at hv
  cases hv
  have hadd : (⟨bx, ox, none⟩ : Addr).add j = ⟨bx, ox + j, none⟩ := by unfold Addr.add; split <;> simp_all
  rw [hadd]
  exact hcx j hj
set_option maxRecDepth 100000 in
set_option maxHeartbeats 8000000 in
theorem refProgram_any (w : World) (g gb gc cb cc : Nat) (f : Fl) (hf : FlB w g gb gc cb cc f) (p : Int) (a : Option Addr) (n cap : Nat) (bs : List UInt8) (hs : Sl encB w a n bs) (hcap : n ≤ cap) (hp : IntR p) (hn : n ≤ maxLen)
    (h1 : NotIn a n g) (h2 : NotIn a n gb) (h3 : NotIn a n gc) :
    Calls Try.prog 28 #[.pointer (some ⟨g, 0, none⟩), .int .i64 p, .slice a n cap] w (Turned 53 w g gb gc cb cc (f.prog p bs) (.returned (.int .i64 (f.progE p bs)))) := by
  have hbl := hs.1
  unfold maxLen at hn
  obtain ⟨c0, c1, c2, c3, c4, c5, c6, c7, c8⟩ := hf.cells
  have hT := refThere_any w g gb gc cb cc f hf p n hp (by unfold IntR; omega)
  have hlen := hf.len
  by_cases h : f.readE p n = 0
  case neg =>
    obtain ⟨e1, e2⟩ := prog_no (f := f) (p := p) (b := bs) (by rw [hbl]; exact h)
    rw [e1, e2, hbl]
    have HF := Lib.hid hf
    cases hd : f.down with
    | true =>
      rw [hd] at c5
      rw [Fl.read_down hd]
      clear e1 e2 h hs hf hbl hT
      go_enter Try.func28, Try.ntmps28
      go_wp2_with fail
      go_ret
      exact ⟨rfl, HF.out, Kept.refl _ _ _ _⟩
    | false =>
      rw [hd] at c5
      have ht : ¬ f.there p n := by
        intro a; apply h; unfold Fl.readE; rw [hd]; simp [a]
      have e3 : f.readE p n = 2 := by unfold Fl.readE; rw [hd]; simp [ht]
      rw [e3]
      unfold Fl.there at ht
      rw [hlen] at ht
      rw [show decide (0 ≤ p ∧ (0 : Int) ≤ n ∧ p ≤ ((f.S * f.Z : Nat) : Int) ∧ (n : Int) ≤ ((f.S * f.Z : Nat) : Int) - p) = false from decide_eq_false ht] at hT
      have HT := Lib.hid hT
      clear e1 e2 h hs hf hbl hT ht e3
      go_enter Try.func28, Try.ntmps28
      go_wp2_with fail
      with_reducible refine HT.out.mono ?_
      rintro e w1 ⟨rfl, rfl⟩
      go_wp2_with fail
      go_ret
      exact ⟨rfl, HF.out, Kept.refl _ _ _ _⟩
  obtain ⟨hd, ht⟩ := readE_yes h
  have ht' := ht
  unfold Fl.there at ht'
  rw [show decide (0 ≤ p ∧ (0 : Int) ≤ n ∧ p ≤ ((f.S * f.Z : Nat) : Int) ∧ (n : Int) ≤ ((f.S * f.Z : Nat) : Int) - p) = true from decide_eq_true (by rw [hlen] at ht'; exact ht')] at hT
  obtain ⟨p, rfl⟩ : ∃ k : Nat, p = k := ⟨p.toNat, by omega⟩
  obtain ⟨q1, q2, q3⟩ := hf.caps
  have hpn : p + n ≤ f.bs.length := by omega
  rw [hd] at c5
  have HF := Lib.hid hf
  have HS := Lib.hid hs
  have HE := Lib.hid h
  have HBL := Lib.hid hbl
  have HPN := Lib.hid hpn
  have HLEN := Lib.hid hlen
  have hn4 : n ≤ 4194304 := by omega
  have HT := Lib.hid hT
  have hpN : p + n ≤ f.S * f.Z := by omega
  clear h hd ht ht' hf hs hbl hpn hT hlen
  obtain ⟨N, hN⟩ : ∃ N, f.S * f.Z = N := ⟨_, rfl⟩
  rw [hN] at c3 q1 q3 hpN HLEN
  have HN := Lib.hid hN
  clear hN
  go_enter Try.func28, Try.ntmps28
  go_wp2_with fail
  with_reducible refine HT.out.mono ?_
  rintro e w1 ⟨rfl, rfl⟩
  clear HT
  go_wp2_with fail
  go_loopg [22] n (fun gn i wr => wr = w ∧ ∃ k : Nat, k ≤ n ∧ gn = n - k ∧ i = .int .i64 k ∧ Hid (∀ j, j < k → (bs.getD j 0 &&& f.bs.getD (p + j) 0) = bs.getD j 0))
  case atStart => exact ⟨rfl, 0, by omega, by omega, by go_num, fun j hj => by omega⟩
  case round =>
    obtain ⟨rfl, k, hk, rfl, rfl, HT⟩ := hrel
    by_cases hlt : k < n
    · obtain ⟨bx, ox, rfl, hbx, hcx⟩ := HS.out.2 (by omega)
      have hkb : k < bs.length := by rw [HBL.out]; exact hlt
      have hkf : p + k < f.bs.length := by have := HPN.out; omega
      have cx : wr.cell? ⟨bx, ox + k, none⟩ = some (.int .u8 ((bs.getD k 0).toNat : Int)) := by rw [hcx k hkb]; simp [List.getD, hkb, encB]
      have cy := (HF.out.byte (p + k) hkf).1
      obtain ⟨v, hv⟩ : ∃ v, bits .and .u8 ((bs.getD k 0).toNat : Int) ((f.bs.getD (p + k) 0).toNat : Int) = v := ⟨_, rfl⟩
      have hv0 : v = ((bs.getD k 0).toNat : Int) ↔ (bs.getD k 0 &&& f.bs.getD (p + k) 0) = bs.getD k 0 := by
        rw [← hv, u8_and]
        constructor
        · intro h; apply UInt8.toNat_inj.1; omega
        · intro h; rw [h]
      have hux := u8_lt (bs.getD k 0)
      have huy := u8_lt (f.bs.getD (p + k) 0)
      generalize hx : ((bs.getD k 0).toNat : Int) = x at cx hv hux hv0
      generalize hy : ((f.bs.getD (p + k) 0).toNat : Int) = y at cy hv huy
      have HV0 := Lib.hid hv0
      clear hcx hv0 hkb hkf hx hy
      have w1 : IntKind.i64.wrap ((p : Int) + k) = (p : Int) + k := IntWalk.i64_in _ (by omega)
      have w2 : (0 : Int) ≤ (p : Int) + k := by omega
      have w3 : (p : Int) + k < N := by omega
      have w4 : ((p : Int) + k).toNat = p + k := by omega
      by_cases hz : v = x
      · have z1 : (v == x) = true := eqi_yes hz
        have z2 : (v != x) = false := by simp [hz]
        have HT2 := Lib.hid (show ∀ j, j < k + 1 → (bs.getD j 0 &&& f.bs.getD (p + j) 0) = bs.getD j 0 from fun j hj => by
          by_cases e : j = k
          · subst e; exact HV0.out.1 hz
          · exact HT.out j (by omega))
        clear hz
        go_wp2_with fail
        go_roundg (n - (k + 1))
        case measure => omega
        case rel => exact ⟨rfl, k + 1, by omega, rfl, by go_num, HT2⟩
      · have z1 : (v == x) = false := eqi_no hz
        have z2 : (v != x) = true := by simp [hz]
        have hnf : f.fits p bs = false := by
          rw [Bool.eq_false_iff]
          intro h
          exact hz (HV0.out.2 (fits_iff.1 h k (by rw [HBL.out]; exact hlt)))
        obtain ⟨e1, e2⟩ := prog_unfit (f := f) (p := (p : Int)) (b := bs) (by rw [HBL.out]; exact HE.out) (by simpa using hnf)
        have HE1 := Lib.hid e1
        have HE2 := Lib.hid e2
        clear hz hnf e1 e2
        go_wp2_with fail
        go_ret
        exact ⟨by rw [HE1.out]; rfl, by rw [HE2.out]; exact HF.out, Kept.refl _ _ _ _⟩
    · obtain rfl : k = n := by omega
      have hft : f.fits p bs = true := fits_iff.2 fun j hj => HT.out j (by have := HBL.out; omega)
      obtain ⟨hd, ht⟩ := readE_yes HE.out
      rw [← HBL.out] at ht
      have hT := Lib.hid (refWhole_any wr g gb gc cb cc f HF.out)
      clear c0 c1 c2 c3 c4 c5 c6 c7 c8
      cases hw : f.whole with
      | true =>
        have hw0 : f.left ≠ 0 := by intro e; unfold Fl.whole at hw; rw [e] at hw; cases hw
        obtain ⟨e1, e2⟩ := Fl.prog_whole (f := f) (p := (p : Int)) (b := bs) hd ht (by simpa using hft) hw0
        have HE1 := Lib.hid e1
        have HE2 := Lib.hid e2
        rw [hw] at hT
        clear hft hd ht hw hw0 e1 e2 HT
        go_wp2_with fail
        with_reducible refine hT.out.mono ?_
        rintro e W1 ⟨rfl, hF1, hK1⟩
        have S1 := Lib.hid (HS.out.kept hK1 h1 h2 h3)
        have HF1 := Lib.hid hF1
        have HK1 := Lib.hid hK1
        obtain ⟨cur, hg, r1, r2, r3, r4, r5⟩ := hF1.rb
        obtain ⟨t1, t2, t3, t4, t5, t6, t7⟩ := f.tick_fields
        obtain ⟨c0, c1, c2, c3, c4, c5, c6, c7, c8⟩ := hF1.cells
        rw [t1, t2, HN.out] at c3
        have HG := Lib.hid (show W1.heap[gb]? = some (.cells cur.toList.toArray 5) by simpa using hg)
        have HGC := Lib.hid hg
        have HSR := Lib.hid (fun o ho => copy_src (gb := gb) (o := o) (p := p) S1.out ho (Nat.le_refl k))
        rw [show bs.take k = bs by rw [← HBL.out, List.take_length]] at HSR
        have HNN := Lib.hid (show (bs.map encB).length = Nat.min k (N - p) by rw [List.length_map, HBL.out]; exact (Nat.min_eq_left (by omega)).symm)
        have HFF := Lib.hid (show p + (bs.map encB).length ≤ cur.toList.length by rw [List.length_map, HBL.out]; simp; omega)
        have HT4 := Lib.hid t4
        clear hF1 hK1 hg r1 r2 r3 r4 r5 t1 t2 t3 t4 t5 t6 t7 c0 c1 c2 c4 c5 c6 c7 c8 hT
        have g1 : (0 : Int) ≤ p := by omega
        have g2 : (p : Int) ≤ N := by omega
        have g3 : (p : Int) ≤ cb := by omega
        by_cases hcp : cb = p
        · have ho := Lib.hid (show 0 < k → 0 = p by omega)
          go_wp2_with ((with_reducible refine wpList_copy_at rfl _ _ _ _ rfl 5 Try.underlying22 (by kernel_rfl) _ _ _ _ k cap rfl rfl gb p cur.toList 5 HG.out (bs.map encB) HNN.out (HSR.out 0 ho.out) HFF.out (encB_one bs) ?_); intro w2 hg2 ho2; have HG2 := Lib.hid hg2.out; have HO2 := Lib.hid ho2; clear hg2 ho2)
          go_ret
          refine ⟨by rw [HE1.out]; rfl, ?_, HO2.out.kept HK1.out (.inr (.inl rfl))⟩
          rw [HE2.out]
          exact HF1.out.laid' HGC.out bs (by rw [HT4.out, HBL.out]; exact HPN.out) HG2.out HO2.out _ (by rw [HT4.out]; rfl)
        · go_wp2_with ((with_reducible refine wpList_copy_at rfl _ _ _ _ rfl 5 Try.underlying22 (by kernel_rfl) _ _ _ _ k cap rfl rfl gb p cur.toList 5 HG.out (bs.map encB) HNN.out (HSR.out p (fun _ => rfl)) HFF.out (encB_one bs) ?_); intro w2 hg2 ho2; have HG2 := Lib.hid hg2.out; have HO2 := Lib.hid ho2; clear hg2 ho2)
          go_ret
          refine ⟨by rw [HE1.out]; rfl, ?_, HO2.out.kept HK1.out (.inr (.inl rfl))⟩
          rw [HE2.out]
          exact HF1.out.laid' HGC.out bs (by rw [HT4.out, HBL.out]; exact HPN.out) HG2.out HO2.out _ (by rw [HT4.out]; rfl)
      | false =>
        have hw0 : f.left = 0 := by unfold Fl.whole at hw; simpa using hw
        obtain ⟨e1, e2⟩ := Fl.prog_torn (f := f) (p := (p : Int)) (b := bs) hd ht (by simpa using hft) hw0
        have HE1 := Lib.hid e1
        have HE2 := Lib.hid e2
        have HL0 := Lib.hid hw0
        have hTk : f.tick = { f with down := true } := by unfold Fl.tick; rw [if_pos hw0]
        rw [hw, hTk] at hT
        have hpl := f.part_le k
        have k1 := HF.out.ok.k1
        have k2 := HF.out.ok.k2
        obtain ⟨mx, hmx, hmx2, hmx0, hmx1⟩ : ∃ mx : Int, (if f.keep < 0 then 0 else f.keep) = mx ∧ mx = max f.keep 0 ∧ 0 ≤ mx ∧ mx ≤ 9223372036854775807 := ⟨_, rfl, by split <;> omega, by split <;> omega, by split <;> omega⟩
        obtain ⟨q, hq, hq2⟩ : ∃ q : Nat, mx % ((k : Int) + 1) = q ∧ f.part k = q := ⟨f.part k, by rw [hmx2, ← part_int, Int.tmod_eq_emod_of_nonneg (by omega)], rfl⟩
        rw [hq2] at hpl
        have HQ := Lib.hid hq2
        have HMX := Lib.hid (And.intro hmx hq)
        clear hft hd ht hw hw0 e1 e2 HT hTk hmx hmx2 hq hq2
        go_wp2_with fail
        with_reducible refine hT.out.mono ?_
        rintro e W1 ⟨rfl, hF1, hK1⟩
        have S1 := Lib.hid (HS.out.kept hK1 h1 h2 h3)
        have HF1 := Lib.hid hF1
        have HK1 := Lib.hid hK1
        obtain ⟨c0, c1, c2, c3, c4, c5, c6, c7, c8⟩ := hF1.cells
        have c3' : W1.cell? ⟨g, 3, none⟩ = some (.slice (some ⟨gb, 0, none⟩) N cb) := by rw [← HN.out]; exact c3
        replace c7 : W1.cell? ⟨g, 7, none⟩ = some (.int .i64 f.keep) := c7
        obtain ⟨hmx, hq⟩ := HMX.out
        clear hF1 hK1 hT c0 c1 c2 c3 c4 c5 c6 c8
        have g1 : (0 : Int) ≤ p := by omega
        have g2 : (p : Int) ≤ N := by omega
        have g3 : (p : Int) ≤ cb := by omega
        have hqc : (q : Int) ≤ cap := by omega
        have hq0 : (0 : Int) ≤ q := by omega
        have hqk1 : (q : Int) ≤ k := by omega
        obtain ⟨cur, hg, r1, r2, r3, r4, r5⟩ := HF1.out.rb
        have hfn : p + q ≤ f.bs.length := by have := HPN.out; omega
        have htl : (bs.take q).length = q := by have := HBL.out; simp; omega
        have hcl2 : p + q ≤ cur.toList.length := by simp; omega
        have HG := Lib.hid (show W1.drew.heap[gb]? = some (.cells cur.toList.toArray 5) from (show W1.heap[gb]? = some (.cells cur.toList.toArray 5) by simpa using hg))
        have HGC := Lib.hid (show W1.drew.heap[gb]? = some (.cells cur 5) from hg)
        have HSR := Lib.hid (fun o ho => copy_src (w := W1.drew) (gb := gb) (o := o) (p := p) (S1.out.below (Below.refl _ _).drew) ho hpl)
        have HNN := Lib.hid (show ((bs.take q).map encB).length = Nat.min q (N - p) by rw [List.length_map, htl]; exact (Nat.min_eq_left (by omega)).symm)
        have HFF := Lib.hid (show p + ((bs.take q).map encB).length ≤ cur.toList.length by rw [List.length_map, htl]; exact hcl2)
        have HTL := Lib.hid htl
        have HFN := Lib.hid hfn
        have ho0 := Lib.hid (show cb = p → 0 < k → 0 = p by omega)
        have HF1D := Lib.hid HF1.out.drew
        have HK1D := Lib.hid HK1.out.drew
        clear hg r1 r2 r3 r4 r5 htl hcl2 hfn
        go_upto_region 15 with fail
        rcases Decidable.em (cb = p) with hcp | hcp
        all_goals
          go_still_tail 9, (by kernel_rfl)
          change wpList _ _ _ _ _ W1.drew
          generalize W1.drew = W2 at HG HGC HSR HF1D HK1D ⊢
          first
            | (with_reducible refine wpList_copy_at rfl _ _ _ _ rfl 5 Try.underlying22 (by kernel_rfl) _ _ _ _ q cap rfl rfl gb p cur.toList 5 HG.out ((bs.take q).map encB) HNN.out (HSR.out 0 (ho0.out hcp)) HFF.out (encB_one _) ?_)
            | (with_reducible refine wpList_copy_at rfl _ _ _ _ rfl 5 Try.underlying22 (by kernel_rfl) _ _ _ _ q cap rfl rfl gb p cur.toList 5 HG.out ((bs.take q).map encB) HNN.out (HSR.out p (fun _ => rfl)) HFF.out (encB_one _) ?_)
          intro w' hg2 ho2
          replace hcp := Lib.hid hcp
          have HF2 := Lib.hid (HF1D.out.laid HGC.out (bs.take q) (by rw [HTL.out]; exact HFN.out) hg2.out ho2)
          have HK2 := Lib.hid (ho2.kept HK1D.out (.inr (.inl rfl)))
          clear hg2 ho2 HG HGC HSR HF1D HK1D c7 c3'
          by_cases hqk : q < k
          · have S2 := HS.out.kept HK2.out h1 h2 h3
            obtain ⟨bx, ox, rfl, hbx, hcx⟩ := S2.2 (by omega)
            have hqb : q < bs.length := by rw [HBL.out]; exact hqk
            have hc1 := hcx q hqb
            have hy0 : bs.getD q 0 = bs[q] := by simp [List.getD, hqb]
            rw [← hy0] at hc1
            unfold encB at hc1
            obtain ⟨hm4, hm5⟩ := HF2.out.byte (p + q) (by show p + q < (Fl.lay f.bs p (bs.take q)).length; rw [Fl.lay_length _ _ _ (by rw [HTL.out]; exact HFN.out)]; have := HPN.out; omega)
            obtain ⟨c0, c1, c2, c3, c4, c5, c6, c7, c8⟩ := HF2.out.cells
            replace c3 : w'.cell? ⟨g, 3, none⟩ = some (.slice (some ⟨gb, 0, none⟩) N cb) := by rw [← HN.out]; exact c3
            replace c8 : w'.cell? ⟨g, 8, none⟩ = some (.int .u8 (f.mask.toNat : Int)) := c8
            clear c0 c1 c2 c4 c5 c6 c7 hcx hy0 hqb hbx S2
            obtain ⟨x, hx⟩ : ∃ x, (Fl.lay f.bs p (bs.take q)).getD (p + q) 0 = x := ⟨_, rfl⟩
            replace hm4 : w'.cell? ⟨gb, p + q, none⟩ = some (.int .u8 (x.toNat : Int)) := by rw [← hx]; exact hm4
            obtain ⟨y, hy⟩ : ∃ y, bs.getD q 0 = y := ⟨_, rfl⟩
            rw [hy] at hc1
            have HXX := Lib.hid (And.intro hx hy)
            have hmb := u8_lt f.mask
            have hb := u8_and x (y ||| (255 - f.mask))
            rw [← u8_or, show ((255 - f.mask).toNat : Int) = 255 - (f.mask.toNat : Int) by rw [u8_not]; rw [UInt8.toNat_not]; have := f.mask.toNat_lt; show ((256 - 1 - f.mask.toNat : Nat) : Int) = _; omega] at hb
            have HF3 := Lib.hid (HF2.out.drew.setByte (p + q) (x &&& (y ||| (255 - f.mask))))
            have HK3 := Lib.hid (HK2.out.drew.set (o := p + q) (.inr (.inl rfl)) (encB (x &&& (y ||| (255 - f.mask)))))
            unfold encB at HF3 HK3
            rw [← hb] at HF3 HK3
            have w1 : IntKind.i64.wrap ((p : Int) + q) = (p : Int) + q := IntWalk.i64_in _ (by omega)
            have w2 : (0 : Int) ≤ (p : Int) + q := by omega
            have w3 : (p : Int) + q < N := by omega
            have w4 : ((p : Int) + q).toNat = p + q := by omega
            have w5 : (q : Int) < k := by omega
            have hm0 : (0 : Int) ≤ f.mask.toNat := by omega
            clear hb hx hy
            go_upto_region 17 with fail
            go_still_tail 29, (by kernel_rfl)
            go_wp2_with fail
            go_ret
            refine ⟨by rw [HE1.out]; rfl, ?_, HK3.out⟩
            rw [HE2.out]
            have hB : f.progB ((p : Int)).toNat bs = (Fl.lay f.bs p (bs.take q)).set (p + q) (x &&& (y ||| (255 - f.mask))) := by
              unfold Fl.progB
              have hw : f.whole = false := by unfold Fl.whole; simp [HL0.out]
              rw [hw, HBL.out, HQ.out]
              simp only [Bool.false_eq_true, if_false, Int.toNat_natCast]
              rw [if_pos hqk, HXX.out.1, HXX.out.2]
            rw [hB]
            exact HF3.out
          · go_wp2_with fail
            go_ret
            refine ⟨by rw [HE1.out]; rfl, ?_, HK2.out⟩
            rw [HE2.out]
            have hB : f.progB ((p : Int)).toNat bs = Fl.lay f.bs p (bs.take q) := by
              unfold Fl.progB
              have hw : f.whole = false := by unfold Fl.whole; simp [HL0.out]
              rw [hw, HBL.out, HQ.out]
              simp only [Bool.false_eq_true, if_false, Int.toNat_natCast]
              rw [if_neg (by omega)]
            rw [hB]
            exact HF2.out
end Go.Proofs.Ytjlcgffcfhfffaa
