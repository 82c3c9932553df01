/- scan: the walk of ScanWhole. No condition. -/
import Derived.Test.YtechkdnoekffmaaScanKeep
namespace Go.Proofs.Ytechkdnoekffmaa
open Go.ChangeShapes Go.WideShapes Go.ChangeAt Go.RowKit
/-- What lies there behind j records. -/
structure LaidS (w : World) (j : Nat) (vb vw : Value) (R : List RV) (G : List FV) (wr : World) : Prop where
  len : R.length = j
  ok : ∀ r ∈ R, r.ok ∧ r.len ≤ 300
  row : wr.ownsRow w.heap.size 5 1 vb (total R) ((R.flatMap RV.bytes).map encB)
  found : Founds wr w.heap.size vw j G
  low : LowBlobs w.heap.size G
  tells : Tells 12 R G
  below : Below w.heap.size w wr
theorem total_small {R : List RV} (h : ∀ r ∈ R, r.ok ∧ r.len ≤ 300) : total R ≤ 300 * R.length := by
  induction R with
  | nil => simp [total]
  | cons r R ih =>
    have h1 := (h r (by simp)).2
    have h2 := ih (fun x hx => h x (by simp [hx]))
    simp [total]; omega
set_option maxRecDepth 100000 in
set_option maxHeartbeats 8000000 in
theorem walk0_ScanWhole (w : World) (a : Option Addr) (n cap : Nat) (x : Int) (hr : IsRecs w a n cap) (hx : (Lit.int .u8 x).wf = true) :
    Calls Try.prog 3 #[.slice a n cap, .int .u8 x] w fun e w' => e = .returned (.bool true) ∧ Below w.heap.size w w' := by
  obtain ⟨hc, hm, hrec⟩ := hr
  unfold maxLen at hm
  have HR := Lib.hid hrec
  have HX := Lib.hid hx
  clear hrec hx
  go_enter Try.func3, Try.ntmps3
  go_wp2_with fail
  refine (fixed06 w).mono ?_
  rintro e w1 ⟨rfl, hb1⟩
  have H1 := Lib.hid hb1
  clear hb1
  by_cases h30 : 30 < n
  · have z : ((30 : Int) < n) := by omega
    go_wp2_with fail
    go_ret
    exact ⟨rfl, H1.out⟩
  · have z : ¬ ((30 : Int) < n) := by omega
    go_wp2_with fail
    go_loopg [5, 6, 20] n (fun gn vb vw i wr => ∃ (j : Nat) (R : List RV) (G : List FV), j ≤ n ∧ gn = n - j ∧ i = .int .i64 j ∧ Hid (LaidS w j vb vw R G wr))
    case atStart => exact ⟨0, [], [], by omega, by omega, by go_num, Lib.hid ⟨rfl, (fun r h => by cases h), World.ownsRow_nil _ _ _ _, Founds.nil _ _, (fun f h => by cases h), trivial, H1.out⟩⟩
    case round =>
      obtain ⟨j, R, G, hj, rfl, rfl, HL⟩ := hrel
      by_cases hlt : j < n
      · obtain ⟨b, off, rfl, hb, hrr⟩ := HR.out (by omega)
        obtain ⟨k, t, kb, y, m, cm, ds, c, hA⟩ := hrr j hlt
        have hA2 := hA.below HL.out.below
        obtain ⟨c0, c1, c2, c3, c4, kw, tw, cw, hsl, hmc⟩ := hA2
        have HSL := Lib.hid hsl
        have HK := Lib.hid kw
        have HT := Lib.hid tw
        have HCW := Lib.hid cw
        have HA := Lib.hid hA
        have htb : 0 ≤ t ∧ t < 4294967296 := by have h := bounds_u32 tw; omega
        obtain ⟨va, vc, rfl⟩ : ∃ a c, u5 = .slice a (total R) c := by
          rcases HL.out.row.2 with ⟨rfl, h0⟩ | ⟨g, cap, cur, rfl, _⟩
          · exact ⟨none, 0, by rw [h0]⟩
          · exact ⟨_, _, rfl⟩
        clear hrr hA hsl kw tw cw
        go_wp2_with fail
        refine (refRight5_all _ k t kb y m cm c (bounds_i64 HK.out) htb.1 (bounds_i64 HCW.out)).mono ?_
        rintro e w3 ⟨rfl, hb3⟩
        have K3 := Lib.hid (show Blk5 w3 wr.heap.size (.int .i64 k) (.int .u32 t) (.string ⟨kb.toArray⟩) (.slice y m cm) (.int .i64 c) 28 from Blk5.below (heap_alloc_last wr _) hb3)
        have HB3 := Lib.hid (((Below.refl wr.heap.size wr).alloc (Nat.le_refl _) (.cells #[.int .i64 k, .int .u32 t, .string ⟨kb.toArray⟩, .slice y m cm, .int .i64 c] 28)).trans (hb3.mono (by simp)))
        clear hb3
        obtain ⟨p0, p1, p2, p3, p4, f0, f1, f2, f3, f4, lt1⟩ := K3.out.box
        have HE3 := Lib.hid (HL.out.below.trans (HB3.out.mono HL.out.below.size))
        cases hro : recOk k t kb.length m c with
        | false =>
          go_wp2_with fail
          go_ret
          exact ⟨rfl, HE3.out⟩
        | true =>
          by_cases h200 : 200 < m
          · have z2 : (200 : Int) < m := by omega
            go_wp2_with fail
            go_ret
            exact ⟨rfl, HE3.out⟩
          · have z2 : ¬ (200 : Int) < m := by omega
            obtain ⟨u, t, c, rfl, rfl, rfl, ht1, hk64, hb4⟩ := recOk_nums hro htb.2
            have hml := HSL.out.1
            obtain ⟨p, hp⟩ : ∃ p, p = 12 + total R := ⟨_, rfl⟩
            have hts := total_small HL.out.ok
            rw [HL.out.len] at hts
            have e12 : (12 : Int) + (total R : Int) = (p : Int) := by omega
            have hpb : p ≤ 65536 := by omega
            have HP := Lib.hid hp
            have HLOW := Lib.hid (show 0 < m → ∃ b off, y = some ⟨b, off, none⟩ ∧ b < w.heap.size from fun h => by
              obtain ⟨b', off', ha', hlt', _⟩ := HA.out.sl.2 h
              exact ⟨b', off', ha', hlt'⟩)
            have HF3 := Lib.hid (HL.out.found.below HB3.out)
            have HS3 := Lib.hid (HSL.out.below HB3.out)
            have HW3 := Lib.hid (own_below HL.out.row HB3.out)
            have HTS := Lib.hid hts
            have HRO := Lib.hid hro
            have HML := Lib.hid hml
            have HT1 := Lib.hid ht1
            clear hp hts hro hml ht1 htb
            go_wp2_with (at_builtin; first
              | (refine wpList_found3 rfl _ _ rfl w.heap.size _ _ G rfl HF3.out ⟨p, u.toNat, t, kb, y, m, cm, c, ds⟩ 1 _ rfl rfl HS3.out hmc (fun h => by obtain ⟨b', off', ha', hlt'⟩ := HLOW.out h; exact ⟨b', off', ha', .inl hlt'⟩) (by omega) HE3.out.size ?_; intro v4 w4 hF4 hb4 hrow4 hblk4; have HF4 := Lib.hid hF4; have HB4 := Lib.hid hb4; have HW4 := Lib.hid (hrow4 _ _ _ HW3.out); have K4 := Lib.hid (show Blk5 w4 wr.heap.size _ _ _ _ _ 28 from hblk4 _ _ _ _ K3.out (by decide)); clear hF4 hb4 hrow4 hblk4; obtain ⟨q0, q1, q2, q3, q4, g0, g1, g2, g3, g4, lt4⟩ := K4.out.box))
            have hr0 := HRO.out
            refine (refBytes5_any w4 u t kb y m cm ds c (HA.out.sl.below (HE3.out.trans HB4.out)) hr0 HT1.out).mono ?_
            rintro e w5 ⟨a5, n5, c5, rfl, hs5, hc5, hb5⟩
            have hl5 := hs5.1
            rw [recB_length] at hl5
            have HS5 := Lib.hid hs5
            have HF5 := Lib.hid (HF4.out.below hb5)
            have HW5 := Lib.hid (own_below HW4.out hb5)
            have HE5 := Lib.hid ((HE3.out.trans HB4.out).trans (hb5.mono (HE3.out.trans HB4.out).size))
            have HLG := Lib.hid (LowBlobs.snoc HL.out.low (f := ⟨p, u.toNat, t, kb, y, m, cm, c, ds⟩) HLOW.out)
            have hn5 : n5 ≤ 65536 := by have := HML.out; omega
            have htp : total R ≤ 65536 := by have := HTS.out; omega
            have HL5 := Lib.hid hl5
            clear hs5 hb5 hl5
            go_wp2_with (at_builtin; first
              | (refine wpList_app_lit oneB rfl _ _ rfl w.heap.size _ _ _ rfl HW6.out _ 1 _ rfl rfl rfl (by omega) (by unfold maxLen; omega) HE6.out.size ?_; intro v7 w7 hown7 hg7 hb7; have HF7 := Lib.hid (Founds.grown (HF6.out.below ((Below.refl _ _).alloc (Nat.le_refl _) _)) HLG.out (HW6.out.alloc _) hg7 (below_app (Below.refl _ _) (Nat.le_trans HE6.out.size (by simp)) (HW6.out.alloc _) hg7)); have HW7 := Lib.hid hown7; have HE7 := Lib.hid (HE6.out.trans hb7); clear hown7 hg7 hb7)
              | (refine wpList_app1 oneB rfl _ _ _ rfl w.heap.size _ _ _ rfl HW5.out _ _ _ rfl (HS5.out.src encB_cell Try.underlying24 _) (by omega) (by unfold maxLen; omega) HE5.out.size ?_; intro v6 w6 hown6 hg6 hb6; have HF6 := Lib.hid (HF5.out.grown HLG.out HW5.out hg6 hb6); have HW6 := Lib.hid hown6; have HE6 := Lib.hid (HE5.out.trans hb6); clear hown6 hg6 hb6))
            have HN := Lib.hid (show LaidS w (j + 1) v7 v4 (R ++ [⟨u, t, kb, ds, c⟩]) (G ++ [⟨p, u.toNat, t, kb, y, m, cm, c, ds⟩]) w7 from by
              have h1 := HL5.out
              have h2 := HML.out
              refine ⟨by simp [HL.out.len], fun r hr => ?_, ?_, HF7.out, HLG.out, HL.out.tells.snoc ⟨HP.out, rfl, rfl, rfl, rfl, rfl⟩, HE7.out⟩
              · rcases List.mem_append.1 hr with hr | hr
                · exact HL.out.ok r hr
                · rw [List.mem_singleton.1 hr]
                  exact ⟨⟨by rw [← h2] at hr0; exact hr0, HT1.out⟩, by unfold RV.len; simp only; omega⟩
              · have h := HW7.out
                have e1 : total R + n5 + 1 = total (R ++ [⟨u, t, kb, ds, c⟩]) := by rw [total_append]; simp only [total, RV.len]; omega
                rw [e1] at h
                rw [show List.map encB ((R ++ [(⟨u, t, kb, ds, c⟩ : RV)]).flatMap RV.bytes) = List.map encB (R.flatMap RV.bytes) ++ List.map encB (recB u t kb ds c) ++ [.int .u8 0] by simp [List.flatMap_append, RV.bytes, encB]]
                exact h)
            go_roundg (n - (j + 1))
            case measure => omega
            case rel => exact ⟨j + 1, _, _, by omega, rfl, by go_num, HN⟩
      · obtain rfl : j = n := by omega
        obtain ⟨va, vc, rfl⟩ : ∃ a c, u5 = .slice a (total R) c := by
          rcases HL.out.row.2 with ⟨rfl, h0⟩ | ⟨g, cap, cur, rfl, _⟩
          · exact ⟨none, 0, by rw [h0]⟩
          · exact ⟨_, _, rfl⟩
        have hts := total_small HL.out.ok
        rw [HL.out.len] at hts
        obtain ⟨p, hp⟩ : ∃ p, p = 12 + total R := ⟨_, rfl⟩
        have e12 : (12 : Int) + (total R : Int) = (p : Int) := by omega
        have hpb : p ≤ 65536 := by omega
        have HP := Lib.hid hp
        have HTS := Lib.hid hts
        clear hp hts
        obtain ⟨hx0, hx1⟩ := bounds_u8 HX.out
        obtain ⟨x', rfl⟩ : ∃ x' : Nat, x = x' := ⟨x.toNat, by omega⟩
        go_wp2_with fail
        go_loopg [5, 52] x' (fun gn vb i wx => ∃ q : Nat, q ≤ x' ∧ gn = x' - q ∧ i = .int .u8 q ∧ Hid (wx.ownsRow w.heap.size 5 1 vb (total R + q) ((R.flatMap RV.bytes ++ List.replicate q 255).map encB)) ∧ Hid (Founds wx w.heap.size u6 j G) ∧ Hid (Below w.heap.size w wx))
        case atStart => exact ⟨0, by omega, by omega, by go_num, Lib.hid (by simpa using HL.out.row), Lib.hid HL.out.found, Lib.hid HL.out.below⟩
        case round =>
          obtain ⟨q, hq, rfl, rfl, HW, HF, HB⟩ := hrel
          by_cases hlq : q < x'
          · have hts2 : total R + q ≤ 70000 := by have h := HP.out; omega
            go_wp2_with (at_builtin; first
              | (refine wpList_app_lit oneB rfl _ _ rfl w.heap.size _ _ _ rfl HW.out _ 1 _ rfl rfl rfl (by omega) (by unfold maxLen; omega) HB.out.size ?_; intro v7 w7 hown7 hg7 hb7; have HF7 := Lib.hid (Founds.grown (HF.out.below ((Below.refl _ _).alloc (Nat.le_refl _) _)) HL.out.low (HW.out.alloc _) hg7 (below_app (Below.refl _ _) (Nat.le_trans HB.out.size (by simp)) (HW.out.alloc _) hg7)); have HW7 := Lib.hid hown7; have HE7 := Lib.hid (HB.out.trans hb7); clear hown7 hg7 hb7))
            go_roundg (x' - (q + 1))
            case measure => omega
            case rel => exact ⟨q + 1, by omega, rfl, by go_num, Lib.hid (by have h := HW7.out; rw [show total R + (q + 1) = total R + q + 1 by omega, List.replicate_succ', ← List.append_assoc, List.map_append]; exact h), HF7, HE7⟩
          · obtain rfl : q = x' := by omega
            have hsz : total R + q ≤ 65536 := by have h1 := HTS.out; omega
            obtain ⟨vs, vsc, rfl⟩ : ∃ a c, u5 = .slice a (total R + q) c := by
              rcases HW.out.2 with ⟨rfl, h0⟩ | ⟨g, cap, cur, rfl, _⟩
              · exact ⟨none, 0, by rw [h0]⟩
              · exact ⟨_, _, rfl⟩
            go_wp2_with fail
            obtain ⟨hs8, hc8⟩ := Sl.ofOwnS HW.out
            refine (sector_any wr vs (total R + q) vsc _ hs8 hsz).mono ?_
            rintro e w8 ⟨a8, c8, rfl, hs9, hc9, hb9⟩
            have hsec : Sl encB w8 a8 (12 + (total R + q)) (sectorB hdB R q) := by unfold sectorB; rw [List.append_assoc]; exact hs9
            have hP := Scan_whole w8 a8 (12 + (total R + q)) c8 hdB R q hdB_length hsec (by have h1 := HTS.out; omega) hc9 (fun r hr => (HL.out.ok r hr).1) 8 (by decide) hdB_eight
            have H8 := Lib.hid (HB.out.trans (hb9.mono HB.out.size))
            have HF8 := Lib.hid (HF.out.below hb9)
            clear hsec hs9 hc9 hb9 hs8
            go_wp2_with fail
            refine hP.mono ?_
            clear hP
            rintro e w9 ⟨v9, F9, rfl, hF9, hT9, hb10⟩
            rw [HL.out.len] at hF9
            rw [← HP.out]
            have H9 := Lib.hid (H8.out.trans (hb10.mono H8.out.size))
            have hS := Same6_yes w9 w8.heap.size w.heap.size v9 u6 j F9 G hF9 (HF8.out.below hb10) (by have h1 := HTS.out; omega) (hT9.same HL.out.tells)
            clear hF9 hT9 hb10
            go_wp2_with fail
            refine hS.mono ?_
            rintro e w10 ⟨rfl, hb11⟩
            have H10 := Lib.hid (H9.out.trans (hb11.mono H9.out.size))
            clear hb11 hS
            go_wp2_with fail
            go_ret
            exact ⟨rfl, H10.out⟩
theorem walk_ScanWhole (a : Option Addr) (n cap : Nat) (x : Int) (w : World) (h0 : IsRecs w a n cap) (h1 : (Lit.int .u8 x).wf = true) :
    Calls Try.prog 3 #[.slice a n cap, .int .u8 x] w fun e w' => e = .returned (.bool true) ∧ Below w.heap.size w w' := walk0_ScanWhole w a n cap x h0 h1
end Go.Proofs.Ytechkdnoekffmaa
