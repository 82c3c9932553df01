/- scan: Scan of whole records and bytes that tell none. No condition. -/
import Derived.Test.YtechkdnoekffmaaQ12ScanTorn
import Derived.Test.YtechkdnoekffmaaQ11ScanTorn
import Derived.Test.YtechkdnoekffmaaQ00ScanTorn
namespace Go.Proofs.Ytechkdnoekffmaa
open Go.ChangeShapes Go.WideShapes Go.ChangeAt Go.RowKit
/-- A header, whole records, and other bytes. -/
def sectorT (hd : List UInt8) (R : List RV) (T : List UInt8) : List UInt8 := hd ++ R.flatMap RV.bytes ++ T
theorem sectorT_length {hd : List UInt8} (h : hd.length = 12) (R : List RV) (T : List UInt8) : (sectorT hd R T).length = 12 + total R + T.length := by
  unfold sectorT; simp only [List.length_append, h, total_flat]
theorem sectorT_drop {hd : List UInt8} (h : hd.length = 12) (R : List RV) (T : List UInt8) (j : Nat) (hj : j < R.length) :
    (sectorT hd R T).drop (12 + total (R.take j)) = recB (R[j]).u (R[j]).t (R[j]).kb (R[j]).bs (R[j]).c ++ (0 : UInt8) :: ((R.drop (j + 1)).flatMap RV.bytes ++ T) := by
  have e : R = R.take j ++ (R[j] :: R.drop (j + 1)) := by rw [← List.drop_eq_getElem_cons hj, List.take_append_drop]
  have e2 : sectorT hd R T = (hd ++ (R.take j).flatMap RV.bytes) ++ ((R[j]).bytes ++ ((R.drop (j + 1)).flatMap RV.bytes ++ T)) := by
    unfold sectorT
    conv => lhs; rw [e]
    rw [List.flatMap_append, List.flatMap_cons]
    simp only [List.append_assoc]
  rw [e2, List.drop_append_of_le_length (by simp only [List.length_append, h, total_flat]; omega), List.drop_eq_nil_of_le (by simp only [List.length_append, h, total_flat]; omega), List.nil_append]
  unfold RV.bytes
  simp
theorem sectorT_end {hd : List UInt8} (h : hd.length = 12) (R : List RV) (T : List UInt8) : (sectorT hd R T).drop (12 + total R) = T := by
  unfold sectorT
  have e : (hd ++ R.flatMap RV.bytes).length = 12 + total R := by simp only [List.length_append, h, total_flat]
  rw [← e, List.drop_left]
theorem sectorT_zero {hd : List UInt8} (h : hd.length = 12) (R : List RV) (T : List UInt8) (j : Nat) (hj : j < R.length) :
    (sectorT hd R T).getD (12 + total (R.take j) + ((R[j]).len - 1)) 0 = 0 := by
  have hd' := sectorT_drop h R T j hj
  have : ((sectorT hd R T).drop (12 + total (R.take j))).getD ((R[j]).len - 1) 0 = 0 := by
    rw [hd', List.getD_eq_getElem?_getD, List.getElem?_append_right (by rw [recB_length]; unfold RV.len; omega), recB_length, show (R[j]).len - 1 - (15 + (R[j]).kb.length + (R[j]).bs.length) = 0 by unfold RV.len; omega]
    rfl
  rwa [List.getD_eq_getElem?_getD, List.getElem?_drop, ← List.getD_eq_getElem?_getD] at this
theorem sectorT_tail {hd : List UInt8} (h : hd.length = 12) (R : List RV) (T : List UInt8) (i : Nat) (h1 : 12 + total R ≤ i) : (sectorT hd R T).getD i 0 = T.getD (i - (12 + total R)) 0 := by
  unfold sectorT
  rw [List.getD_eq_getElem?_getD, List.getElem?_append_right (by simp only [List.length_append, h, total_flat]; omega)]
  simp only [List.length_append, h, total_flat]
  rfl
theorem atT_lt {hd : List UInt8} (h : hd.length = 12) {R : List RV} {T : List UInt8} {E j : Nat} (hE : ∀ i, E ≤ i → i < 12 + total R + T.length → (sectorT hd R T).getD i 0 = 255) (hj : j < R.length) : 12 + total (R.take j) < E := by
  have h0 := sectorT_zero h R T j hj
  have hl := total_le R j hj
  have hp : 16 ≤ (R[j]).len := by unfold RV.len; omega
  by_cases hlt : 12 + total (R.take j) < E
  · exact hlt
  · have := hE (12 + total (R.take j) + ((R[j]).len - 1)) (by omega) (by omega)
    rw [this] at h0
    cases h0
/-- Where all is 255 from a place in the tail on, the end isn't behind it. -/
theorem atT_end {hd : List UInt8} (h : hd.length = 12) {R : List RV} {T : List UInt8} {E s : Nat} (hE : E ≤ 12 + total R + T.length) (hX : E = 0 ∨ (sectorT hd R T).getD (E - 1) 0 ≠ 255) (hs : ∀ j, s ≤ j → j < T.length → T.getD j 0 = 255) : E ≤ 12 + total R + s := by
  rcases hX with h0 | h0
  · omega
  · by_cases hlt : E ≤ 12 + total R + s
    · exact hlt
    · exfalso
      apply h0
      rw [sectorT_tail h R T (E - 1) (by omega)]
      exact hs _ (by omega) (by omega)
theorem sectorT_head {hd : List UInt8} (h : hd.length = 12) (R : List RV) (T : List UInt8) (i : Nat) (hi : i < 12) : (sectorT hd R T).getD i 0 = hd.getD i 0 := by
  unfold sectorT
  rw [List.getD_eq_getElem?_getD, List.getD_eq_getElem?_getD, List.append_assoc, List.getElem?_append_left (by omega)]
/-- What Scan returns of them. -/
def ScanSome (R : List RV) (w : World) (e : Ending) (w' : World) : Prop :=
  ∃ v F n cl, e = .returned (.tuple #[v, .int .i64 n, .bool cl]) ∧ Founds w' w.heap.size v R.length F ∧ Tells 12 R F ∧ Below w.heap.size w w'
/-- Where Scan's loop stands. -/
def ScanRel (R : List RV) (E : Nat) (w : World) (gn : Nat) (out cl p : Value) (wx : World) : Prop :=
  (∃ (j : Nat) (F : List FV), j ≤ R.length ∧ gn = R.length + 1 - j ∧ cl = .bool false ∧ p = .int .i64 ((12 + total (R.take j) : Nat) : Int) ∧ Founds wx w.heap.size out j F ∧ Tells 12 (R.take j) F ∧ Below w.heap.size w wx) ∨
  (∃ (q : Nat) (F : List FV), E ≤ q ∧ q ≤ 200000 ∧ gn = 0 ∧ cl = .bool true ∧ p = .int .i64 (q : Nat) ∧ Founds wx w.heap.size out R.length F ∧ Tells 12 R F ∧ Below w.heap.size w wx)
set_option maxRecDepth 100000 in
set_option maxHeartbeats 8000000 in
theorem Scan_tail (w : World) (a : Option Addr) (n cap : Nat) (hd : List UInt8) (R : List RV) (T : List UInt8) (hT : TailOk T) (h12 : hd.length = 12) (hs : Sl encB w a n (sectorT hd R T)) (hn : n ≤ 65536) (hcap : n ≤ cap) (hok : ∀ r ∈ R, r.ok) (i8 : Nat) (hi8 : i8 < 12) (h8 : hd.getD i8 0 ≠ 255) :
    Calls Try.prog 8 #[.slice a n cap] w (ScanSome R w) := by
  have hlen := hs.1
  rw [sectorT_length h12] at hlen
  have hRl := len_le_total R
  obtain ⟨b, off, rfl, hblt, hc⟩ := row_cells hs (by omega)
  have HC := Lib.hid hc
  have HS := Lib.hid hs
  have HOK := Lib.hid hok
  have HL := Lib.hid hlen
  have hn12 : 12 ≤ n := by omega
  have n0 : (12 : Int) ≤ n := by omega
  have z12 : ¬ (n : Int) < 12 := by omega
  have HRl := Lib.hid hRl
  have H8 := Lib.hid h8
  have HT := Lib.hid hT
  clear hc hs hok hlen hRl h8 hT
  go_enter Try.func8, Try.ntmps8
  go_wp2_with fail
  go_step3
  go_wp2_with fail
  go_loopg [8] n (fun gn e wr => ∃ E : Nat, E ≤ n ∧ gn = 0 + E ∧ e = .int .i64 E ∧ Hid (∀ i, E ≤ i → i < n → (sectorT hd R T).getD i 0 = 255) ∧ Hid (Below w.heap.size w wr))
  case atStart => exact ⟨n, by omega, by omega, by go_num, Lib.hid (fun i h1 h2 => by omega), Lib.hid (Below.refl _ _)⟩
  case round =>
    obtain ⟨E, hE, rfl, rfl, HE, HB⟩ := hrel
    have HX := Lib.hid (show ∀ i, i < n → wr.cell? ⟨b, off + i, none⟩ = some (.int .u8 (((sectorT hd R T).getD i 0).toNat : Int)) from fun i hi => by rw [HB.out.cell hblt]; exact HC.out i hi)
    by_cases hgo : 0 < E ∧ (sectorT hd R T).getD (E - 1) 0 = 255
    · obtain ⟨q, rfl⟩ : ∃ q, E = q + 1 := ⟨E - 1, by omega⟩
      have cx := HX.out q (by omega)
      have hv := hgo.2
      rw [Nat.add_sub_cancel] at hv
      rw [hv] at cx
      replace cx : wr.cell? ⟨b, off + q, none⟩ = some (.int .u8 255) := cx
      have HE2 := Lib.hid (show ∀ i, q ≤ i → i < n → (sectorT hd R T).getD i 0 = 255 from fun i h1 h2 => by
        by_cases he : i = q
        · rw [he]; exact hv
        · exact HE.out i (by omega) h2)
      clear hv hgo
      have g0 : (0 : Int) < ((q + 1 : Nat) : Int) := by omega
      have g1 : ((q + 1 : Nat) : Int) - 1 = (q : Int) := by omega
      have g2 : (q : Int) < n := by omega
      generalize ((q + 1 : Nat) : Int) = e at *
      go_wp2_with fail
      go_roundg q
      case measure => omega
      case rel => exact ⟨q, by omega, by omega, rfl, HE2, HB⟩
    · have hX : E = 0 ∨ (sectorT hd R T).getD (E - 1) 0 ≠ 255 := by
        by_cases h : E = 0
        · exact .inl h
        · exact .inr fun h2 => hgo ⟨by omega, h2⟩
      have HNE := Lib.hid (fun (s : Nat) (hs : ∀ j, s ≤ j → j < T.length → T.getD j 0 = 255) => atT_end h12 (show E ≤ 12 + total R + T.length by have := HL.out; omega) hX hs)
      have HXE := Lib.hid hX
      clear hX hgo
      have h0 : 0 < E := by
        rcases Nat.eq_zero_or_pos E with h0 | h0
        · exact absurd (show hd.getD i8 0 = 255 by rw [← sectorT_head h12 R T i8 hi8]; exact HE.out i8 (by omega) (by omega)) H8.out
        · exact h0
      · have H0 := Lib.hid h0
        have g0 : (0 : Int) < (E : Int) := by omega
        have cx := HX.out (E - 1) (by omega)
        have hv : ((((sectorT hd R T).getD (E - 1) 0).toNat : Int) == 255) = false := by
          refine eqi_no fun h2 => ?_
          rcases HXE.out with h3 | h3
          · omega
          · refine h3 (UInt8.toNat_inj.1 ?_)
            show ((sectorT hd R T).getD (E - 1) 0).toNat = 255
            omega
        generalize (((sectorT hd R T).getD (E - 1) 0).toNat : Int) = y at cx hv
        have g1 : (E : Int) - 1 = ((E - 1 : Nat) : Int) := by omega
        have g2 : ((E - 1 : Nat) : Int) < n := by omega
        generalize E - 1 = q at cx g1 g2
        clear h0
        go_wp2_with fail
        clear g0 g1 g2 cx hv
        go_step3
        go_wp2_with fail
        go_loopg [5, 6, 7] (R.length + 1) (fun gn out cl p wx => ScanRel R E w gn out cl p wx)
        case atStart => exact .inl ⟨0, [], by omega, by omega, rfl, rfl, Founds.nil _ _, trivial, HB.out⟩
        case round =>
          rcases hrel with ⟨j, F, hj, rfl, rfl, rfl, hF, hTl, hB2⟩ | ⟨q, F, hEq, hqb, rfl, rfl, rfl, hF, hTl, hB2⟩
          case inr =>
            have HQ := Lib.hid (show ScanSome R w (.returned (.tuple #[_, .int .i64 (q : Int), .bool true])) wr from ⟨_, F, _, _, rfl, hF, hTl, hB2⟩)
            have hne : ¬ (q : Int) < E := by omega
            clear hF hTl hB2
            go_wp2_with fail
            try rw [Exit.noGoto_ret]
            go_ret3
            exact HQ.out
          have HF := Lib.hid hF
          have HT1 := Lib.hid hTl
          have HB2 := Lib.hid hB2
          clear hF hTl hB2
          by_cases hlt : j < R.length
          · have hat := atT_lt h12 (fun i h1 h2 => HE.out i h1 (by have := HL.out; omega)) hlt
            have hok := HOK.out _ (List.getElem_mem hlt)
            have htl := total_le R j hlt
            have hLn := HL.out
            obtain ⟨_, _, e0, SD⟩ := (HS.out.below HB2.out).drop (j := 12 + total (R.take j)) (by omega)
            cases e0
            rw [sectorT_drop h12 R T j hlt] at SD
            have hP := Parse_rec _ _ (n - (12 + total (R.take j))) (cap - (12 + total (R.take j))) _ _ _ _ _ _ _ SD (by omega) (by omega) hok.1 hok.2
            have hl0 : (11 + ((R[j]).kb.length : Int) + ((R[j]).bs.length : Int) + 5) = (((R[j]).len : Nat) : Int) := by unfold RV.len; omega
            rw [hl0] at hP
            have hnx : 12 + total (R.take j) + (R[j]).len = 12 + total (R.take (j + 1)) := by rw [take_total R j hlt]; omega
            have hlen2 : (R[j]).len ≤ 65536 := by omega
            have HT2 := Lib.hid (fun f (hf : (R[j]).told (12 + total (R.take j)) f) => (show Tells 12 (R.take (j + 1)) (F ++ [f]) by
              rw [List.take_add_one, List.getElem?_eq_getElem hlt]; exact HT1.out.snoc hf))
            have HNX := Lib.hid hnx
            have hp1 : 12 + total (R.take j) < n := by omega
            have HPE := Lib.hid (show 12 + total (R.take j) ≤ 65536 by omega)
            clear SD hl0 hnx hok htl hLn
            generalize R[j] = r at *
            generalize 12 + total (R.take j) = p at *
            have HP := Lib.hid hP
            clear hP
            have i0 : (0 : Int) ≤ p := by omega
            have i1 : (p : Int) < E := by omega
            have i2 : (p : Int) ≤ n := by omega
            have i3 : ¬ cap = p := by omega
            have i4 : (p : Int) ≤ cap := by omega
            have i5 : (n : Int) ≤ cap := by omega
            have i6 : p ≤ 65536 := by omega
            go_wp2_with fail
            refine HP.out.mono ?_
            rintro e w4 ⟨a4, m4, c4, rfl, hown, hb4⟩
            obtain ⟨S4, hc4⟩ := Sl.ofOwnS hown
            have F4 := HF.out.below hb4
            have BL4 := blob_own (B := w.heap.size) hown ⟨p, r.u.toNat, r.t, r.kb, a4, m4, c4, r.c, r.bs⟩ rfl rfl
            have HBW := HB2.out.trans (hb4.mono HB2.out.size)
            clear hown hb4 HP
            have H4 := Lib.hid (And.intro S4 (And.intro hc4 (And.intro F4 (And.intro BL4 HBW))))
            clear S4 hc4 F4 BL4 HBW
            unfold recL recV
            have hW := (Below.refl w4.heap.size w4).alloc (Nat.le_refl _) (.cells #[.int .i64 (r.u.toNat : Int), .int .u32 (r.t : Int), .string ⟨r.kb.toArray⟩, .slice a4 m4 c4, .int .i64 (r.c : Int)] 28)
            have HW := Lib.hid (And.intro (H4.out.1.below hW) (And.intro (H4.out.2.2.1.below hW) (And.intro (H4.out.2.2.2.1.below hW) (H4.out.2.2.2.2.trans (hW.mono H4.out.2.2.2.2.size)))))
            have HM4 := Lib.hid H4.out.2.1
            clear hW H4
            go_wp2_with (at_builtin; first
              | (refine wpList_found2 rfl _ _ rfl w.heap.size _ _ F rfl HW.out.2.1 ⟨p, r.u.toNat, r.t, r.kb, a4, m4, c4, r.c, r.bs⟩ 1 _ rfl (by simp) HW.out.1 HM4.out HW.out.2.2.1 (by have h1 := HRl.out; have h2 := HL.out; omega) HW.out.2.2.2.size ?_; intro v7 w7 hF7 hb7; have HF7 := Lib.hid hF7; have HB7 := Lib.hid (HW.out.2.2.2.trans (hb7.mono (Nat.le_refl _))); clear hF7 hb7))
            go_roundg (R.length + 1 - (j + 1))
            case measure => omega
            case rel => exact .inl ⟨j + 1, F ++ [_], by omega, rfl, rfl, by rw [← HNX.out]; go_num, HF7.out, HT2.out _ ⟨rfl, rfl, rfl, rfl, rfl, rfl⟩, HB7.out⟩
          · obtain rfl : j = R.length := by omega
            have HT2 := Lib.hid (show Tells 12 R F by have h := HT1.out; rw [List.take_length] at h; exact h)
            have e1 : R.take R.length = R := List.take_length
            have hpn : 12 + total R + T.length = n := by have := HL.out; omega
            rw [e1]
            by_cases hpe : 12 + total R < E
            case neg =>
              have HQ := Lib.hid (show ScanSome R w (.returned (.tuple #[_, .int .i64 ((12 + total R : Nat) : Int), .bool false])) wr from ⟨_, F, _, _, rfl, HF.out, HT2.out, HB2.out⟩)
              clear hpn e1
              generalize 12 + total R = p at hpe HQ ⊢
              have hne : ¬ (p : Int) < E := by omega
              go_wp2_with fail
              try rw [Exit.noGoto_ret]
              go_ret3
              exact HQ.out
            case pos =>
              have hTT : T.getD 0 0 ≠ 255 ∧ 0 < T.length ∧ (11 ≤ T.length → sizeN T ≤ T.length → T.getD (sizeN T - 1) 0 ≠ 0 ∧ ∀ j, sizeN T ≤ j → j < T.length → T.getD j 0 = 255) := by
                rcases HT.out with h | h
                · have := HNE.out 0 (fun j _ hj => h j hj)
                  omega
                · exact h
              obtain ⟨t1, t2, t3⟩ := hTT
              obtain ⟨_, _, e0, SD⟩ := (HS.out.below HB2.out).drop (j := 12 + total R) (by omega)
              cases e0
              rw [sectorT_end h12 R T] at SD
              have hcp : ¬ cap = 12 + total R := by omega
              obtain ⟨sz, er, hP, hPP⟩ := Parse_torn wr _ (n - (12 + total R)) (cap - (12 + total R)) T SD (by omega) (by omega) (by omega) t1 (fun h1 h2 => (t3 (by omega) (by omega)).1)
              have HP := Lib.hid hP
              have HSZ := Lib.hid (show er = 0 → E ≤ 12 + total R + sz ∧ sz ≤ 65536 from fun h => by
                rcases hPP with h1 | ⟨_, h2, h3, h4⟩
                · exact absurd h h1
                · exact ⟨HNE.out sz (by rw [h2]; exact (t3 (by omega) (by omega)).2), by omega⟩)
              have hp1 : 12 + total R < n := by omega
              clear hP hPP SD t1 t2 t3 hpn e1
              generalize 12 + total R = p at *
              have i0 : (0 : Int) ≤ p := by omega
              have i1 : (p : Int) < E := by omega
              have i2 : (p : Int) ≤ n := by omega
              have i4 : (p : Int) ≤ cap := by omega
              have i5 : (n : Int) ≤ cap := by omega
              have i6 : p ≤ 65536 := by omega
              go_wp2_with fail
              refine HP.out.mono ?_
              rintro e w4 ⟨kd, tx, kb, a4, m4, c4, ct, rfl, hb4⟩
              unfold recV
              have hal := (Below.refl w4.heap.size w4).alloc (Nat.le_refl _) (.cells #[.int .i64 kd, .int .u32 tx, .string kb, .slice a4 m4 c4, .int .i64 ct] 28)
              have hb5 := hb4.trans (hal.mono hb4.size)
              have HF5 := Lib.hid (HF.out.below hb5)
              have HB5 := Lib.hid (HB2.out.trans (hb5.mono HB2.out.size))
              clear hal hb4 hb5 HP HF HB2
              by_cases her : er = 0
              case neg =>
                have hne : (er != 0) = true := by simp [her]
                have HQ := Lib.hid (show ScanSome R w (.returned (.tuple #[_, .int .i64 (n : Int), .bool true])) _ from ⟨_, F, _, _, rfl, HF5.out, HT2.out, HB5.out⟩)
                clear her HF5 HB5
                go_wp2_with fail
                try rw [Exit.noGoto_ret]
                go_ret3
                exact HQ.out
              case pos =>
                obtain ⟨hsz1, hsz2⟩ := HSZ.out her
                subst her
                go_wp2_with fail
                go_roundg 0
                case measure => omega
                case rel => exact .inr ⟨p + sz, F, by omega, by omega, rfl, rfl, by go_num, HF5.out, HT2.out, HB5.out⟩
end Go.Proofs.Ytechkdnoekffmaa
/- scan: what torn commits tell, in plain Lean. No condition. -/
namespace Go.Proofs.Ytechkdnoekffmaa
open Go.ChangeShapes Go.WideShapes Go.ChangeAt Go.RowKit
theorem Tells.at {p : Nat} {R : List RV} {F : List FV} (h : Tells p R F) : ∀ (j : Nat) r f, R[j]? = some r → F[j]? = some f → f.kd = r.u.toNat ∧ f.tx = r.t ∧ f.kb = r.kb ∧ f.ct = r.c := by
  induction R generalizing p F with
  | nil => intro j r f hr; simp at hr
  | cons q R ih =>
    cases F with
    | nil => exact h.elim
    | cons g F =>
      intro j r f hr hf
      cases j with
      | zero =>
        simp at hr hf
        subst hr hf
        obtain ⟨⟨a1, a2, a3, a4, a5, a6⟩, _⟩ := h
        exact ⟨a2, a3, a4, a5⟩
      | succ j => exact ih h.2 j r f (by simpa using hr) (by simpa using hf)
def firstK : List UInt8 := [102, 105, 114, 115, 116]
def firstR : RV := ⟨1, 1, firstK, [], 0⟩
def firstC : RV := ⟨3, 1, [], [], 1⟩
def firstB : List UInt8 := [firstR, firstC].flatMap RV.bytes
theorem firstB_length : firstB.length = 37 := by unfold firstB; rw [total_flat]; rfl
theorem firstR_ok : firstR.ok := ⟨by decide, by decide⟩
theorem firstC_ok : firstC.ok := ⟨by decide, by decide⟩
/-- What is found of a whole commit and of one that was laid in part. -/
theorem cmOk_of {L : List RV} {q : Nat} {F : List FV} (hL : ∀ r ∈ L, r.t = 2 ∧ r.u.toNat ≠ 3) (h : Tells 12 ([firstR, firstC] ++ L.take q) F) (hl : F.length = ([firstR, firstC] ++ L.take q).length) : CmOk F ∧ ∀ f, F[0]? = some f → f.kb = firstK := by
  have hrs : ∀ (j : Nat) (f : FV), F[j]? = some f → ∃ r, ([firstR, firstC] ++ L.take q)[j]? = some r := by
    intro j f hf
    have hlt := (List.getElem?_eq_some_iff.1 hf).1
    exact ⟨_, List.getElem?_eq_getElem (by omega)⟩
  refine ⟨⟨by rw [hl]; simp, fun f hf => ?_, fun f hf => ?_, fun j f hj hf => ?_⟩, fun f hf => ?_⟩
  · obtain ⟨a, b, _, _⟩ := h.at 0 firstR f rfl hf
    exact ⟨a, b⟩
  · obtain ⟨a, b, _, d⟩ := h.at 1 firstC f rfl hf
    exact ⟨a, b, d⟩
  · obtain ⟨r, hr⟩ := hrs j f hf
    obtain ⟨a, b, _, _⟩ := h.at j r f hr hf
    obtain ⟨j', rfl⟩ : ∃ j', j = j' + 2 := ⟨j - 2, by omega⟩
    have hr' : (L.take q)[j']? = some r := by simpa using hr
    have hm : r ∈ L := List.mem_of_mem_take (List.mem_of_getElem? hr')
    obtain ⟨c, d⟩ := hL r hm
    have hu := r.u.toNat_lt
    exact ⟨by rw [a]; exact d, by rw [a]; omega, by rw [b]; exact c⟩
  · exact (h.at 0 firstR f rfl hf).2.2.1
/-- The sector that is scanned. -/
theorem sector_torn (L : List RV) (cm : RV) (q k : Nat) (mask : UInt8) (T : List UInt8) (h : tornB ((L ++ [cm]).flatMap RV.bytes) k mask ++ [255, 255] = (L.take q).flatMap RV.bytes ++ T) :
    hdB ++ (firstB ++ tornB ((L ++ [cm]).flatMap RV.bytes) k mask) ++ [255, 255] = sectorT hdB ([firstR, firstC] ++ L.take q) T := by
  unfold sectorT
  rw [show ([firstR, firstC] ++ L.take q).flatMap RV.bytes = firstB ++ (L.take q).flatMap RV.bytes from List.flatMap_append, List.append_assoc, List.append_assoc, h]
  simp only [List.append_assoc]
end Go.Proofs.Ytechkdnoekffmaa
/- Bytes' bits, in the walk's spelling. No condition. -/
namespace Go.Proofs.Ytechkdnoekffmaa
open Go.ChangeShapes Go.WideShapes Go.ChangeAt Go.RowKit
theorem u8_bv (x : UInt8) : BitVec.ofInt 8 (x.toNat : Int) = x.toBitVec := by
  apply BitVec.eq_of_toNat_eq
  simp [BitVec.toNat_ofInt]
theorem E_u8 (v : BitVec 8) : E v = ((UInt8.ofBitVec v).toNat : Int) := rfl
theorem u8_and (x y : UInt8) : bits .and .u8 (x.toNat : Int) (y.toNat : Int) = ((x &&& y).toNat : Int) := by
  rw [bits8_and, u8_bv, u8_bv, E_u8]; rfl
theorem u8_or (x y : UInt8) : bits .or .u8 (x.toNat : Int) (y.toNat : Int) = ((x ||| y).toNat : Int) := by
  rw [bits8_or, u8_bv, u8_bv, E_u8]; rfl
theorem u8_andNot (x y : UInt8) : bits .andNot .u8 (x.toNat : Int) (y.toNat : Int) = ((x &&& ~~~y).toNat : Int) := by
  rw [bits8_andNot, u8_bv, u8_bv, E_u8]; rfl
theorem bv_clear (c o : BitVec 8) : c &&& ~~~o = 0#8 ↔ c &&& o = c := by
  constructor
  · intro h
    apply BitVec.eq_of_getLsbD_eq
    intro i hi
    have := congrArg (fun v => v.getLsbD i) h
    simp [hi] at this ⊢
    intro hc
    cases ho : o.getLsbD i <;> simp_all
  · intro h
    apply BitVec.eq_of_getLsbD_eq
    intro i hi
    have := congrArg (fun v => v.getLsbD i) h
    simp [hi] at this ⊢
    intro hc
    exact this hc
theorem u8_clear (c o : UInt8) : (c &&& ~~~o) = 0 ↔ (c &&& o) = c := by
  rw [← UInt8.toBitVec_inj, ← UInt8.toBitVec_inj]
  exact bv_clear c.toBitVec o.toBitVec
/-- What a program that is torn leaves of a byte. -/
theorem u8_torn (o b m : UInt8) : (o &&& ~~~(~~~b &&& m)) = (o &&& (b ||| ~~~m)) := by
  rw [← UInt8.toBitVec_inj]
  show o.toBitVec &&& ~~~(~~~b.toBitVec &&& m.toBitVec) = o.toBitVec &&& (b.toBitVec ||| ~~~m.toBitVec)
  apply BitVec.eq_of_getLsbD_eq
  intro i hi
  simp [hi]
theorem u8_not (m : UInt8) : 255 - m = ~~~m := by
  apply UInt8.toNat_inj.1
  have h := m.toNat_lt
  rw [UInt8.toNat_sub_of_le _ _ (by rw [UInt8.le_iff_toNat_le]; show m.toNat ≤ 255; omega)]
  show 255 - m.toNat = (~~~m.toBitVec).toNat
  rw [BitVec.toNat_not]
  show 255 - m.toNat = 2 ^ 8 - 1 - m.toNat
  omega
end Go.Proofs.Ytechkdnoekffmaa
