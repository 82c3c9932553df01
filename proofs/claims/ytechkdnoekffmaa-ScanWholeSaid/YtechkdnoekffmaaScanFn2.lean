/- scan: Scan of whole records. No condition. -/
import Derived.Test.YtechkdnoekffmaaScanFn
import Derived.Test.YtechkdnoekffmaaScanPlain
import Derived.WalkMore
import Derived.OwnWalk
namespace Go.Proofs.Ytechkdnoekffmaa
open Go.ChangeShapes Go.WideShapes Go.ChangeAt Go.RowKit
/-- What Scan returns of them. -/
def ScanOk (R : List RV) (w : World) (e : Ending) (w' : World) : Prop :=
  ∃ v F, e = .returned (.tuple #[v, .int .i64 ((12 + total R : Nat) : Int), .bool false]) ∧ Founds w' w.heap.size v R.length F ∧ Tells 12 R F ∧ Below w.heap.size w w'
theorem len_le_total (R : List RV) : R.length ≤ total R := by
  induction R with
  | nil => simp [total]
  | cons r R ih => simp [total, RV.len]; omega
theorem blob_own {w : World} {base B : Nat} {a : Option Addr} {m c : Nat} {xs : List Value} (h : w.ownsRow base 5 1 (.slice a m c) m xs) (f : FV) (hfa : f.a = a) (hfn : f.n = m) : BlobAt w B f := by
  intro hn
  rcases h.2 with ⟨h1, h2⟩ | ⟨g, cap, cur, hv, hB, hg, _⟩
  · omega
  · cases hv
    exact ⟨g, 0, hfa, .inr ⟨cur, _, hg⟩⟩
theorem sector_head {hd : List UInt8} (h : hd.length = 12) (R : List RV) (m i : Nat) (hi : i < 12) : (sectorB hd R m).getD i 0 = hd.getD i 0 := by
  unfold sectorB
  rw [List.getD_eq_getElem?_getD, List.getD_eq_getElem?_getD, List.append_assoc, List.getElem?_append_left (by omega)]
theorem wpList_found2 {w : World} {ops : Array Oper} {rest : List Oper} {o : Oper} {a : Act} {Q : Exit → Act → World → Prop} (hgd : Region.wanted o (yielded ops a.tmps) = true) (s x : Operand)
    (ho : o.op = .call { callee := .builtin .append, args := #[s, x], argTypes := #[25, 25] })
    (B : Nat) (v : Value) (k : Nat) (F : List FV) (hv : a.eval s = v) (hF : Founds w B v k F) (f : FV) (c : Nat) (sz : Nat) (hy : a.eval x = .slice (some ⟨sz, 0, none⟩) 1 c) (hsz : w.heap.size = sz)
    (hsl : Sl encB w f.a f.n f.bb) (hcap : f.n ≤ f.cap) (hbl : BlobAt w B f) (hk : k ≤ 65536) (hB : B ≤ w.heap.size)
    (h : ∀ v' w', Founds w' B v' (k + 1) (F ++ [f]) → Below B w w' → wpList Try.prog ops Q rest (a.put o.dst v') w') : wpList Try.prog ops Q (o :: rest) a (w.alloc (.cells f.cells.toArray 31)) := by
  subst hsz
  exact wpList_found hgd s x ho B v k F hv hF f c hy hsl hcap hbl hk hB h
set_option maxRecDepth 100000 in
set_option maxHeartbeats 8000000 in
theorem Scan_whole (w : World) (a : Option Addr) (n cap : Nat) (hd : List UInt8) (R : List RV) (m : Nat) (h12 : hd.length = 12) (hs : Sl encB w a n (sectorB hd R m)) (hn : n ≤ 65536) (hcap : n ≤ cap) (hok : ∀ r ∈ R, r.ok) (i8 : Nat) (hi8 : i8 < 12) (h8 : hd.getD i8 0 ≠ 255) :
    Calls Try.prog 8 #[.slice a n cap] w (ScanOk R w) := by
  have hlen := hs.1
  rw [sectorB_length h12] at hlen
  have hRl := len_le_total R
  obtain ⟨b, off, rfl, hblt, hc⟩ := row_cells hs (by omega)
  have HC := Lib.hid hc
  have HS := Lib.hid hs
  have HOK := Lib.hid hok
  have HL := Lib.hid hlen
  have hn12 : 12 ≤ n := by omega
  have n0 : (12 : Int) ≤ n := by omega
  have z12 : ¬ (n : Int) < 12 := by omega
  have HRl := Lib.hid hRl
  have H8 := Lib.hid h8
  clear hc hs hok hlen hRl h8
  go_enter Try.func8, Try.ntmps8
  go_wp2_with fail
  go_step3
  go_wp2_with fail
  go_loopg [8] n (fun gn e wr => ∃ E : Nat, E ≤ n ∧ gn = 0 + E ∧ e = .int .i64 E ∧ Hid (∀ i, E ≤ i → i < n → (sectorB hd R m).getD i 0 = 255) ∧ Hid (Below w.heap.size w wr))
  case atStart => exact ⟨n, by omega, by omega, by go_num, Lib.hid (fun i h1 h2 => by omega), Lib.hid (Below.refl _ _)⟩
  case round =>
    obtain ⟨E, hE, rfl, rfl, HE, HB⟩ := hrel
    have HX := Lib.hid (show ∀ i, i < n → wr.cell? ⟨b, off + i, none⟩ = some (.int .u8 (((sectorB hd R m).getD i 0).toNat : Int)) from fun i hi => by rw [HB.out.cell hblt]; exact HC.out i hi)
    by_cases hgo : 0 < E ∧ (sectorB hd R m).getD (E - 1) 0 = 255
    · obtain ⟨q, rfl⟩ : ∃ q, E = q + 1 := ⟨E - 1, by omega⟩
      have cx := HX.out q (by omega)
      have hv := hgo.2
      rw [Nat.add_sub_cancel] at hv
      rw [hv] at cx
      replace cx : wr.cell? ⟨b, off + q, none⟩ = some (.int .u8 255) := cx
      have HE2 := Lib.hid (show ∀ i, q ≤ i → i < n → (sectorB hd R m).getD i 0 = 255 from fun i h1 h2 => by
        by_cases he : i = q
        · rw [he]; exact hv
        · exact HE.out i (by omega) h2)
      clear hv hgo
      have g0 : (0 : Int) < ((q + 1 : Nat) : Int) := by omega
      have g1 : ((q + 1 : Nat) : Int) - 1 = (q : Int) := by omega
      have g2 : (q : Int) < n := by omega
      generalize ((q + 1 : Nat) : Int) = e at *
      go_wp2_with fail
      go_roundg q
      case measure => omega
      case rel => exact ⟨q, by omega, by omega, rfl, HE2, HB⟩
    · have hX : E = 0 ∨ (sectorB hd R m).getD (E - 1) 0 ≠ 255 := by
        by_cases h : E = 0
        · exact .inl h
        · exact .inr fun h2 => hgo ⟨by omega, h2⟩
      have hnE := at_end h12 (show E ≤ 12 + total R + m by have := HL.out; omega) hX
      have HNE := Lib.hid hnE
      have HXE := Lib.hid hX
      clear hnE hX hgo
      have h0 : 0 < E := by
        rcases Nat.eq_zero_or_pos E with h0 | h0
        · exact absurd (show hd.getD i8 0 = 255 by rw [← sector_head h12 R m i8 hi8]; exact HE.out i8 (by omega) (by omega)) H8.out
        · exact h0
      · have H0 := Lib.hid h0
        have g0 : (0 : Int) < (E : Int) := by omega
        have cx := HX.out (E - 1) (by omega)
        have hv : ((((sectorB hd R m).getD (E - 1) 0).toNat : Int) == 255) = false := by
          refine eqi_no fun h2 => ?_
          rcases HXE.out with h3 | h3
          · omega
          · refine h3 (UInt8.toNat_inj.1 ?_)
            show ((sectorB hd R m).getD (E - 1) 0).toNat = 255
            omega
        generalize (((sectorB hd R m).getD (E - 1) 0).toNat : Int) = y at cx hv
        have g1 : (E : Int) - 1 = ((E - 1 : Nat) : Int) := by omega
        have g2 : ((E - 1 : Nat) : Int) < n := by omega
        generalize E - 1 = q at cx g1 g2
        clear h0
        go_wp2_with fail
        clear g0 g1 g2 cx hv
        go_step3
        go_wp2_with fail
        go_loopg [5, 6, 7] R.length (fun gn out cl p wx => ∃ (j : Nat) (F : List FV), j ≤ R.length ∧ gn = R.length - j ∧ cl = .bool false ∧ p = .int .i64 ((12 + total (R.take j) : Nat) : Int) ∧ Hid (Founds wx w.heap.size out j F) ∧ Hid (Tells 12 (R.take j) F) ∧ Hid (Below w.heap.size w wx))
        case atStart => exact ⟨0, [], by omega, by omega, rfl, rfl, Lib.hid (Founds.nil _ _), Lib.hid trivial, HB⟩
        case round =>
          obtain ⟨j, F, hj, rfl, rfl, rfl, HF, HT, HB2⟩ := hrel
          by_cases hlt : j < R.length
          · have hat := at_lt h12 (fun i h1 h2 => HE.out i h1 (by have := HL.out; omega)) hlt
            have hok := HOK.out _ (List.getElem_mem hlt)
            have htl := total_le R j hlt
            have hLn := HL.out
            obtain ⟨_, _, e0, SD⟩ := (HS.out.below HB2.out).drop (j := 12 + total (R.take j)) (by omega)
            cases e0
            rw [sector_drop h12 R m j hlt] at SD
            have hP := Parse_rec _ _ (n - (12 + total (R.take j))) (cap - (12 + total (R.take j))) _ _ _ _ _ _ _ SD (by omega) (by omega) hok.1 hok.2
            have hl0 : (11 + ((R[j]).kb.length : Int) + ((R[j]).bs.length : Int) + 5) = (((R[j]).len : Nat) : Int) := by unfold RV.len; omega
            rw [hl0] at hP
            have hnx : 12 + total (R.take j) + (R[j]).len = 12 + total (R.take (j + 1)) := by rw [take_total R j hlt]; omega
            have hlen2 : (R[j]).len ≤ 65536 := by omega
            have HT1 := Lib.hid (fun f (hf : (R[j]).told (12 + total (R.take j)) f) => (show Tells 12 (R.take (j + 1)) (F ++ [f]) by
              rw [List.take_add_one, List.getElem?_eq_getElem hlt]; exact HT.out.snoc hf))
            have HNX := Lib.hid hnx
            have hp1 : 12 + total (R.take j) < n := by omega
            have HPE := Lib.hid (show 12 + total (R.take j) ≤ 65536 by omega)
            clear SD hl0 hnx hok htl hLn
            generalize R[j] = r at *
            generalize 12 + total (R.take j) = p at *
            have HP := Lib.hid hP
            clear hP
            have i0 : (0 : Int) ≤ p := by omega
            have i1 : (p : Int) < E := by omega
            have i2 : (p : Int) ≤ n := by omega
            have i3 : ¬ cap = p := by omega
            have i4 : (p : Int) ≤ cap := by omega
            have i5 : (n : Int) ≤ cap := by omega
            have i6 : p ≤ 65536 := by omega
            go_wp2_with fail
            refine HP.out.mono ?_
            rintro e w4 ⟨a4, m4, c4, rfl, hown, hb4⟩
            obtain ⟨S4, hc4⟩ := Sl.ofOwnS hown
            have F4 := HF.out.below hb4
            have BL4 := blob_own (B := w.heap.size) hown ⟨p, r.u.toNat, r.t, r.kb, a4, m4, c4, r.c, r.bs⟩ rfl rfl
            have HBW := HB2.out.trans (hb4.mono HB2.out.size)
            clear hown hb4 HP
            have H4 := Lib.hid (And.intro S4 (And.intro hc4 (And.intro F4 (And.intro BL4 HBW))))
            clear S4 hc4 F4 BL4 HBW
            unfold recL recV
            have hW := (Below.refl w4.heap.size w4).alloc (Nat.le_refl _) (.cells #[.int .i64 (r.u.toNat : Int), .int .u32 (r.t : Int), .string ⟨r.kb.toArray⟩, .slice a4 m4 c4, .int .i64 (r.c : Int)] 28)
            have HW := Lib.hid (And.intro (H4.out.1.below hW) (And.intro (H4.out.2.2.1.below hW) (And.intro (H4.out.2.2.2.1.below hW) (H4.out.2.2.2.2.trans (hW.mono H4.out.2.2.2.2.size)))))
            have HM4 := Lib.hid H4.out.2.1
            clear hW H4
            go_wp2_with (at_builtin; first
              | (refine wpList_found2 rfl _ _ rfl w.heap.size _ _ F rfl HW.out.2.1 ⟨p, r.u.toNat, r.t, r.kb, a4, m4, c4, r.c, r.bs⟩ 1 _ rfl (by simp) HW.out.1 HM4.out HW.out.2.2.1 (by have h1 := HRl.out; have h2 := HL.out; omega) HW.out.2.2.2.size ?_; intro v7 w7 hF7 hb7; have HF7 := Lib.hid hF7; have HB7 := Lib.hid (HW.out.2.2.2.trans (hb7.mono (Nat.le_refl _))); clear hF7 hb7))
            go_roundg (R.length - (j + 1))
            case measure => omega
            case rel => exact ⟨j + 1, F ++ [_], by omega, rfl, rfl, by rw [← HNX.out]; go_num, HF7, Lib.hid (HT1.out _ ⟨rfl, rfl, rfl, rfl, rfl, rfl⟩), HB7⟩
          · obtain rfl : j = R.length := by omega
            rw [List.take_length]
            have HT2 := Lib.hid (show Tells 12 R F by have h := HT.out; rw [List.take_length] at h; exact h)
            have hne : ¬ ((12 + total R : Nat) : Int) < E := by have := HNE.out; omega
            have HQ := Lib.hid (show ScanOk R w (.returned (.tuple #[_, .int .i64 ((12 + total R : Nat) : Int), .bool false])) wr from ⟨_, F, rfl, HF.out, HT2.out, HB2.out⟩)
            generalize 12 + total R = p at hne HQ ⊢
            go_wp2_with fail
            try rw [Exit.noGoto_ret]
            go_ret3
            exact HQ.out
end Go.Proofs.Ytechkdnoekffmaa
