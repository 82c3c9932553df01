/- scan: Scan of whole records. No condition. -/
import Derived.Test.YtechkdnoekffmaaQ08ScanTorn
import Derived.WalkMore
import Derived.OwnWalk
import Derived.Test.YtechkdnoekffmaaQ00ScanTorn
import Derived.Lib.SmallJoins
import Derived.OpenShut
import Derived.Test.YtechkdnoekffmaaQ02ScanTorn
namespace Go.Proofs.Ytechkdnoekffmaa
open Go.ChangeShapes Go.WideShapes Go.ChangeAt Go.RowKit
/-- What Scan returns of them. -/
def ScanOk (R : List RV) (w : World) (e : Ending) (w' : World) : Prop :=
  ∃ v F, e = .returned (.tuple #[v, .int .i64 ((12 + total R : Nat) : Int), .bool false]) ∧ Founds w' w.heap.size v R.length F ∧ Tells 12 R F ∧ Below w.heap.size w w'
theorem len_le_total (R : List RV) : R.length ≤ total R := by
  induction R with
  | nil => simp [total]
  | cons r R ih => simp [total, RV.len]; omega
theorem blob_own {w : World} {base B : Nat} {a : Option Addr} {m c : Nat} {xs : List Value} (h : w.ownsRow base 5 1 (.slice a m c) m xs) (f : FV) (hfa : f.a = a) (hfn : f.n = m) : BlobAt w B f := by
  intro hn
  rcases h.2 with ⟨h1, h2⟩ | ⟨g, cap, cur, hv, hB, hg, _⟩
  · omega
  · cases hv
    exact ⟨g, 0, hfa, .inr ⟨cur, _, hg⟩⟩
theorem sector_head {hd : List UInt8} (h : hd.length = 12) (R : List RV) (m i : Nat) (hi : i < 12) : (sectorB hd R m).getD i 0 = hd.getD i 0 := by
  unfold sectorB
  rw [List.getD_eq_getElem?_getD, List.getD_eq_getElem?_getD, List.append_assoc, List.getElem?_append_left (by omega)]
theorem wpList_found2 {w : World} {ops : Array Oper} {rest : List Oper} {o : Oper} {a : Act} {Q : Exit → Act → World → Prop} (hgd : Region.wanted o (yielded ops a.tmps) = true) (s x : Operand)
    (ho : o.op = .call { callee := .builtin .append, args := #[s, x], argTypes := #[25, 25] })
    (B : Nat) (v : Value) (k : Nat) (F : List FV) (hv : a.eval s = v) (hF : Founds w B v k F) (f : FV) (c : Nat) (sz : Nat) (hy : a.eval x = .slice (some ⟨sz, 0, none⟩) 1 c) (hsz : w.heap.size = sz)
    (hsl : Sl encB w f.a f.n f.bb) (hcap : f.n ≤ f.cap) (hbl : BlobAt w B f) (hk : k ≤ 65536) (hB : B ≤ w.heap.size)
    (h : ∀ v' w', Founds w' B v' (k + 1) (F ++ [f]) → Below B w w' → wpList Try.prog ops Q rest (a.put o.dst v') w') : wpList Try.prog ops Q (o :: rest) a (w.alloc (.cells f.cells.toArray 31)) := by
  subst hsz
  exact wpList_found hgd s x ho B v k F hv hF f c hy hsl hcap hbl hk hB h
set_option maxRecDepth 100000 in
set_option maxHeartbeats 8000000 in
theorem Scan_whole (w : World) (a : Option Addr) (n cap : Nat) (hd : List UInt8) (R : List RV) (m : Nat) (h12 : hd.length = 12) (hs : Sl encB w a n (sectorB hd R m)) (hn : n ≤ 65536) (hcap : n ≤ cap) (hok : ∀ r ∈ R, r.ok) (i8 : Nat) (hi8 : i8 < 12) (h8 : hd.getD i8 0 ≠ 255) :
    Calls Try.prog 8 #[.slice a n cap] w (ScanOk R w) := by
  have hlen := hs.1
  rw [sectorB_length h12] at hlen
  have hRl := len_le_total R
  obtain ⟨b, off, rfl, hblt, hc⟩ := row_cells hs (by omega)
  have HC := Lib.hid hc
  have HS := Lib.hid hs
  have HOK := Lib.hid hok
  have HL := Lib.hid hlen
  have hn12 : 12 ≤ n := by omega
  have n0 : (12 : Int) ≤ n := by omega
  have z12 : ¬ (n : Int) < 12 := by omega
  have HRl := Lib.hid hRl
  have H8 := Lib.hid h8
  clear hc hs hok hlen hRl h8
  go_enter Try.func8, Try.ntmps8
  go_wp2_with fail
  go_step3
  go_wp2_with fail
  go_loopg [8] n (fun gn e wr => ∃ E : Nat, E ≤ n ∧ gn = 0 + E ∧ e = .int .i64 E ∧ Hid (∀ i, E ≤ i → i < n → (sectorB hd R m).getD i 0 = 255) ∧ Hid (Below w.heap.size w wr))
  case atStart => exact ⟨n, by omega, by omega, by go_num, Lib.hid (fun i h1 h2 => by omega), Lib.hid (Below.refl _ _)⟩
  case round =>
    obtain ⟨E, hE, rfl, rfl, HE, HB⟩ := hrel
    have HX := Lib.hid (show ∀ i, i < n → wr.cell? ⟨b, off + i, none⟩ = some (.int .u8 (((sectorB hd R m).getD i 0).toNat : Int)) from fun i hi => by rw [HB.out.cell hblt]; exact HC.out i hi)
    by_cases hgo : 0 < E ∧ (sectorB hd R m).getD (E - 1) 0 = 255
    · obtain ⟨q, rfl⟩ : ∃ q, E = q + 1 := ⟨E - 1, by omega⟩
      have cx := HX.out q (by omega)
      have hv := hgo.2
      rw [Nat.add_sub_cancel] at hv
      rw [hv] at cx
      replace cx : wr.cell? ⟨b, off + q, none⟩ = some (.int .u8 255) := cx
      have HE2 := Lib.hid (show ∀ i, q ≤ i → i < n → (sectorB hd R m).getD i 0 = 255 from fun i h1 h2 => by
        by_cases he : i = q
        · rw [he]; exact hv
        · exact HE.out i (by omega) h2)
      clear hv hgo
      have g0 : (0 : Int) < ((q + 1 : Nat) : Int) := by omega
      have g1 : ((q + 1 : Nat) : Int) - 1 = (q : Int) := by omega
      have g2 : (q : Int) < n := by omega
      generalize ((q + 1 : Nat) : Int) = e at *
      go_wp2_with fail
      go_roundg q
      case measure => omega
      case rel => exact ⟨q, by omega, by omega, rfl, HE2, HB⟩
    · have hX : E = 0 ∨ (sectorB hd R m).getD (E - 1) 0 ≠ 255 := by
        by_cases h : E = 0
        · exact .inl h
        · exact .inr fun h2 => hgo ⟨by omega, h2⟩
      have hnE := at_end h12 (show E ≤ 12 + total R + m by have := HL.out; omega) hX
      have HNE := Lib.hid hnE
      have HXE := Lib.hid hX
      clear hnE hX hgo
      have h0 : 0 < E := by
        rcases Nat.eq_zero_or_pos E with h0 | h0
        · exact absurd (show hd.getD i8 0 = 255 by rw [← sector_head h12 R m i8 hi8]; exact HE.out i8 (by omega) (by omega)) H8.out
        · exact h0
      · have H0 := Lib.hid h0
        have g0 : (0 : Int) < (E : Int) := by omega
        have cx := HX.out (E - 1) (by omega)
        have hv : ((((sectorB hd R m).getD (E - 1) 0).toNat : Int) == 255) = false := by
          refine eqi_no fun h2 => ?_
          rcases HXE.out with h3 | h3
          · omega
          · refine h3 (UInt8.toNat_inj.1 ?_)
            show ((sectorB hd R m).getD (E - 1) 0).toNat = 255
            omega
        generalize (((sectorB hd R m).getD (E - 1) 0).toNat : Int) = y at cx hv
        have g1 : (E : Int) - 1 = ((E - 1 : Nat) : Int) := by omega
        have g2 : ((E - 1 : Nat) : Int) < n := by omega
        generalize E - 1 = q at cx g1 g2
        clear h0
        go_wp2_with fail
        clear g0 g1 g2 cx hv
        go_step3
        go_wp2_with fail
        go_loopg [5, 6, 7] R.length (fun gn out cl p wx => ∃ (j : Nat) (F : List FV), j ≤ R.length ∧ gn = R.length - j ∧ cl = .bool false ∧ p = .int .i64 ((12 + total (R.take j) : Nat) : Int) ∧ Hid (Founds wx w.heap.size out j F) ∧ Hid (Tells 12 (R.take j) F) ∧ Hid (Below w.heap.size w wx))
        case atStart => exact ⟨0, [], by omega, by omega, rfl, rfl, Lib.hid (Founds.nil _ _), Lib.hid trivial, HB⟩
        case round =>
          obtain ⟨j, F, hj, rfl, rfl, rfl, HF, HT, HB2⟩ := hrel
          by_cases hlt : j < R.length
          · have hat := at_lt h12 (fun i h1 h2 => HE.out i h1 (by have := HL.out; omega)) hlt
            have hok := HOK.out _ (List.getElem_mem hlt)
            have htl := total_le R j hlt
            have hLn := HL.out
            obtain ⟨_, _, e0, SD⟩ := (HS.out.below HB2.out).drop (j := 12 + total (R.take j)) (by omega)
            cases e0
            rw [sector_drop h12 R m j hlt] at SD
            have hP := Parse_rec _ _ (n - (12 + total (R.take j))) (cap - (12 + total (R.take j))) _ _ _ _ _ _ _ SD (by omega) (by omega) hok.1 hok.2
            have hl0 : (11 + ((R[j]).kb.length : Int) + ((R[j]).bs.length : Int) + 5) = (((R[j]).len : Nat) : Int) := by unfold RV.len; omega
            rw [hl0] at hP
            have hnx : 12 + total (R.take j) + (R[j]).len = 12 + total (R.take (j + 1)) := by rw [take_total R j hlt]; omega
            have hlen2 : (R[j]).len ≤ 65536 := by omega
            have HT1 := Lib.hid (fun f (hf : (R[j]).told (12 + total (R.take j)) f) => (show Tells 12 (R.take (j + 1)) (F ++ [f]) by
              rw [List.take_add_one, List.getElem?_eq_getElem hlt]; exact HT.out.snoc hf))
            have HNX := Lib.hid hnx
            have hp1 : 12 + total (R.take j) < n := by omega
            have HPE := Lib.hid (show 12 + total (R.take j) ≤ 65536 by omega)
            clear SD hl0 hnx hok htl hLn
            generalize R[j] = r at *
            generalize 12 + total (R.take j) = p at *
            have HP := Lib.hid hP
            clear hP
            have i0 : (0 : Int) ≤ p := by omega
            have i1 : (p : Int) < E := by omega
            have i2 : (p : Int) ≤ n := by omega
            have i3 : ¬ cap = p := by omega
            have i4 : (p : Int) ≤ cap := by omega
            have i5 : (n : Int) ≤ cap := by omega
            have i6 : p ≤ 65536 := by omega
            go_wp2_with fail
            refine HP.out.mono ?_
            rintro e w4 ⟨a4, m4, c4, rfl, hown, hb4⟩
            obtain ⟨S4, hc4⟩ := Sl.ofOwnS hown
            have F4 := HF.out.below hb4
            have BL4 := blob_own (B := w.heap.size) hown ⟨p, r.u.toNat, r.t, r.kb, a4, m4, c4, r.c, r.bs⟩ rfl rfl
            have HBW := HB2.out.trans (hb4.mono HB2.out.size)
            clear hown hb4 HP
            have H4 := Lib.hid (And.intro S4 (And.intro hc4 (And.intro F4 (And.intro BL4 HBW))))
            clear S4 hc4 F4 BL4 HBW
            unfold recL recV
            have hW := (Below.refl w4.heap.size w4).alloc (Nat.le_refl _) (.cells #[.int .i64 (r.u.toNat : Int), .int .u32 (r.t : Int), .string ⟨r.kb.toArray⟩, .slice a4 m4 c4, .int .i64 (r.c : Int)] 28)
            have HW := Lib.hid (And.intro (H4.out.1.below hW) (And.intro (H4.out.2.2.1.below hW) (And.intro (H4.out.2.2.2.1.below hW) (H4.out.2.2.2.2.trans (hW.mono H4.out.2.2.2.2.size)))))
            have HM4 := Lib.hid H4.out.2.1
            clear hW H4
            go_wp2_with (at_builtin; first
              | (refine wpList_found2 rfl _ _ rfl w.heap.size _ _ F rfl HW.out.2.1 ⟨p, r.u.toNat, r.t, r.kb, a4, m4, c4, r.c, r.bs⟩ 1 _ rfl (by simp) HW.out.1 HM4.out HW.out.2.2.1 (by have h1 := HRl.out; have h2 := HL.out; omega) HW.out.2.2.2.size ?_; intro v7 w7 hF7 hb7; have HF7 := Lib.hid hF7; have HB7 := Lib.hid (HW.out.2.2.2.trans (hb7.mono (Nat.le_refl _))); clear hF7 hb7))
            go_roundg (R.length - (j + 1))
            case measure => omega
            case rel => exact ⟨j + 1, F ++ [_], by omega, rfl, rfl, by rw [← HNX.out]; go_num, HF7, Lib.hid (HT1.out _ ⟨rfl, rfl, rfl, rfl, rfl, rfl⟩), HB7⟩
          · obtain rfl : j = R.length := by omega
            rw [List.take_length]
            have HT2 := Lib.hid (show Tells 12 R F by have h := HT.out; rw [List.take_length] at h; exact h)
            have hne : ¬ ((12 + total R : Nat) : Int) < E := by have := HNE.out; omega
            have HQ := Lib.hid (show ScanOk R w (.returned (.tuple #[_, .int .i64 ((12 + total R : Nat) : Int), .bool false])) wr from ⟨_, F, rfl, HF.out, HT2.out, HB2.out⟩)
            generalize 12 + total R = p at hne HQ ⊢
            go_wp2_with fail
            try rw [Exit.noGoto_ret]
            go_ret3
            exact HQ.out
end Go.Proofs.Ytechkdnoekffmaa
/- scan: a sector of the law's. No condition. -/
namespace Go.Proofs.Ytechkdnoekffmaa
open Go.ChangeShapes Go.WideShapes Go.ChangeAt Go.RowKit
def head6 (s : Nat) : List UInt8 := [67, 66] ++ putB s 4
def headB (s : Nat) : List UInt8 := head6 s ++ putB (crcN (head6 s)) 2
theorem head6_length (s : Nat) : (head6 s).length = 6 := by simp [head6, putB_length]
theorem headB_length (s : Nat) : (headB s).length = 8 := by simp [headB, head6_length, putB_length]
set_option maxRecDepth 100000 in
set_option maxHeartbeats 1000000 in
theorem refBytes_any (w : World) (s : Nat) (hs : s < 4294967296) : Calls Try.prog 16 #[.int .u32 s] w (OwnRet encB 5 w.heap.size w (headB s)) := by
  have kc := fun (w : World) (C : Array Value) (n c : Nat) => Lib.run_convert_bytes_const (P := Try.prog) w 24 5 C n c Try.underlying24 Try.underlying5
  go_enter Try.func16, Try.ntmps16
  go_wp2_with fail
  have H1 := Lib.hid ((Below.refl w.heap.size w).alloc (Nat.le_refl _) (Obj.cells #[.int .u8 67, .int .u8 66] 5 (2, 3)))
  have HS1 := Lib.hid (Sl.lit (enc := encB) (n := 2) (xs := [67, 66]) (heap_alloc_last w (Obj.cells #[.int .u8 67, .int .u8 66] 5 (2, 3))) rfl rfl)
  refine (refPut_any _ _ 2 2 [67, 66] s 4 HS1.out (by decide) (by omega) (by decide) (by decide)).mono ?_
  clear kc
  rintro e w2 ⟨v2, m2, rfl, hown2, hb2⟩
  rw [show [67, 66] ++ putB s 4 = head6 s from rfl] at hown2
  obtain ⟨a2, cap2, rfl, hsl2, hc2⟩ := Sl.ofOwn hown2
  have hm2 := hsl2.1
  rw [head6_length] at hm2
  subst hm2
  have H2 := Lib.hid (H1.out.trans (hb2.mono H1.out.size))
  have HS2 := Lib.hid hsl2
  clear hown2 hsl2 hb2
  go_wp2_with fail
  refine (refSum16_any _ _ _ _ (head6 s) HS2.out.bs (by decide)).mono ?_
  rw [ref_crcN]
  rintro e w3 ⟨rfl, rfl⟩
  have hcl := crcN_lt (head6 s)
  obtain ⟨c, hcc⟩ : ∃ c, c = crcN (head6 s) := ⟨_, rfl⟩
  rw [← hcc] at hcl ⊢
  have HC := Lib.hid hcc
  clear hcc
  go_wp2_with fail
  refine (refPut_any _ _ 6 cap2 (head6 s) c 2 HS2.out (by decide) (by omega) (by decide) (by decide)).mono ?_
  rintro e w4 ⟨v4, m4, rfl, hown4, hb4⟩
  rw [HC.out] at hown4
  have HO := Lib.hid (own_mono hown4 H2.out.size)
  have H4 := Lib.hid (H2.out.trans (hb4.mono H2.out.size))
  clear hown4 hb4
  go_wp2
  go_ret
  exact ⟨_, _, rfl, HO.out, H4.out⟩
/-- A header. -/
def hdB : List UInt8 := headB 3 ++ [0, 255, 255, 255]
theorem hdB_length : hdB.length = 12 := by simp [hdB, headB_length]
theorem hdB_eight : hdB.getD 8 0 ≠ 255 := by
  unfold hdB
  rw [List.getD_eq_getElem?_getD, List.getElem?_append_right (by rw [headB_length]; omega), headB_length]
  decide
set_option maxRecDepth 100000 in
set_option maxHeartbeats 2000000 in
theorem sector_own (w : World) (a : Option Addr) (n cap : Nat) (bs : List UInt8) (hs : Sl encB w a n bs) (hn : n ≤ 65536) :
    Calls Try.prog 9 #[.slice a n cap] w (fun e w' => ∃ v, e = .returned v ∧ w'.ownsRow w.heap.size 5 1 v (12 + n) ((hdB ++ bs).map encB) ∧ Below w.heap.size w w') := by
  have HS := Lib.hid hs
  have hl := hs.1
  have HL := Lib.hid hl
  clear hs hl
  go_enter Try.func9, Try.ntmps9
  go_wp2_with fail
  refine (refBytes_any w 3 (by decide)).mono ?_
  rintro e w1 ⟨v1, m1, rfl, hown1, hb1⟩
  obtain rfl : m1 = 8 := by have h := hown1.1; rw [List.length_map, headB_length] at h; omega
  have HO1 := Lib.hid hown1
  have HB1 := Lib.hid hb1
  clear hown1 hb1
  go_wp2_with (at_builtin; first
    | (refine wpList_app_lit oneB rfl _ _ rfl w.heap.size _ 8 _ rfl HO1.out _ 4 _ rfl rfl rfl (by omega) (by unfold maxLen; omega) HB1.out.size ?_; intro v2 w2 hown2 hg2 hb2; have HO2 := Lib.hid hown2; have HB2 := Lib.hid (HB1.out.trans (hb2.mono (Nat.le_refl _))); clear hown2 hg2 hb2 HO1)
    | (refine wpList_app1 oneB rfl _ _ _ rfl w.heap.size _ _ _ rfl HO2.out _ _ _ rfl ((HS.out.below HB2.out).src encB_cell Try.underlying24 _) (by omega) (by unfold maxLen; omega) HB2.out.size ?_; intro v3 w3 hown3 hg3 hb3; have HO3 := Lib.hid hown3; have HB3 := Lib.hid (HB2.out.trans hb3); clear hown3 hg3 hb3))
  go_ret
  have h3 : w3.ownsRow w.heap.size 5 1 v3 (12 + n) ((hdB ++ bs).map encB) := by
    have h := HO3.out
    unfold hdB
    rw [List.map_append, List.map_append]
    exact h
  exact ⟨v3, rfl, h3, HB3.out⟩
theorem sector_any (w : World) (a : Option Addr) (n cap : Nat) (bs : List UInt8) (hs : Sl encB w a n bs) (hn : n ≤ 65536) :
    Calls Try.prog 9 #[.slice a n cap] w (fun e w' => ∃ a' c', e = .returned (.slice a' (12 + n) c') ∧ Sl encB w' a' (12 + n) (hdB ++ bs) ∧ 12 + n ≤ c' ∧ Below w.heap.size w w') :=
  (sector_own w a n cap bs hs hn).mono fun e w' ⟨v, he, ho, hb⟩ => by
    obtain ⟨a', c', rfl, hsl, hc⟩ := Sl.ofOwn ho
    exact ⟨a', c', he, hsl, hc, hb⟩
theorem Founds.slice {w : World} {B : Nat} {v : Value} {k : Nat} {F : List FV} (h : Founds w B v k F) : ∃ a c, v = .slice a k c := by
  rcases h.own.2 with ⟨rfl, h0⟩ | ⟨g, cap, cur, rfl, _⟩
  · exact ⟨none, 0, by rw [h0]⟩
  · exact ⟨_, _, rfl⟩
end Go.Proofs.Ytechkdnoekffmaa
/- scan: the law's fixed calls. No condition. -/
namespace Go.Proofs.Ytechkdnoekffmaa
open Go.ChangeShapes Go.WideShapes Go.ChangeAt Go.RowKit
def fixR : RV := ⟨1, 2, [97], [], 0⟩
theorem fixR_sector : hdB ++ (recB 1 2 [97] [] 0 ++ [0]) = sectorB hdB [fixR] 0 := by unfold sectorB RV.bytes fixR; simp
theorem nil_sector : hdB ++ [255, 255] = sectorB hdB [] 2 := by unfold sectorB; simp [List.replicate]
set_option maxRecDepth 100000 in
set_option maxHeartbeats 4000000 in
theorem fixed06 (w : World) : Calls Try.prog 5 #[] w fun e w' => e = .returned (.bool true) ∧ Below w.heap.size w w' := by
  go_enter Try.func5, Try.ntmps5
  go_wp2_with fail
  have H0 := Lib.hid ((Below.refl w.heap.size w).alloc (Nat.le_refl _) (Obj.cells #[.int .u8 255, .int .u8 255] 5))
  have HS0 := Lib.hid (Sl.lit (enc := encB) (n := 2) (xs := [255, 255]) (heap_alloc_last w (Obj.cells #[.int .u8 255, .int .u8 255] 5)) rfl rfl)
  refine (sector_any _ _ 2 2 [255, 255] HS0.out (by decide)).mono ?_
  rintro e w1 ⟨a1, c1, rfl, hs1, hc1, hb1⟩
  rw [nil_sector] at hs1
  have H1 := Lib.hid (H0.out.trans (hb1.mono H0.out.size))
  have hP := Scan_whole w1 a1 14 c1 hdB [] 2 hdB_length hs1 (by decide) hc1 (fun r h => by cases h) 8 (by decide) hdB_eight
  clear hs1 hc1 hb1
  go_wp2_with fail
  refine hP.mono ?_
  clear hP
  rintro e w2 ⟨v2, F2, rfl, hF2, _, hb2⟩
  obtain ⟨a2, c2, rfl⟩ := hF2.slice
  have H2 := Lib.hid (H1.out.trans (hb2.mono H1.out.size))
  clear hF2 hb2
  rw [show ((12 + total ([] : List RV) : Nat) : Int) = 12 from rfl]
  go_wp2_with fail
  refine (refBytes5_any w2 1 2 [97] none 0 0 [] 0 (Sl.nil _ _) (by decide) (by decide)).mono ?_
  rintro e w3 ⟨a3, n3, c3, rfl, hs3, hc3, hb3⟩
  obtain rfl : n3 = 16 := by have h := hs3.1; rw [recB_length] at h; exact h.symm
  have H3 := Lib.hid (H2.out.trans (hb3.mono H2.out.size))
  have HS3 := Lib.hid hs3
  clear hs3 hc3 hb3
  go_wp2_with fail
  refine (sector_own w3 a3 16 c3 _ HS3.out (by decide)).mono ?_
  rintro e w4 ⟨v4, rfl, ho4, hb4⟩
  have HO4 := Lib.hid ho4
  have HB4 := Lib.hid hb4
  clear ho4 hb4
  go_wp2_with (at_builtin; first
    | (refine wpList_app_lit oneB rfl _ _ rfl w3.heap.size _ 28 _ rfl HO4.out _ 1 _ rfl rfl rfl (by omega) (by unfold maxLen; omega) HB4.out.size ?_; intro v5 w5 hown5 hg5 hb5; have HO5 := Lib.hid hown5; have HB5 := Lib.hid (H3.out.trans ((HB4.out.trans hb5).mono H3.out.size)); clear hown5 hg5 hb5 HO4))
  have h5 : w5.ownsRow w3.heap.size 5 1 v5 29 ((sectorB hdB [fixR] 0).map encB) := by
    rw [← fixR_sector, ← List.append_assoc, List.map_append]
    exact HO5.out
  obtain ⟨a5, c5, rfl, hs5, hc5⟩ := Sl.ofOwn h5
  refine (Scan_whole w5 a5 29 c5 hdB [fixR] 0 hdB_length hs5 (by decide) hc5 (fun r h => by
    obtain rfl := List.mem_singleton.1 h
    exact ⟨by decide, by decide⟩) 8 (by decide) hdB_eight).mono ?_
  clear h5 hs5 hc5
  rintro e w6 ⟨v6, F6, rfl, hF6, hT6, hb6⟩
  have H6 := Lib.hid (HB5.out.trans (hb6.mono HB5.out.size))
  obtain ⟨g6, c6, rfl, _, hc6, f, _, hf, p0, _⟩ := hF6.at 0 (by decide)
  have hp : f.pos = 12 := by
    cases F6 with
    | nil => simp at hf
    | cons f' F' => simp at hf; subst hf; exact hT6.1.1
  rw [hp] at p0
  clear hF6 hT6 hb6 hf hp
  rw [show ((12 + total [fixR] : Nat) : Int) = 29 from rfl]
  go_wp2_with fail
  go_ret
  exact ⟨rfl, H6.out⟩
end Go.Proofs.Ytechkdnoekffmaa
/- A record that came in. No condition. -/
namespace Go.Proofs.Ytechkdnoekffmaa
open Go.ChangeShapes Go.WideShapes Go.ChangeAt Go.RowKit Go.Joins Go.Deep
section
variable {H : Type} {enc : TypeId × Value → H} {w : World} {r : Reach} {b0 : Nat} {v : Value} {d : DataW H} {p : List MemPlace}
theorem row_of {fuel : Nat} {v : Value} {x : DataW H × List MemPlace} (hf : DataW.trod enc Try.prog w 0 (fun _ => true) true fuel 24 [v] = some x) : ∃ a n cap z, v = .slice a n cap ∧ IsRow .u8 w a n cap z := by
  rcases open_ints Try.underlying24 Try.underlying5 (by kernel_rfl) hf with ⟨hcs, _⟩ | ⟨x, l, c, zs, hcs, _, hl, hm, hz, _, hcell, hwz⟩
  · simp at hcs
    exact ⟨none, 0, 0, [], hcs, .inl ⟨rfl, rfl, rfl, rfl⟩⟩
  · simp at hcs
    exact ⟨_, _, _, zs, hcs, .inr ⟨_, rfl, hl, hm, by simpa using hz, hcell, hwz⟩⟩
theorem int_of {k : IntKind} {t : TypeId} {fuel : Nat} {v : Value} {x : DataW H × List MemPlace} (ht : Try.prog.underlying t = some (.int k)) (hf : DataW.trod enc Try.prog w 0 (fun _ => true) true fuel t [v] = some x) : ∃ n, v = .int k n ∧ (Lit.int k n).wf = true := by
  obtain ⟨n, hcs, _, hw⟩ := DataW.trod_int ht hf
  simp at hcs
  exact ⟨n, hcs, hw⟩
theorem str_of {t : TypeId} {fuel : Nat} {v : Value} {x : DataW H × List MemPlace} (ht : Try.prog.underlying t = some .string) (hf : DataW.trod enc Try.prog w 0 (fun _ => true) true fuel t [v] = some x) : ∃ s : ByteArray, v = .string s ∧ s.size ≤ maxLen := by
  obtain ⟨s, hcs, _, hw⟩ := DataW.trod_string ht hf
  simp at hcs
  exact ⟨s, hcs, hw⟩
theorem open_bytes (hv : Value.okWide Try.prog w r b0 24 v) (h : DataW.Trod enc Try.prog w 0 (fun _ => true) true 24 v d p) : ∃ a n cap z, v = .slice a n cap ∧ IsRow .u8 w a n cap z := by
  obtain ⟨a, n, cap, rfl⟩ := okWide_slice Try.underlying24 hv
  obtain ⟨fuel, hf⟩ := h
  exact row_of (by simpa [Value.cells] using hf)
theorem array5' {α : Type} {cs : Array α} (h : cs.size = 5) : ∃ c0 c1 c2 c3 c4, cs = #[c0, c1, c2, c3, c4] := by
  obtain ⟨l⟩ := cs
  match l, h with
  | [c0, c1, c2, c3, c4], _ => exact ⟨c0, c1, c2, c3, c4, rfl⟩
theorem open_rec (hv : Value.okWide Try.prog w r b0 28 v) (h : DataW.Trod enc Try.prog w 0 (fun _ => true) true 28 v d p) :
    ∃ k t ks a n cap z c, v = .agg #[.int .i64 k, .int .u32 t, .string ks, .slice a n cap, .int .i64 c] ∧ (Lit.int .i64 k).wf = true ∧ (Lit.int .u32 t).wf = true ∧ ks.size ≤ maxLen ∧ IsRow .u8 w a n cap z ∧ (Lit.int .i64 c).wf = true := by
  obtain ⟨cs, rfl, hsz⟩ := okWide_struct Try.underlying28 hv
  obtain ⟨c0, c1, c2, c3, c4, rfl⟩ := array5' (hsz.trans (show Try.prog.cellsOf 28 = 5 by kernel_rfl))
  obtain ⟨fuel, hf⟩ := h
  obtain ⟨xs, m, _, _, _, hlen, hg⟩ := DataW.trod_struct Try.underlying28 hf
  match xs, hlen with
  | [y0, y1, y2, y3, y4], _ =>
    have g0 : DataW.trod enc Try.prog w 0 (fun _ => true) true m 3 [c0] = some y0 := hg 0 _ rfl
    have g1 : DataW.trod enc Try.prog w 0 (fun _ => true) true m 26 [c1] = some y1 := hg 1 _ rfl
    have g2 : DataW.trod enc Try.prog w 0 (fun _ => true) true m 9 [c2] = some y2 := hg 2 _ rfl
    have g3 : DataW.trod enc Try.prog w 0 (fun _ => true) true m 24 [c3] = some y3 := hg 3 _ rfl
    have g4 : DataW.trod enc Try.prog w 0 (fun _ => true) true m 3 [c4] = some y4 := hg 4 _ rfl
    obtain ⟨k, rfl, hk⟩ := int_of Try.underlying3 g0
    obtain ⟨t, rfl, ht⟩ := int_of Try.underlying26 g1
    obtain ⟨ks, rfl, hks⟩ := str_of Try.underlying9 g2
    obtain ⟨a, n, cap, z, rfl, hr⟩ := row_of g3
    obtain ⟨c, rfl, hc⟩ := int_of Try.underlying3 g4
    exact ⟨k, t, ks, a, n, cap, z, c, rfl, hk, ht, hks, hr, hc⟩
end
end Go.Proofs.Ytechkdnoekffmaa
/- scan: records that came in. No condition. -/
namespace Go.Proofs.Ytechkdnoekffmaa
open Go.ChangeShapes Go.WideShapes Go.ChangeAt Go.RowKit Go.Joins Go.Deep
/-- Five cells that are a record. -/
structure RecAt (w : World) (b o : Nat) (k t : Int) (kb : List UInt8) (x : Option Addr) (m cm : Nat) (ds : List UInt8) (c : Int) : Prop where
  c0 : w.cell? ⟨b, o, none⟩ = some (.int .i64 k)
  c1 : w.cell? ⟨b, o + 1, none⟩ = some (.int .u32 t)
  c2 : w.cell? ⟨b, o + 2, none⟩ = some (.string ⟨kb.toArray⟩)
  c3 : w.cell? ⟨b, o + 3, none⟩ = some (.slice x m cm)
  c4 : w.cell? ⟨b, o + 4, none⟩ = some (.int .i64 c)
  kw : (Lit.int .i64 k).wf = true
  tw : (Lit.int .u32 t).wf = true
  cw : (Lit.int .i64 c).wf = true
  sl : Sl encB w x m ds
  mc : m ≤ cm
/-- A slice of n records. -/
def IsRecs (w : World) (a : Option Addr) (n cap : Nat) : Prop :=
  n ≤ cap ∧ n ≤ maxLen ∧ (0 < n → ∃ b off, a = some ⟨b, off, none⟩ ∧ b < w.heap.size ∧ ∀ i, i < n → ∃ k t kb x m cm ds c, RecAt w b (off + i * 5) k t kb x m cm ds c)
theorem RecAt.below {w w' : World} {b o : Nat} {k t : Int} {kb : List UInt8} {x : Option Addr} {m cm : Nat} {ds : List UInt8} {c : Int} (h : RecAt w b o k t kb x m cm ds c) (hb : Below w.heap.size w w') : RecAt w' b o k t kb x m cm ds c :=
  ⟨cell_below hb h.c0, cell_below hb h.c1, cell_below hb h.c2, cell_below hb h.c3, cell_below hb h.c4, h.kw, h.tw, h.cw, h.sl.below hb, h.mc⟩
section
variable {H : Type} {enc : TypeId × Value → H} {w : World} {r : Reach} {b0 : Nat} {v : Value} {d : DataW H} {p : List MemPlace}
theorem add_two (b off k j : Nat) : ((⟨b, off, none⟩ : Addr).add k).add j = ⟨b, off + k + j, none⟩ := by
  have h1 : ∀ (o k : Nat), (⟨b, o, none⟩ : Addr).add k = ⟨b, o + k, none⟩ := by intro o k; unfold Addr.add; split <;> simp_all
  rw [h1, h1]
theorem add_zero5 (x : Addr) : (x.add (0 * 5)).add 0 = x := by simp [Addr.add]
theorem cells_rec5 : Try.prog.cellsOf 28 = 5 := by kernel_rfl
theorem open_recs (hv : Value.okWide Try.prog w r b0 22 v) (h : DataW.Trod enc Try.prog w 0 (fun _ => true) true 22 v d p) : ∃ a n cap, v = .slice a n cap ∧ IsRecs w a n cap := by
  obtain ⟨a, n, cap, rfl⟩ := okWide_slice Try.underlying22 hv
  refine ⟨a, n, cap, rfl, ?_⟩
  obtain ⟨fuel, hf⟩ := h
  rcases open_slice Try.underlying22 hf with ⟨hcs, _⟩ | ⟨x, len, c, m, n', D, Pl, hcs, _, hl, hm, hmm, _, hi⟩
  · simp [Value.cells] at hcs
    obtain ⟨rfl, rfl, rfl⟩ := hcs
    exact ⟨by omega, by unfold maxLen; omega, fun h => by omega⟩
  · simp [Value.cells] at hcs
    obtain ⟨rfl, rfl, rfl⟩ := hcs
    simp only [if_true] at hmm
    subst hmm
    refine ⟨hl, by omega, fun hn => ?_⟩
    have hsp : x.spot = none := by
      obtain ⟨cs', hc, ht⟩ := hi 0 (by omega)
      rw [cells_rec5] at hc
      obtain ⟨_, hcl, hat⟩ := World.cells?_some hc
      match cs', hcl with
      | [c0, c1, c2, c3, c4], _ =>
        have q0 := hat 0 (by omega)
        rw [add_zero5] at q0
        exact World.cell?_spot q0
    obtain ⟨b, off, spot⟩ := x
    simp only at hsp
    subst hsp
    have key : ∀ i, i < n → ∃ k t kb x m cm ds c, RecAt w b (off + i * 5) k t kb x m cm ds c := by
      intro i hin
      obtain ⟨cs', hc, ht⟩ := hi i (by omega)
      rw [cells_rec5] at hc
      obtain ⟨_, hcl, hat⟩ := World.cells?_some hc
      match cs', hcl with
      | [c0, c1, c2, c3, c4], _ =>
        obtain ⟨xs, k, _, _, _, hlen, hg⟩ := DataW.trod_struct Try.underlying28 ht
        match xs, hlen with
        | [y0, y1, y2, y3, y4], _ =>
          have g0 : DataW.trod enc Try.prog w 0 (fun _ => true) true k 3 [c0] = some y0 := hg 0 _ rfl
          have g1 : DataW.trod enc Try.prog w 0 (fun _ => true) true k 26 [c1] = some y1 := hg 1 _ rfl
          have g2 : DataW.trod enc Try.prog w 0 (fun _ => true) true k 9 [c2] = some y2 := hg 2 _ rfl
          have g3 : DataW.trod enc Try.prog w 0 (fun _ => true) true k 24 [c3] = some y3 := hg 3 _ rfl
          have g4 : DataW.trod enc Try.prog w 0 (fun _ => true) true k 3 [c4] = some y4 := hg 4 _ rfl
          obtain ⟨kd, e0, w0⟩ := int_of Try.underlying3 g0
          obtain ⟨tx, e1, w1⟩ := int_of Try.underlying26 g1
          obtain ⟨ks, e2, w2⟩ := str_of Try.underlying9 g2
          obtain ⟨ad, m, cm, z, e3, hr⟩ := row_of g3
          obtain ⟨ct, e4, w4⟩ := int_of Try.underlying3 g4
          have hcap := Row.cap hr
          obtain ⟨ds, hds, hml⟩ := Bs.ofRow hr
          have q0 := hat 0 (by omega)
          have q1 := hat 1 (by omega)
          have q2 := hat 2 (by omega)
          have q3 := hat 3 (by omega)
          have q4 := hat 4 (by omega)
          rw [add_two] at q0 q1 q2 q3 q4
          refine ⟨kd, tx, ks.data.toList, ad, m, cm, ds, ct, ⟨?_, ?_, ?_, ?_, ?_, w0, w1, w4, hds.sl, hcap⟩⟩
          · rw [Nat.add_zero] at q0; rw [q0, ← e0]; rfl
          · rw [q1, ← e1]; rfl
          · rw [q2, Array.toArray_toList, ← e2]; rfl
          · rw [q3, ← e3]; rfl
          · rw [q4, ← e4]; rfl
    obtain ⟨k, t, kb, x, m, cm, ds, c, hr⟩ := key 0 hn
    exact ⟨b, off, rfl, World.block_lt_of_cell? w _ hr.c0, key⟩
end
end Go.Proofs.Ytechkdnoekffmaa
/- scan: changes that came in. No condition. -/
namespace Go.Proofs.Ytechkdnoekffmaa
open Go.ChangeShapes Go.WideShapes Go.ChangeAt Go.RowKit Go.Joins Go.Deep
/-- Three cells that are a change. -/
structure ChAt (w : World) (b o : Nat) (del : Bool) (kb : List UInt8) (x : Option Addr) (m cm : Nat) (ds : List UInt8) : Prop where
  c0 : w.cell? ⟨b, o, none⟩ = some (.bool del)
  c1 : w.cell? ⟨b, o + 1, none⟩ = some (.string ⟨kb.toArray⟩)
  c2 : w.cell? ⟨b, o + 2, none⟩ = some (.slice x m cm)
  sl : Sl encB w x m ds
  mc : m ≤ cm
/-- A slice of n changes. -/
def IsChs (w : World) (a : Option Addr) (n cap : Nat) : Prop :=
  n ≤ cap ∧ n ≤ maxLen ∧ (0 < n → ∃ b off, a = some ⟨b, off, none⟩ ∧ b < w.heap.size ∧ ∀ i, i < n → ∃ del kb x m cm ds, ChAt w b (off + i * 3) del kb x m cm ds)
theorem ChAt.below {w w' : World} {b o : Nat} {del : Bool} {kb : List UInt8} {x : Option Addr} {m cm : Nat} {ds : List UInt8} (h : ChAt w b o del kb x m cm ds) (hb : Below w.heap.size w w') : ChAt w' b o del kb x m cm ds :=
  ⟨cell_below hb h.c0, cell_below hb h.c1, cell_below hb h.c2, h.sl.below hb, h.mc⟩
section
variable {H : Type} {enc : TypeId × Value → H} {w : World} {r : Reach} {b0 : Nat} {v : Value} {d : DataW H} {p : List MemPlace}
theorem add_zero3 (x : Addr) : (x.add (0 * 3)).add 0 = x := by simp [Addr.add]
theorem cells_ch3 : Try.prog.cellsOf 41 = 3 := by kernel_rfl
theorem bool_of {fuel : Nat} {v : Value} {x : DataW H × List MemPlace} (hf : DataW.trod enc Try.prog w 0 (fun _ => true) true fuel 4 [v] = some x) : ∃ b, v = .bool b := by
  obtain ⟨b, hcs, _⟩ := DataW.trod_bool Try.underlying4 hf
  simp at hcs
  exact ⟨b, hcs⟩
theorem open_changes (hv : Value.okWide Try.prog w r b0 38 v) (h : DataW.Trod enc Try.prog w 0 (fun _ => true) true 38 v d p) : ∃ a n cap, v = .slice a n cap ∧ IsChs w a n cap := by
  obtain ⟨a, n, cap, rfl⟩ := okWide_slice Try.underlying38 hv
  refine ⟨a, n, cap, rfl, ?_⟩
  obtain ⟨fuel, hf⟩ := h
  rcases open_slice Try.underlying38 hf with ⟨hcs, _⟩ | ⟨x, len, c, m, n', D, Pl, hcs, _, hl, hm, hmm, _, hi⟩
  · simp [Value.cells] at hcs
    obtain ⟨rfl, rfl, rfl⟩ := hcs
    exact ⟨by omega, by unfold maxLen; omega, fun h => by omega⟩
  · simp [Value.cells] at hcs
    obtain ⟨rfl, rfl, rfl⟩ := hcs
    simp only [if_true] at hmm
    subst hmm
    refine ⟨hl, by omega, fun hn => ?_⟩
    have hsp : x.spot = none := by
      obtain ⟨cs', hc, ht⟩ := hi 0 (by omega)
      rw [cells_ch3] at hc
      obtain ⟨_, hcl, hat⟩ := World.cells?_some hc
      match cs', hcl with
      | [c0, c1, c2], _ =>
        have q0 := hat 0 (by omega)
        rw [add_zero3] at q0
        exact World.cell?_spot q0
    obtain ⟨b, off, spot⟩ := x
    simp only at hsp
    subst hsp
    have key : ∀ i, i < n → ∃ del kb x m cm ds, ChAt w b (off + i * 3) del kb x m cm ds := by
      intro i hin
      obtain ⟨cs', hc, ht⟩ := hi i (by omega)
      rw [cells_ch3] at hc
      obtain ⟨_, hcl, hat⟩ := World.cells?_some hc
      match cs', hcl with
      | [c0, c1, c2], _ =>
        obtain ⟨xs, k, _, _, _, hlen, hg⟩ := DataW.trod_struct Try.underlying41 ht
        match xs, hlen with
        | [y0, y1, y2], _ =>
          have g0 : DataW.trod enc Try.prog w 0 (fun _ => true) true k 4 [c0] = some y0 := hg 0 _ rfl
          have g1 : DataW.trod enc Try.prog w 0 (fun _ => true) true k 9 [c1] = some y1 := hg 1 _ rfl
          have g2 : DataW.trod enc Try.prog w 0 (fun _ => true) true k 24 [c2] = some y2 := hg 2 _ rfl
          obtain ⟨del, e0⟩ := bool_of g0
          obtain ⟨ks, e1, w1⟩ := str_of Try.underlying9 g1
          obtain ⟨ad, m, cm, z, e2, hr⟩ := row_of g2
          have hcap := Row.cap hr
          obtain ⟨ds, hds, hml⟩ := Bs.ofRow hr
          have q0 := hat 0 (by omega)
          have q1 := hat 1 (by omega)
          have q2 := hat 2 (by omega)
          rw [add_two] at q0 q1 q2
          refine ⟨del, ks.data.toList, ad, m, cm, ds, ⟨?_, ?_, ?_, hds.sl, hcap⟩⟩
          · rw [Nat.add_zero] at q0; rw [q0, ← e0]; rfl
          · rw [q1, Array.toArray_toList, ← e1]; rfl
          · rw [q2, ← e2]; rfl
    obtain ⟨del, kb, x, m, cm, ds, hr⟩ := key 0 hn
    exact ⟨b, off, rfl, World.block_lt_of_cell? w _ hr.c0, key⟩
end
end Go.Proofs.Ytechkdnoekffmaa
/- Blocks of three cells. Over any program. -/
namespace Go.Proofs.Ytechkdnoekffmaa
open Go.ChangeShapes Go.WideShapes Go.ChangeAt Go.RowKit
structure Box3 (w w1 : World) (g : Nat) (x y z : Value) : Prop where
  c0 : w1.cell? ⟨g, 0, none⟩ = some x
  c1 : w1.cell? ⟨g, 1, none⟩ = some y
  c2 : w1.cell? ⟨g, 2, none⟩ = some z
  f0 : w1.frozen? ⟨g, 0, none⟩ = false
  f1 : w1.frozen? ⟨g, 1, none⟩ = false
  f2 : w1.frozen? ⟨g, 2, none⟩ = false
  lt : g < w1.heap.size
theorem Box3.of {w w1 : World} {g : Nat} {x y z : Value} {t : TypeId} (h : w.heap[g]? = some (.cells #[x, y, z] t)) (hb : Below w.heap.size w w1) : Box3 w w1 g x y z := by
  have hlt : g < w.heap.size := (Array.getElem?_eq_some_iff.1 h).1
  have hg : w1.heap[g]? = some (.cells #[x, y, z] t) := by rw [hb.block _ hlt]; exact h
  refine ⟨?_, ?_, ?_, ?_, ?_, ?_, (Array.getElem?_eq_some_iff.1 hg).1⟩
  · rw [cell_of_row w1 _ 0 _ _ _ hg]; rfl
  · rw [cell_of_row w1 _ 1 _ _ _ hg]; rfl
  · rw [cell_of_row w1 _ 2 _ _ _ hg]; rfl
  all_goals (unfold World.frozen?; rw [hg]; rfl)
theorem heap_set3 {w : World} {g : Nat} {cs : Array Value} {t : TypeId} {fr : Nat × Nat} (h : w.heap[g]? = some (.cells cs t fr)) (o : Nat) (v : Value) : (w.setCell ⟨g, o, none⟩ v).heap[g]? = some (.cells (cs.setIfInBounds o v) t fr) := by
  unfold World.setCell
  simp [Array.getElem?_modify, h]
/-- A block of three cells behind which the walk goes. -/
def Blk3 (w : World) (g : Nat) (x y z : Value) (t : TypeId) : Prop := w.heap[g]? = some (.cells #[x, y, z] t)
theorem Blk3.below {w w1 : World} {g : Nat} {x y z : Value} {t : TypeId} (h : Blk3 w g x y z t) (hb : Below w.heap.size w w1) : Blk3 w1 g x y z t := by
  unfold Blk3
  rw [hb.block _ (Array.getElem?_eq_some_iff.1 h).1]; exact h
theorem Blk3.box {w : World} {g : Nat} {x y z : Value} {t : TypeId} (h : Blk3 w g x y z t) : Box3 w w g x y z := Box3.of h (Below.refl _ _)
theorem Blk3.set {w : World} {g : Nat} {x y z x' y' z' : Value} {t : TypeId} (h : Blk3 w g x y z t) : Blk3 (((w.setCell ⟨g, 0, none⟩ x').setCell ⟨g, 1, none⟩ y').setCell ⟨g, 2, none⟩ z') g x' y' z' t :=
  heap_set3 (heap_set3 (heap_set3 h 0 x') 1 y') 2 z'
theorem keep33 (g : Nat) (w : World) (x y z : Value) : Below g w (((w.setCell ⟨g, 0, none⟩ x).setCell ⟨g, 1, none⟩ y).setCell ⟨g, 2, none⟩ z) :=
  (((Below.refl g w).setCell (p := ⟨g, 0, none⟩) (Nat.le_refl g) x).setCell (p := ⟨g, 1, none⟩) (Nat.le_refl g) y).setCell (p := ⟨g, 2, none⟩) (Nat.le_refl g) z
theorem Blk3.other {w : World} {g h o : Nat} {x y z v : Value} {t : TypeId} (k : Blk3 w g x y z t) (hne : g ≠ h) : Blk3 (w.setCell ⟨h, o, none⟩ v) g x y z t := by
  unfold Blk3 World.setCell
  have hne' : ¬ h = g := fun e => hne e.symm
  simp [Array.getElem?_modify, hne']
  exact k
theorem Blk3.belowB {w w1 : World} {B g : Nat} {x y z : Value} {t : TypeId} (h : Blk3 w g x y z t) (hb : Below B w w1) (hlt : g < B) : Blk3 w1 g x y z t := by
  unfold Blk3
  rw [hb.block _ hlt]; exact h
end Go.Proofs.Ytechkdnoekffmaa
