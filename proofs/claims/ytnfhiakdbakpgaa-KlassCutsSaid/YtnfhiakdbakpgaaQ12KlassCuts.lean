/- klass: slots and maps are written. No condition. -/
import Derived.Test.YtnfhiakdbakpgaaQ11KlassCuts
namespace Go.Proofs.Ytnfhiakdbakpgaa
open Go.ChangeShapes Go.WideShapes Go.ChangeAt Go.RowKit
/-- The byte of an int. -/
def u8N (n : Int) : UInt8 := UInt8.ofNat (n % 256).toNat
theorem u8N_wrap (n : Int) : IntKind.u8.wrap n = ((u8N n).toNat : Int) := by
  rw [IntKind.wrap_u8']
  unfold u8N
  rw [UInt8.toNat_ofNat']
  omega
def slotB (s : KS) : List UInt8 := u8N s.tag :: (if s.tag = 7 then z2 [s.a] else [])
def slotsB (l : List KS) : List UInt8 := z2 [(l.length : Int)] ++ l.flatMap slotB
def kmapB (p : KP) : List UInt8 := z2 [p.pl] ++ slotsB p.loc ++ slotsB p.stk
def mapsB (l : List KP) : List UInt8 := z2 [(l.length : Int)] ++ l.flatMap kmapB
theorem slotB_len (s : KS) : 1 ≤ (slotB s).length ∧ (slotB s).length ≤ 3 := by
  unfold slotB
  split <;> simp [z2_len]
theorem many_len (l : List KS) : l.length ≤ (l.flatMap slotB).length := by
  induction l with
  | nil => simp
  | cons x l ih => rw [List.flatMap_cons, List.length_append, List.length_cons]; have := slotB_len x; omega
set_option maxRecDepth 100000 in
set_option maxHeartbeats 8000000 in
theorem wslots_any (w : World) (g : Nat) (bs : List UInt8) {B : Nat} (h : WrB B w g bs) (a : Option Addr) (n cap : Nat) (l : List KS) (hs : Ss 2 KS.cells w a n l) (ho : Off1 a n g) (hlen : bs.length + (slotsB l).length ≤ 1048576) :
    Calls Try.prog 53 #[.pointer (some ⟨g, 0, none⟩), .slice a n cap] w (WRet g (bs ++ slotsB l) w) := by
  have hln : l.length = n := hs.1
  have hlen : bs.length + 2 + (l.flatMap slotB).length ≤ 1048576 := by unfold slotsB at hlen; rw [List.length_append, z2_len, List.length_cons, List.length_nil] at hlen; omega
  have hn : n ≤ 1048576 := by have := many_len l; omega
  have HS := Lib.hid hs
  have HLn := Lib.hid hln
  have HO := Lib.hid ho
  have HGL := Lib.hid h.lt
  have HFL := Lib.hid (flat_le slotB l)
  obtain ⟨T, hT⟩ : ∃ T, T = bs ++ slotsB l := ⟨_, rfl⟩
  rw [← hT]
  have HT := Lib.hid (show T = (bs ++ z2 [(n : Int)]) ++ l.flatMap slotB by rw [hT]; unfold slotsB; rw [hln, List.append_assoc])
  have HP := Lib.hid (u2_lit w g bs h 1 [(n : Int)] rfl (by decide) (by omega))
  have HEL := Lib.hid (show (bs ++ z2 [(n : Int)]).length = bs.length + 2 by rw [List.length_append, z2_len]; rfl)
  clear hs ho h hT hln
  generalize bs ++ z2 [(n : Int)] = e at *
  go_enter Try.func53, Try.ntmps53
  go_wp2_with fail
  refine HP.out.mono ?_
  rintro e' W1 ⟨rfl, hw1, hk1⟩
  have HW1 := Lib.hid hw1
  have HK1 := Lib.hid hk1
  clear hw1 hk1 HP
  go_wp2_with fail
  go_loopg [13] n (fun gn i wr => ∃ j : Nat, j ≤ n ∧ gn = n - j ∧ i = .int .i64 j ∧ Hid (WrB w.heap.size wr g (e ++ (l.take j).flatMap slotB)) ∧ Hid (Keep1 g w wr))
  case atStart => exact ⟨0, by omega, by omega, by go_num, Lib.hid (by simpa using HW1.out), HK1⟩
  case round =>
    clear HW1 HK1
    obtain ⟨j, hj, rfl, rfl, HW, HK⟩ := hrel
    by_cases hlt : j < n
    · obtain ⟨b, off, s, rfl, _, hv, q⟩ := (Ss.keep1 HS.out HK.out HO.out).getC j hlt
      have HFT := Lib.hid (show e ++ (l.take (j + 1)).flatMap slotB = e ++ (l.take j).flatMap slotB ++ slotB s by rw [flat_take slotB l j s hv, List.append_assoc])
      have hll : (e ++ (l.take j).flatMap slotB).length + (slotB s).length ≤ 1048576 := by
        have h1 := HFL.out (j + 1)
        rw [flat_take slotB l j s hv, List.length_append] at h1
        rw [List.length_append, HEL.out]
        omega
      obtain ⟨tg, sa⟩ := s
      have q0 : wr.cell? ⟨b, off + j * 2, none⟩ = some (.int .i64 tg) := q 0 (by omega)
      have q1 : wr.cell? ⟨b, off + j * 2 + 1, none⟩ = some (.int .i64 sa) := q 1 (by omega)
      clear q hv
      generalize e ++ (l.take j).flatMap slotB = d at *
      have hj1 : (j : Int) < n := by omega
      have hb : Below wr.heap.size wr (wr.alloc (.cells #[.int .i64 tg, .int .i64 sa] 119)) := below_1 _ _
      have HW4 := Lib.hid (HW.out.below hb)
      have HK4 := Lib.hid (HK.out.trans (Keep1.of hb))
      have HT4 := Lib.hid (heap_alloc_last wr (.cells #[.int .i64 tg, .int .i64 sa] 119))
      have htg : wr.heap.size ≠ g := by have := HW.out.lt; omega
      have hwr : w.heap.size ≤ wr.heap.size := HK.out.size
      have hu8 := u8N_wrap tg
      have HD := Lib.hid (show slotB ⟨tg, sa⟩ = [u8N tg] ++ (if tg = 7 then z2 [sa] else []) from rfl)
      rw [HD.out] at hll HFT
      have hdl : d.length ≤ 1048575 := by rw [List.length_append, List.length_cons, List.length_nil] at hll; omega
      generalize u8N tg = tb at *
      clear hb HW HK HD
      go_upto_region 4 with fail
      clear q0 q1
      generalize wr.alloc (.cells #[.int .i64 tg, .int .i64 sa] 119) = W4 at *
      generalize wr.heap.size = bt at *
      obtain ⟨a2, n2, c2, hr2, hs2, hc2, hg2, ho2⟩ := HW4.out
      have HG2 := Lib.hid hr2
      have HO2 := Lib.hid ho2
      have hn2 : n2 ≤ 1048575 := by rw [← hs2.1]; exact hdl
      clear hr2 hs2 ho2 HW4
      have hSw : Two2 g (.slice a2 n2 c2) bt 0 (.int .i64 tg) W4.drew := ⟨row_cell (row_below HG2.out (Below.refl _ _).drew) 0 rfl, row_cell (row_below HT4.out (Below.refl _ _).drew) 0 rfl⟩
      have l0 := fun z (h : Two2 g (.slice a2 n2 c2) bt 0 (.int .i64 tg) z) => h.1
      have l1 := fun z (h : Two2 g (.slice a2 n2 c2) bt 0 (.int .i64 tg) z) => h.2
      refine wp_region_lexE (Two2 g (.slice a2 n2 c2) bt 0 (.int .i64 tg)) 12 [(0, true), (1, true), (2, true), (3, true), (4, true), (5, true), (6, true), (7, true), (8, false), (9, false), (10, true), (11, true)] (by kernel_rfl) (by kernel_rfl) (fun c a d v w h => by cases d <;> exact h) ?_
      iterate 8
        refine lexE_step (fun K hK => ?_)
        simp only [lexOp, List.getElem?_toArray, List.getElem?_cons_succ, List.getElem?_cons_zero]
        rw [if_pos (by rfl)]
        apply Exists.intro
        refine ⟨fun w' hS' => ?_, hSw, ?_⟩
        · first | (go_simp <;> with_reducible rfl) | (go_simp; go_bits; with_reducible rfl)
        go_simp
        try go_bits
        refine hK _ _ ?_
        clear hK K
      refine lexE_step (fun K hK => ?_)
      simp only [lexOp, List.getElem?_toArray, List.getElem?_cons_succ, List.getElem?_cons_zero]
      rw [if_pos (by rfl)]
      go_step
      have hb5 : Below W4.heap.size W4 (W4.alloc (.cells #[.int .u8 tb.toNat] 5)).drew := (below_1 _ _).drew
      have HG5 := Lib.hid (row_below HG2.out hb5)
      have HT5 := Lib.hid (row_below HT4.out hb5)
      have HO5 := Lib.hid (own_below HO2.out hb5)
      have HK5 := Lib.hid (HK4.out.trans (Keep1.of hb5))
      have HL5 := Lib.hid (row_below (heap_alloc_last W4 (.cells #[.int .u8 tb.toNat] 5)) ((Below.refl _ _).drew))
      replace hSw : Two2 g (.slice a2 n2 c2) bt 0 (.int .i64 tg) (W4.alloc (.cells #[.int .u8 tb.toNat] 5)).drew := ⟨row_cell HG5.out 0 rfl, row_cell HT5.out 0 rfl⟩
      clear hb5 HG2 HT4 HO2 HK4
      refine ⟨hSw, hK _ _ ?_⟩
      clear hK K
      generalize (W4.alloc (.cells #[.int .u8 tb.toNat] 5)).drew = W5 at *
      generalize W4.heap.size = bl at *
      refine lexE_step (fun K hK => ?_)
      simp only [lexOp, List.getElem?_toArray, List.getElem?_cons_succ, List.getElem?_cons_zero]
      rw [if_pos (by rfl)]
      change Oper.wp _ _ _ _ _ _
      refine wp_appK oneBu (ops := #[]) rfl _ _ _ rfl w.heap.size _ n2 _ rfl HO5.out _ 1 _ rfl (Src.lit HL5.out rfl rfl Try.underlying29) (by omega) (by unfold maxLen; omega) HK5.out.size ?_
      intro v3 W3 hown3 hg3 hb3
      have hkt := KeptT.app0 HO5.out hg3
      have HG3 := Lib.hid (hkt.2 _ _ _ _ HG5.out (by decide))
      have HR3 := Lib.hid (hkt.2 _ _ _ _ HT5.out (by decide))
      replace hSw : Two2 g (.slice a2 n2 c2) bt 0 (.int .i64 tg) W3 := ⟨row_cell HG3.out 0 rfl, row_cell HR3.out 0 rfl⟩
      have HK3 := Lib.hid (keep1_app HK5.out HO5.out hg3)
      replace hown3 : W3.ownsRow w.heap.size 5 1 v3 (n2 + 1) ((d ++ [tb]).map encB) := by rw [List.map_append]; exact hown3
      obtain ⟨a3, c3, rfl, -, -⟩ := Sl.ofOwn hown3
      have HO3 := Lib.hid hown3
      clear hkt hown3 hg3 hb3 HG5 HT5 HO5 HK5 HL5
      refine ⟨hSw, hK _ _ ?_⟩
      clear hK K
      iterate 2
        refine lexE_step (fun K hK => ?_)
        simp only [lexOp, List.getElem?_toArray, List.getElem?_cons_succ, List.getElem?_cons_zero]
        rw [if_pos (by rfl)]
        apply Exists.intro
        refine ⟨fun w' hS' => ?_, hSw, ?_⟩
        · first | (go_simp <;> with_reducible rfl) | (go_simp; go_bits; with_reducible rfl)
        go_simp
        try go_bits
        refine hK _ _ ?_
        clear hK K
      have fg := row_melt HG3.out 0
      have cg : W3.cell? ⟨g, 0, none⟩ = some (.slice a2 n2 c2) := row_cell HG3.out 0 rfl
      have ltg := row_lt HG3.out
      refine lexE_last ?_
      simp only [lastOp, List.getElem?_toArray, List.getElem?_cons_succ, List.getElem?_cons_zero]
      rw [if_pos (by rfl)]
      go_step
      have HW6 := Lib.hid (show WrB w.heap.size (W3.setCell ⟨g, 0, none⟩ (.slice a3 (n2 + 1) c3)) g (d ++ [tb]) from WrB.set HG3.out HO3.out HGL.out rfl)
      have HK6 := Lib.hid (HK3.out.set 0 (.slice a3 (n2 + 1) c3))
      have HT6 := Lib.hid (heap_other HR3.out htg 0 (.slice a3 (n2 + 1) c3))
      clear fg cg ltg HG3 HO3 HK3 HR3 hSw l0 l1
      generalize W3.setCell ⟨g, 0, none⟩ (.slice a3 (n2 + 1) c3) = W6 at *
      have p0 : W6.cell? ⟨bt, 0, none⟩ = some (.int .i64 tg) := row_cell HT6.out 0 rfl
      have p1 : W6.cell? ⟨bt, 1, none⟩ = some (.int .i64 sa) := row_cell HT6.out 1 rfl
      by_cases h7 : tg = 7
      · have e7 : (tg == 7) = true := by simp [h7]
        rw [if_pos h7] at HFT hll
        have HP7 := Lib.hid (u2_lit W6 g (d ++ [tb]) HW6.out 1 [sa] rfl (by decide) (by simp only [List.length_append, z2_len, List.length_cons, List.length_nil] at hll ⊢; omega))
        clear h7 hll
        go_wp2_with fail
        refine HP7.out.mono ?_
        rintro e' W7 ⟨rfl, hw7, hk7⟩
        go_wp2_with fail
        go_roundg (n - (j + 1))
        case measure => omega
        case rel => exact ⟨j + 1, by omega, rfl, by go_num, Lib.hid (by rw [HFT.out, ← List.append_assoc]; exact hw7.mono HK6.out.size HGL.out), Lib.hid (HK6.out.trans hk7)⟩
      · have e7 : (tg == 7) = false := by simp [h7]
        rw [if_neg h7, List.append_nil] at HFT
        clear h7 hll
        go_wp2_with fail
        go_roundg (n - (j + 1))
        case measure => omega
        case rel => exact ⟨j + 1, by omega, rfl, by go_num, Lib.hid (by rw [HFT.out]; exact HW6.out), HK6⟩
    · obtain rfl : j = n := by omega
      have HLE := Lib.hid (show l.take j = l by rw [List.take_of_length_le (by rw [HLn.out]; exact Nat.le_refl _)])
      rw [HLE.out, ← HT.out] at HW
      go_wp2_with fail
      go_end0
      exact ⟨rfl, HW.out, HK.out⟩
theorem slotsB_two (l : List KS) : 2 ≤ (slotsB l).length := by unfold slotsB; rw [List.length_append, z2_len, List.length_cons]; omega
theorem kmapB_len (p : KP) : (kmapB p).length = 2 + (slotsB p.loc).length + (slotsB p.stk).length := by unfold kmapB; rw [List.length_append, List.length_append, z2_len]; rfl
theorem maps_len (l : List KP) : l.length ≤ (l.flatMap kmapB).length := by
  induction l with
  | nil => simp
  | cons x l ih => rw [List.flatMap_cons, List.length_append, List.length_cons]; have := kmapB_len x; omega
set_option maxRecDepth 100000 in
set_option maxHeartbeats 8000000 in
/-- The maps, behind their length. -/
theorem wmaps_any (W0 w : World) (gi gm : Nat) (fl nm ds st lo : Int) (ca : Option Addr) (cn cc : Nat) (ta : Option Addr) (tn tc : Nat) (ma : Option Addr) (mn mc : Nat) (maps : List KP) (hm : MBk w gm fl nm ds st lo ca cn cc ta tn tc ma mn mc)
    (hp : Ss 3 KP.cells W0 ma mn maps) (he : ∀ p ∈ maps, p.Rd W0) (hb : Below W0.heap.size W0 w) (hg : W0.heap.size ≤ gi) (hne : gm ≠ gi) (h : WrB (gi + 1) w gi []) (hlen : (mapsB maps).length ≤ 1048576) :
    Calls Try.prog 52 #[.pointer (some ⟨gi, 0, none⟩), .pointer (some ⟨gm, 0, none⟩)] w (WRet gi (mapsB maps) w) := by
  have hln : maps.length = mn := hp.1
  have hlen : 2 + (maps.flatMap kmapB).length ≤ 1048576 := by unfold mapsB at hlen; rw [List.length_append, z2_len, List.length_cons, List.length_nil] at hlen; omega
  have hn : mn ≤ 1048576 := by have := maps_len maps; omega
  have HP := Lib.hid hp
  have HE := Lib.hid he
  have HW := Lib.hid hb
  have HWg := Lib.hid hg
  have HGL := Lib.hid h.lt
  have HLn := Lib.hid hln
  have HM := Lib.hid hm
  have HFL := Lib.hid (flat_le kmapB maps)
  obtain ⟨T, hT⟩ : ∃ T, T = mapsB maps := ⟨_, rfl⟩
  rw [← hT]
  have HT := Lib.hid (show T = z2 [(mn : Int)] ++ maps.flatMap kmapB by rw [hT]; unfold mapsB; rw [hln])
  have HU := Lib.hid (u2_lit w gi [] h 1 [(mn : Int)] rfl (by decide) (by simp))
  rw [List.nil_append] at HU
  have HEL := Lib.hid (show (z2 [(mn : Int)]).length = 2 by rw [z2_len]; rfl)
  clear hp he hb hg h hT hln hm
  generalize z2 [(mn : Int)] = e at *
  obtain ⟨c0, c1, c2, c3, c4, c5, c6, c7⟩ := HM.out.box
  clear c0 c1 c2 c3 c4 c5 c6
  go_enter Try.func52, Try.ntmps52
  go_wp2_with fail
  refine HU.out.mono ?_
  rintro e' W1 ⟨rfl, hw1, hk1⟩
  have HW1 := Lib.hid hw1
  have HK1 := Lib.hid hk1
  have c7' := (HM.out.keep1 hk1 hne).box.c7
  clear hw1 hk1 HU c7
  go_wp2_with fail
  clear c7'
  go_loopg [14] mn (fun gn i wr => ∃ j : Nat, j ≤ mn ∧ gn = mn - j ∧ i = .int .i64 j ∧ Hid (WrB w.heap.size wr gi (e ++ (maps.take j).flatMap kmapB)) ∧ Hid (Keep1 gi w wr))
  case atStart => exact ⟨0, by omega, by omega, by go_num, Lib.hid (by simpa using HW1.out), HK1⟩
  case round =>
    clear HW1 HK1
    obtain ⟨j, hj, rfl, rfl, HWR, HK⟩ := hrel
    by_cases hlt : j < mn
    · obtain ⟨b, off, p, rfl, _, hv, q⟩ := (HP.out.below (HK.out.below HW.out (Nat.le_refl _) HWg.out)).getC j hlt
      have HFT := Lib.hid (show e ++ (maps.take (j + 1)).flatMap kmapB = e ++ (maps.take j).flatMap kmapB ++ kmapB p by rw [flat_take kmapB maps j p hv, List.append_assoc])
      have hll : (e ++ (maps.take j).flatMap kmapB).length + (kmapB p).length ≤ 1048576 := by
        have h1 := HFL.out (j + 1)
        rw [flat_take kmapB maps j p hv, List.length_append] at h1
        rw [List.length_append, HEL.out]
        omega
      rw [kmapB_len] at hll
      have HR := Lib.hid (HE.out p (List.mem_of_getElem? hv))
      have HKB := Lib.hid (show kmapB p = z2 [p.pl] ++ slotsB p.loc ++ slotsB p.stk from rfl)
      obtain ⟨pl, la, ln, lc, loc, sa, sn, sc, stk⟩ := p
      have HRL := Lib.hid (show Ss 2 KS.cells W0 la ln loc from HR.out.loc)
      have HRS := Lib.hid (show Ss 2 KS.cells W0 sa sn stk from HR.out.stk)
      rw [HKB.out] at HFT
      dsimp only at hll HFT
      have q0 : wr.cell? ⟨b, off + j * 3, none⟩ = some (.int .i64 pl) := q 0 (by omega)
      have q1 : wr.cell? ⟨b, off + j * 3 + 1, none⟩ = some (.slice la ln lc) := q 1 (by omega)
      have q2 : wr.cell? ⟨b, off + j * 3 + 2, none⟩ = some (.slice sa sn sc) := q 2 (by omega)
      have hl1 := slotsB_two loc
      have hl2 := slotsB_two stk
      clear q hv HR HKB
      generalize e ++ (maps.take j).flatMap kmapB = d at *
      have hj1 : (j : Int) < mn := by omega
      have hb : Below wr.heap.size wr (wr.alloc (.cells #[.int .i64 pl, .slice la ln lc, .slice sa sn sc] 51)) := below_1 _ _
      have HW4 := Lib.hid (HWR.out.below hb)
      have HK4 := Lib.hid (HK.out.trans (Keep1.of hb))
      have HT4 := Lib.hid (heap_alloc_last wr (.cells #[.int .i64 pl, .slice la ln lc, .slice sa sn sc] 51))
      have htg : wr.heap.size ≠ gi := by have := HWR.out.lt; omega
      clear hb HWR HK
      go_upto_region 4 with fail
      clear q0 q1 q2
      generalize wr.alloc (.cells #[.int .i64 pl, .slice la ln lc, .slice sa sn sc] 51) = W4 at *
      generalize wr.heap.size = bt at *
      have p0 : W4.cell? ⟨bt, 0, none⟩ = some (.int .i64 pl) := row_cell HT4.out 0 rfl
      have HU := Lib.hid (u2_lit W4 gi d HW4.out 1 [pl] rfl (by decide) (by omega))
      go_wp2_with fail
      refine HU.out.mono ?_
      rintro e' W5 ⟨rfl, hw5, hk5⟩
      have HW5 := Lib.hid hw5
      have HK5 := Lib.hid (HK4.out.trans hk5)
      have HT5 := Lib.hid (hk5.blk HT4.out htg)
      clear hw5 hk5 HW4 HK4 HT4 HU p0
      have p1 : W5.cell? ⟨bt, 1, none⟩ = some (.slice la ln lc) := row_cell HT5.out 1 rfl
      have HB5 := Lib.hid (HK5.out.below HW.out (Nat.le_refl _) HWg.out)
      have HU := Lib.hid (wslots_any W5 gi (d ++ z2 [pl]) HW5.out la ln lc loc (HRL.out.below HB5.out) (Off1.oldS HRL.out HWg.out) (by rw [List.length_append, z2_len, List.length_cons, List.length_nil]; omega))
      go_wp2_with fail
      refine HU.out.mono ?_
      rintro e' W6 ⟨rfl, hw6, hk6⟩
      have HW6 := Lib.hid hw6
      have HK6 := Lib.hid (HK5.out.trans hk6)
      have HT6 := Lib.hid (hk6.blk HT5.out htg)
      clear hw6 hk6 HW5 HK5 HT5 HU p1 HB5
      have p2 : W6.cell? ⟨bt, 2, none⟩ = some (.slice sa sn sc) := row_cell HT6.out 2 rfl
      have HB6 := Lib.hid (HK6.out.below HW.out (Nat.le_refl _) HWg.out)
      have HU := Lib.hid (wslots_any W6 gi (d ++ z2 [pl] ++ slotsB loc) HW6.out sa sn sc stk (HRS.out.below HB6.out) (Off1.oldS HRS.out HWg.out) (by rw [List.length_append, List.length_append, z2_len, List.length_cons, List.length_nil]; omega))
      go_wp2_with fail
      refine HU.out.mono ?_
      rintro e' W7 ⟨rfl, hw7, hk7⟩
      go_wp2_with fail
      go_roundg (mn - (j + 1))
      case measure => omega
      case rel => exact ⟨j + 1, by omega, rfl, by go_num, Lib.hid (by rw [HFT.out, ← List.append_assoc, ← List.append_assoc]; exact hw7.mono HK6.out.size HGL.out), Lib.hid (HK6.out.trans hk7)⟩
    · obtain rfl : j = mn := by omega
      have HLE := Lib.hid (show maps.take j = maps by rw [List.take_of_length_le (by rw [HLn.out]; exact Nat.le_refl _)])
      rw [HLE.out, ← HT.out] at HWR
      go_wp2_with fail
      go_end0
      exact ⟨rfl, HWR.out, HK.out⟩
end Go.Proofs.Ytnfhiakdbakpgaa
/- klass: a method's code is written. No condition. -/
namespace Go.Proofs.Ytnfhiakdbakpgaa
open Go.ChangeShapes Go.WideShapes Go.ChangeAt Go.RowKit
def trapB (t : KT) : List UInt8 := z2 [t.fr, t.tt, t.pl, t.cl]
def tailB (L : List KV) (maps : List KP) : List UInt8 := if maps.length = 0 then z2 [0] else z2 [1, (findT L sMap : Int)] ++ z4 (mapsB maps).length ++ mapsB maps
def codeB (L : List KV) (m : KM) : List UInt8 := z2 [m.st, m.lo] ++ z4 m.code.length ++ m.code ++ z2 [(m.traps.length : Int)] ++ m.traps.flatMap trapB ++ tailB L m.maps
theorem trapB_len (t : KT) : (trapB t).length = 8 := by unfold trapB; rw [z2_len]; rfl
theorem traps_len (l : List KT) : (l.flatMap trapB).length = l.length * 8 := by
  induction l with
  | nil => simp
  | cons x l ih => rw [List.flatMap_cons, List.length_append, List.length_cons, ih, trapB_len]; omega
theorem codeB_len (L : List KV) (m : KM) : (codeB L m).length = 10 + m.code.length + m.traps.length * 8 + (tailB L m.maps).length := by
  unfold codeB
  simp only [List.length_append, z2_len, z4_len, traps_len, List.length_cons, List.length_nil]
  omega
theorem enter_maps (args : Array Value) (W : World) : (callFunc 52 args).run Try.prog W = .ok (.enter 52 args) W := rfl
set_option maxRecDepth 100000 in
set_option maxHeartbeats 16000000 in
theorem wcode_any (W0 w : World) (g : Nat) (bs : List UInt8) {B : Nat} (h : WrB B w g bs) (pa : Option Addr) (pn pc : Nat) (L : List KV) (hL : Ks W0 pa pn L) (hpn : pn ≤ 65536) (m : KM) (hm : m.Rd W0) (hb : Below W0.heap.size W0 w) (hg : W0.heap.size ≤ g) (hlen : bs.length + (codeB L m).length ≤ 1048576) :
    Calls Try.prog 22 #[.pointer (some ⟨g, 0, none⟩), .slice pa pn pc, .agg #[.int .i64 m.fl, .int .i64 m.nm, .int .i64 m.ds, .int .i64 m.st, .int .i64 m.lo, .slice m.ca m.cn m.cc, .slice m.ta m.tn m.tc, .slice m.ma m.mn m.mc]] w (WRet g (bs ++ codeB L m) w) := by
  have hlen2 := codeB_len L m
  have HCB := Lib.hid (show codeB L m = z2 [m.st, m.lo] ++ z4 m.code.length ++ m.code ++ z2 [(m.traps.length : Int)] ++ m.traps.flatMap trapB ++ tailB L m.maps from rfl)
  obtain ⟨T, hT⟩ : ∃ T, T = bs ++ codeB L m := ⟨_, rfl⟩
  rw [← hT]
  rw [hlen2] at hlen
  rw [HCB.out] at hT
  obtain ⟨fl, nm, ds, st, lo, ca, cn, cc, code, ta, tn, tc, traps, ma, mn, mc, maps⟩ := m
  dsimp only at hlen hT ⊢
  have hcl : code.length = cn := hm.code.1
  have htl : traps.length = tn := hm.traps.1
  have hml : maps.length = mn := hm.maps.1
  rw [hcl, htl] at hlen hT
  have HT := Lib.hid hT
  have HC := Lib.hid (show Sl encB W0 ca cn code from hm.code)
  have HTR := Lib.hid (show Ss 4 KT.cells W0 ta tn traps from hm.traps)
  have HP := Lib.hid (show Ss 3 KP.cells W0 ma mn maps from hm.maps)
  have HE := Lib.hid (show ∀ p ∈ maps, p.Rd W0 from hm.each)
  have HTn := Lib.hid htl
  have HMn := Lib.hid hml
  have HLK := Lib.hid hL
  have HW := Lib.hid hb
  have HWg := Lib.hid hg
  have HGL := Lib.hid h.lt
  have htn : tn ≤ 131072 := by omega
  have htail : (tailB L maps).length ≤ 1048576 := by omega
  have hal : Below w.heap.size w (w.alloc (.cells #[.int .i64 fl, .int .i64 nm, .int .i64 ds, .int .i64 st, .int .i64 lo, .slice ca cn cc, .slice ta tn tc, .slice ma mn mc] 48)) := below_1 _ _
  have HM1 := Lib.hid (show MBk (w.alloc (.cells #[.int .i64 fl, .int .i64 nm, .int .i64 ds, .int .i64 st, .int .i64 lo, .slice ca cn cc, .slice ta tn tc, .slice ma mn mc] 48)) w.heap.size fl nm ds st lo ca cn cc ta tn tc ma mn mc from heap_alloc_last w _)
  have HW1 := Lib.hid (h.below hal)
  have HK1 := Lib.hid (Keep1.of (g := g) hal)
  have hbg : w.heap.size ≠ g := by have := h.lt; omega
  have HFB := Lib.hid (fun w' (hl : Ks w' pa pn L) => find_any w' pa pn pc L sMap hl hpn)
  have HTB := Lib.hid (show tailB L maps = if mn = 0 then z2 [0] else z2 [1, (findT L [83, 116, 97, 99, 107, 77, 97, 112] : Int)] ++ z4 (mapsB maps).length ++ mapsB maps by unfold tailB; rw [hml]; rfl)
  unfold sMap at HFB
  clear h hm hb hal hg hT hcl htl hml hL hlen2 HCB
  go_enter Try.func22, Try.ntmps22
  go_upto_region 1 with fail
  generalize w.alloc (.cells #[.int .i64 fl, .int .i64 nm, .int .i64 ds, .int .i64 st, .int .i64 lo, .slice ca cn cc, .slice ta tn tc, .slice ma mn mc] 48) = W1 at *
  obtain ⟨c0, c1, c2, c3, c4, c5, c6, c7⟩ := HM1.out.box
  have HU := Lib.hid (u2_lit W1 g bs HW1.out 2 [st, lo] rfl (by decide) (by omega))
  go_wp2_with fail
  refine HU.out.mono ?_
  rintro e W2 ⟨rfl, hw2, hk2⟩
  have HM2 := Lib.hid (HM1.out.keep1 hk2 hbg)
  have HW2 := Lib.hid hw2
  have HK2 := Lib.hid (HK1.out.trans hk2)
  clear hw2 hk2 HM1 HW1 HK1 HU c0 c1 c2 c3 c4 c5 c6 c7
  obtain ⟨c0, c1, c2, c3, c4, c5, c6, c7⟩ := HM2.out.box
  have HU := Lib.hid (u4_any W2 g (bs ++ z2 [st, lo]) HW2.out cn (by rw [List.length_append, z2_len, List.length_cons, List.length_cons, List.length_nil]; omega))
  go_wp2_with fail
  refine HU.out.mono ?_
  rintro e W3 ⟨rfl, hw3, hk3⟩
  have HM3 := Lib.hid (HM2.out.keep1 hk3 hbg)
  have HW3 := Lib.hid (hw3.mono HK2.out.size HGL.out)
  have HK3 := Lib.hid (HK2.out.trans hk3)
  clear hw3 hk3 HM2 HW2 HK2 HU c0 c1 c2 c3 c4 c5 c6 c7
  have HB3 := Lib.hid (HK3.out.below HW.out (Nat.le_refl _) HWg.out)
  obtain ⟨a2, n2, c2, hr2, hs2, hc2, hg2, ho2⟩ := HW3.out
  have hn2 : n2 = bs.length + 8 := by have := hs2.1; simp only [List.length_append, z2_len, z4_len, List.length_cons, List.length_nil] at this; omega
  have hnn : n2 + cn ≤ 1048576 := by omega
  have HG2 := Lib.hid hr2
  have HO2 := Lib.hid ho2
  have HC3 := Lib.hid (HC.out.below HB3.out)
  have HN2 := Lib.hid hn2
  obtain ⟨e1, he1⟩ : ∃ x, x = bs ++ z2 [st, lo] ++ z4 cn := ⟨_, rfl⟩
  rw [← he1] at HO2
  have HE1 := Lib.hid he1
  clear hr2 hs2 ho2 HW3 hn2 he1
  go_upto_region 3 with fail
  have hSw : Two2 g (.slice a2 n2 c2) w.heap.size 5 (.slice ca cn cc) W3.drew := ⟨row_cell (row_below HG2.out (Below.refl _ _).drew) 0 rfl, row_cell (row_below HM3.out (Below.refl _ _).drew) 5 rfl⟩
  have l0 := fun z (h : Two2 g (.slice a2 n2 c2) w.heap.size 5 (.slice ca cn cc) z) => h.1
  have l1 := fun z (h : Two2 g (.slice a2 n2 c2) w.heap.size 5 (.slice ca cn cc) z) => h.2
  refine wp_region_lexE (Two2 g (.slice a2 n2 c2) w.heap.size 5 (.slice ca cn cc)) 10 [(0, true), (1, true), (2, true), (3, true), (4, true), (5, true), (6, true), (7, false), (8, true), (9, true)] (by kernel_rfl) (by kernel_rfl) (fun c a d v w h => by cases d <;> exact h) ?_
  iterate 7
    refine lexE_step (fun K hK => ?_)
    simp only [lexOp, List.getElem?_toArray, List.getElem?_cons_succ, List.getElem?_cons_zero]
    rw [if_pos (by rfl)]
    apply Exists.intro
    refine ⟨fun w' hS' => ?_, hSw, ?_⟩
    · first | (go_simp <;> with_reducible rfl) | (go_simp; go_bits; with_reducible rfl)
    go_simp
    try go_bits
    refine hK _ _ ?_
    clear hK K
  refine lexE_step (fun K hK => ?_)
  simp only [lexOp, List.getElem?_toArray, List.getElem?_cons_succ, List.getElem?_cons_zero]
  rw [if_pos (by rfl)]
  change Oper.wp _ _ _ _ _ _
  refine wp_appK oneBu (ops := #[]) rfl _ _ _ rfl w.heap.size _ n2 _ rfl (own_below HO2.out (Below.refl _ _).drew) _ cn _ rfl ((HC3.out.below (Below.refl _ _).drew).src encB_cell Try.underlying29 _) (by omega) (by unfold maxLen; omega) HK3.out.size ?_
  intro v3 W4 hown3 hg3 hb3
  have hkt := KeptT.app0 (own_below HO2.out (Below.refl _ _).drew) hg3
  have HG4 := Lib.hid (hkt.2 _ _ _ _ HG2.out (by decide))
  have HM4 := Lib.hid (show MBk W4 w.heap.size fl nm ds st lo ca cn cc ta tn tc ma mn mc from hkt.2 _ _ _ _ HM3.out (by decide))
  replace hSw : Two2 g (.slice a2 n2 c2) w.heap.size 5 (.slice ca cn cc) W4 := ⟨row_cell HG4.out 0 rfl, row_cell HM4.out 5 rfl⟩
  have HK4 := Lib.hid (keep1_app HK3.out.drew (own_below HO2.out (Below.refl _ _).drew) hg3)
  rw [← List.map_append] at hown3
  obtain ⟨a3, c3, rfl, -, -⟩ := Sl.ofOwn hown3
  have HO4 := Lib.hid hown3
  clear hkt hown3 hg3 hb3 HG2 HM3 HO2 HK3 HB3 HC3
  refine ⟨hSw, hK _ _ ?_⟩
  clear hK K
  iterate 2
    refine lexE_step (fun K hK => ?_)
    simp only [lexOp, List.getElem?_toArray, List.getElem?_cons_succ, List.getElem?_cons_zero]
    rw [if_pos (by rfl)]
    apply Exists.intro
    refine ⟨fun w' hS' => ?_, hSw, ?_⟩
    · first | (go_simp <;> with_reducible rfl) | (go_simp; go_bits; with_reducible rfl)
    go_simp
    try go_bits
    refine hK _ _ ?_
    clear hK K
  have fg := row_melt HG4.out 0
  have cg : W4.cell? ⟨g, 0, none⟩ = some (.slice a2 n2 c2) := row_cell HG4.out 0 rfl
  have ltg := row_lt HG4.out
  refine lexE_last ?_
  simp only [lastOp, List.getElem?_toArray, List.getElem?_cons_succ, List.getElem?_cons_zero]
  rw [if_pos (by rfl)]
  go_step
  have HW5 := Lib.hid (show WrB w.heap.size (W4.setCell ⟨g, 0, none⟩ (.slice a3 (n2 + cn) c3)) g (e1 ++ code) from WrB.set HG4.out HO4.out HGL.out rfl)
  have HK5 := Lib.hid (HK4.out.set 0 (.slice a3 (n2 + cn) c3))
  have HM5 := Lib.hid (show MBk (W4.setCell ⟨g, 0, none⟩ (.slice a3 (n2 + cn) c3)) w.heap.size fl nm ds st lo ca cn cc ta tn tc ma mn mc from heap_other HM4.out hbg 0 (.slice a3 (n2 + cn) c3))
  clear fg cg ltg HG4 HO4 HK4 HM4 hSw l0 l1
  generalize W4.setCell ⟨g, 0, none⟩ (.slice a3 (n2 + cn) c3) = W5 at *
  have HEL := Lib.hid (show (e1 ++ code).length = bs.length + 8 + cn by rw [HE1.out]; simp only [List.length_append, z2_len, z4_len, List.length_cons, List.length_nil, HC.out.1])
  have HT := Lib.hid (show T = (e1 ++ code ++ z2 [(tn : Int)]) ++ traps.flatMap trapB ++ tailB L maps by rw [HT.out, HE1.out]; simp only [List.append_assoc])
  clear HE1 HN2 hnn
  generalize e1 ++ code = e2 at *
  obtain ⟨c0, c1, c2, c3, c4, c5, c6, c7⟩ := HM5.out.box
  have HU := Lib.hid (u2_lit W5 g e2 HW5.out 1 [(tn : Int)] rfl (by decide) (by rw [HEL.out]; omega))
  go_wp2_with fail
  refine HU.out.mono ?_
  rintro e W6 ⟨rfl, hw6, hk6⟩
  have HM6 := Lib.hid (HM5.out.keep1 hk6 hbg)
  have HW6 := Lib.hid (hw6.mono HK5.out.size HGL.out)
  have HK6 := Lib.hid (HK5.out.trans hk6)
  clear hw6 hk6 HM5 HW5 HK5 HU c0 c1 c2 c3 c4 c5 c6 c7
  obtain ⟨c0, c1, c2, c3, c4, c5, c6, c7⟩ := HM6.out.box
  have HEL := Lib.hid (show (e2 ++ z2 [(tn : Int)]).length = bs.length + 10 + cn by rw [List.length_append, HEL.out, z2_len, List.length_cons, List.length_nil]; omega)
  generalize e2 ++ z2 [(tn : Int)] = e3 at *
  go_wp2_with fail
  clear c0 c1 c2 c3 c4 c5 c6 c7
  go_loopg [39] tn (fun gn i wr => ∃ j : Nat, j ≤ tn ∧ gn = tn - j ∧ i = .int .i64 j ∧ Hid (WrB w.heap.size wr g (e3 ++ (traps.take j).flatMap trapB)) ∧ Hid (MBk wr w.heap.size fl nm ds st lo ca cn cc ta tn tc ma mn mc) ∧ Hid (Keep1 g w wr))
  case atStart => exact ⟨0, by omega, by omega, by go_num, Lib.hid (by simpa using HW6.out), HM6, HK6⟩
  case round =>
    clear HW6 HM6 HK6
    obtain ⟨j, hj, rfl, rfl, HWR, HM, HK⟩ := hrel
    by_cases hlt : j < tn
    · obtain ⟨b, off, t, rfl, _, hv, q⟩ := (HTR.out.below (HK.out.below HW.out (Nat.le_refl _) HWg.out)).getC j hlt
      have HFT := Lib.hid (show e3 ++ (traps.take (j + 1)).flatMap trapB = e3 ++ (traps.take j).flatMap trapB ++ trapB t by rw [flat_take trapB traps j t hv, List.append_assoc])
      have hll : (e3 ++ (traps.take j).flatMap trapB).length + 4 * 2 ≤ 1048576 := by
        rw [List.length_append, traps_len, HEL.out, List.length_take, HTn.out]
        omega
      have HTB' := Lib.hid (show trapB t = z2 [t.fr, t.tt, t.pl, t.cl] from rfl)
      obtain ⟨fr, tt, pl, cl⟩ := t
      rw [HTB'.out] at HFT
      dsimp only at HFT
      have q0 : wr.cell? ⟨b, off + j * 4, none⟩ = some (.int .i64 fr) := q 0 (by omega)
      have q1 : wr.cell? ⟨b, off + j * 4 + 1, none⟩ = some (.int .i64 tt) := q 1 (by omega)
      have q2 : wr.cell? ⟨b, off + j * 4 + 2, none⟩ = some (.int .i64 pl) := q 2 (by omega)
      have q3 : wr.cell? ⟨b, off + j * 4 + 3, none⟩ = some (.int .i64 cl) := q 3 (by omega)
      clear q hv HTB'
      generalize e3 ++ (traps.take j).flatMap trapB = d at *
      have hj1 : (j : Int) < tn := by omega
      have hb : Below wr.heap.size wr (wr.alloc (.cells #[.int .i64 fr, .int .i64 tt, .int .i64 pl, .int .i64 cl] 98)) := below_1 _ _
      have HW4 := Lib.hid (HWR.out.below hb)
      have HM4 := Lib.hid (HM.out.keep1 (Keep1.of hb) hbg)
      have HK4 := Lib.hid (HK.out.trans (Keep1.of hb))
      have HT4 := Lib.hid (heap_alloc_last wr (.cells #[.int .i64 fr, .int .i64 tt, .int .i64 pl, .int .i64 cl] 98))
      clear hb HWR HM HK
      go_upto_region 8 with fail
      clear q0 q1 q2 q3
      generalize wr.alloc (.cells #[.int .i64 fr, .int .i64 tt, .int .i64 pl, .int .i64 cl] 98) = W4 at *
      generalize wr.heap.size = bt at *
      have p0 : W4.cell? ⟨bt, 0, none⟩ = some (.int .i64 fr) := row_cell HT4.out 0 rfl
      have p1 : W4.cell? ⟨bt, 1, none⟩ = some (.int .i64 tt) := row_cell HT4.out 1 rfl
      have p2 : W4.cell? ⟨bt, 2, none⟩ = some (.int .i64 pl) := row_cell HT4.out 2 rfl
      have p3 : W4.cell? ⟨bt, 3, none⟩ = some (.int .i64 cl) := row_cell HT4.out 3 rfl
      have HU := Lib.hid (u2_lit W4 g d HW4.out 4 [fr, tt, pl, cl] rfl (by decide) hll)
      go_wp2_with fail
      refine HU.out.mono ?_
      rintro e' W5 ⟨rfl, hw5, hk5⟩
      go_wp2_with fail
      go_roundg (tn - (j + 1))
      case measure => omega
      case rel => exact ⟨j + 1, by omega, rfl, by go_num, Lib.hid (by rw [HFT.out]; exact hw5.mono HK4.out.size HGL.out), Lib.hid (HM4.out.keep1 hk5 hbg), Lib.hid (HK4.out.trans hk5)⟩
    · obtain rfl : j = tn := by omega
      have HLE := Lib.hid (show traps.take j = traps by rw [List.take_of_length_le (by rw [HTn.out]; exact Nat.le_refl _)])
      rw [HLE.out] at HWR
      have HEL := Lib.hid (show (e3 ++ traps.flatMap trapB).length = bs.length + 10 + cn + j * 8 by rw [List.length_append, HEL.out, traps_len, HTn.out])
      generalize e3 ++ traps.flatMap trapB = e4 at *
      obtain ⟨c0, c1, c2, c3, c4, c5, c6, c7⟩ := HM.out.box
      by_cases h0 : mn = 0
      · have e0 : ((mn : Int) == 0) = true := by simp [h0]
        have HTL := Lib.hid (show tailB L maps = z2 [0] by rw [HTB.out, if_pos h0])
        clear h0 HTB
        rw [HTL.out, z2_len] at hlen
        rw [HTL.out] at HT
        have HU := Lib.hid (u2_lit wr g e4 HWR.out 1 [0] rfl (by decide) (by rw [HEL.out]; simp only [List.length_cons, List.length_nil] at hlen; omega))
        clear hlen htail
        go_wp2_with fail
        refine HU.out.mono ?_
        rintro e' W7 ⟨rfl, hw7, hk7⟩
        go_wp2_with fail
        refine bodyPost_ret (results_none rfl _ _ _) rfl ⟨rfl, ?_, HK.out.trans hk7⟩
        rw [HT.out]
        exact hw7.mono HK.out.size HGL.out
      · have e0 : ((mn : Int) == 0) = false := by simp [h0]
        have HTL := Lib.hid (show tailB L maps = z2 [1, (findT L [83, 116, 97, 99, 107, 77, 97, 112] : Int)] ++ z4 (mapsB maps).length ++ mapsB maps by rw [HTB.out, if_neg h0])
        clear h0 HTB
        rw [HTL.out] at hlen HT
        simp only [List.length_append, z2_len, z4_len, List.length_cons, List.length_nil] at hlen
        clear htail
        go_wp2_with fail
        clear c0 c1 c2 c3 c4 c5 c6 c7
        refine (HFB.out wr (HLK.out.below (HK.out.below HW.out (Nat.le_refl _) HWg.out))).mono ?_
        rintro e' W7 ⟨rfl, hb7⟩
        have HM7 := Lib.hid (HM.out.keep1 (Keep1.of hb7) hbg)
        have HW7 := Lib.hid (HWR.out.below hb7)
        have HK7 := Lib.hid (HK.out.trans (Keep1.of hb7))
        clear hb7 HM HWR HK
        generalize findT L [83, 116, 97, 99, 107, 77, 97, 112] = k at *
        have HU := Lib.hid (u2_lit W7 g e4 HW7.out 2 [1, (k : Int)] rfl (by decide) (by rw [HEL.out]; omega))
        go_wp2_with fail
        refine HU.out.mono ?_
        rintro e' W8 ⟨rfl, hw8, hk8⟩
        have HM8 := Lib.hid (HM7.out.keep1 hk8 hbg)
        have HW8 := Lib.hid (hw8.mono HK7.out.size HGL.out)
        have HK8 := Lib.hid (HK7.out.trans hk8)
        clear hw8 hk8 HM7 HW7 HK7 HU
        have HB8 := Lib.hid (HK8.out.below HW.out (Nat.le_refl _) HWg.out)
        have HLM := Lib.hid (show w.heap.size < W8.heap.size from row_lt HM8.out)
        have HZ := Lib.hid (sized_any W8 g (e4 ++ z2 [1, (k : Int)]) HW8.out 52 enter_maps #[.pointer (some ⟨w.heap.size, 0, none⟩)] (mapsB maps) (by rw [List.length_append, HEL.out, z2_len, List.length_cons, List.length_cons, List.length_nil]; omega)
          (fun W gi hb hgi hwi => wmaps_any W0 W gi w.heap.size fl nm ds st lo ca cn cc ta j tc ma mn mc maps (row_below HM8.out hb) HP.out HE.out (HB8.out.trans (hb.mono HB8.out.size)) (Nat.le_trans HB8.out.size hgi) (Nat.ne_of_lt (Nat.lt_of_lt_of_le HLM.out hgi)) hwi (by omega)))
        go_wp2_with fail
        refine HZ.out.mono ?_
        rintro e' W9 ⟨rfl, hw9, hk9⟩
        go_wp2_with fail
        go_end0
        refine ⟨rfl, ?_, HK8.out.trans hk9⟩
        rw [HT.out]
        have h9 := hw9.mono HK8.out.size HGL.out
        simp only [List.append_assoc] at h9 ⊢
        exact h9
end Go.Proofs.Ytnfhiakdbakpgaa
