/- asm: own texts, merged (wip/merge2.py). No condition. -/
import Derived.Test.YtclpkipaehpkdaaGreatDoorQ19AsmNames
set_option linter.unusedVariables false
set_option linter.unusedSimpArgs false
namespace Go.Proofs.YtclpkipaehpkdaaGreatDoor
open Go.ChangeShapes Go.WideShapes Go.ChangeAt Go.RowKit Go.Maps
def LowA (B : Nat) (a : Option Addr) (n : Nat) : Prop := 0 < n → ∀ b off, a = some ⟨b, off, none⟩ → b < B
theorem KeepL.ss {B : Nat} {α : Type} {z : Nat} {enc : α → List Value} {w w' : World} {x : Option Addr} {n : Nat} {xs : List α} (h : KeepL B w w') (hs : Ss z enc w x n xs) (h1 : LowA B x n) : Ss z enc w' x n xs := by
  refine ⟨hs.1, fun hn => ?_⟩
  obtain ⟨b, off, ha, hlt, hc⟩ := hs.2 hn
  refine ⟨b, off, ha, Nat.lt_of_lt_of_le hlt h.size, fun i hi j hj => ?_⟩
  rw [← hc i hi j hj]
  unfold World.cell?
  rw [h.block b hlt (.inl (h1 hn b off ha))]
theorem KeepL.sl {B : Nat} {α : Type} {enc : α → Value} {w w' : World} {x : Option Addr} {n : Nat} {xs : List α} (h : KeepL B w w') (hs : Sl enc w x n xs) (h1 : LowA B x n) : Sl enc w' x n xs := by
  refine ⟨hs.1, fun hn => ?_⟩
  obtain ⟨b, off, ha, hlt, hc⟩ := hs.2 hn
  refine ⟨b, off, ha, Nat.lt_of_lt_of_le hlt h.size, fun i hi => ?_⟩
  rw [← hc i hi]
  unfold World.cell?
  rw [h.block b hlt (.inl (h1 hn b off ha))]
theorem KeepL.thenB {B : Nat} {w W w9 : World} (h : KeepL B w W) (hb : Below w.heap.size W w9) : KeepL B w w9 :=
  ⟨hb.os.trans h.os, hb.tape.trans h.tape, hb.output.trans h.output, Nat.le_trans h.size hb.size, fun k hk hg => by rw [hb.block k hk, h.block k hk hg]⟩
theorem LoS.app {w w9 : World} {B g : Nat} {s : LW} {o : Obj} {B' : Nat} {e : TypeId} {size : Nat} {v : Value} {n : Nat} {xs : List Value} (h : LoS w B g s) (ho : w.ownsRow B' e size v n xs) (hg : (w.alloc o).grownBy w9 v.ownBlock) (h1 : e ≠ ConT) (h2 : e ≠ LowT) (h3 : 0 < B') : LoS w9 B g s := by
  obtain ⟨a, cap, b, h⟩ := h
  have hkt := KeptT.app ho hg
  have hal := below_1 w o
  refine ⟨a, cap, b, ⟨hkt.2 _ _ _ _ h.k (Ne.symm h2), own_keptT h.o hkt (Ne.symm h1), (h.m.below hal).kept hg (own_no (own_below ho hal) (h.m.below hal).obj), h.bB, h.gB, h.B0, ?_⟩⟩
  obtain ⟨m, hm⟩ := h.vw
  refine ⟨m, ?_⟩
  have hlt : 0 < w.heap.size := by
    rcases Nat.eq_zero_or_pos w.heap.size with h1 | h1
    · exfalso
      have : w.heap[0]? = none := Array.getElem?_eq_none (by omega)
      simp [World.cell?, this] at hm
    · exact h1
  rw [← hm]
  unfold World.cell?
  rw [hg.block 0 (Nat.lt_of_lt_of_le hlt hal.size) (fun e9 => by have := (ho.lt 0 e9.symm).1; omega), hal.block 0 hlt]
theorem slots_snoc (s : LW) (l : List (List UInt8)) (t : List UInt8) : s.slots (l ++ [t]) = ((((s.slots l).1).slot t).1, (s.slots l).2 ++ [(((s.slots l).1).slot t).2]) := by
  induction l generalizing s with
  | nil => rfl
  | cons x l ih =>
    rw [List.cons_append, LW.slots, LW.slots, ih]
    rfl
theorem slots_len (s : LW) (l : List (List UInt8)) : (s.slots l).1.l.length ≤ s.l.length + 4 * l.length := by
  induction l generalizing s with
  | nil => exact Nat.le_refl _
  | cons x l ih =>
    rw [LW.slots]
    have h1 := slot_len s x
    have h2 := ih (s.slot x).1
    simp only [List.length_cons]
    omega
theorem slots_cnt (s : LW) (l : List (List UInt8)) : (s.slots l).2.length = l.length := by
  induction l generalizing s with
  | nil => rfl
  | cons x l ih =>
    rw [LW.slots, List.length_cons, List.length_cons, ih]
theorem stSlotL : StE 66 174 (.agg #[.int .i64 0, .int .i64 0]) 2 16 := ⟨by kernel_rfl, by kernel_rfl, rfl⟩
theorem Blk2.keepL {B : Nat} {w w' : World} {g : Nat} {x y : Value} {t : TypeId} (h : Blk2 w g x y t) (hk : KeepL B w w') (h1 : t ≠ ConT) (h2 : t ≠ LowT) : Blk2 w' g x y t := hk.row h h1 h2
theorem LoS.setO {w : World} {B g : Nat} {s : LW} {h9 : Nat} {cs : Array Value} {t : TypeId} {fr : Nat × Nat} (h : LoS w B g s) (hx : w.heap[h9]? = some (.cells cs t fr)) (h1 : t ≠ ConT) (h2 : t ≠ LowT) (h0 : 0 < h9) (o : Nat) (v : Value) : LoS (w.setCell ⟨h9, o, none⟩ v) B g s := by
  obtain ⟨a, cap, b, h⟩ := h
  have hkt := keptT_set hx o v
  have hne : b ≠ h9 := by
    rintro rfl
    obtain ⟨es, cl, hm⟩ := h.m.obj
    rw [hm] at hx
    cases hx
  refine ⟨a, cap, b, ⟨hkt.2 _ _ _ _ h.k (Ne.symm h2), own_keptT h.o hkt (Ne.symm h1), h.m.setCell hne _, h.bB, h.gB, h.B0, ?_⟩⟩
  obtain ⟨m, hm⟩ := h.vw
  refine ⟨m, ?_⟩
  rw [← hm]
  unfold World.cell? World.setCell
  have : ¬ h9 = 0 := by omega
  simp [Array.getElem?_modify, this]
theorem Sl.getE {α : Type} {enc : α → Value} {w : World} {a : Option Addr} {n : Nat} {xs : List α} (h : Sl enc w a n xs) (j : Nat) (hj : j < n) : ∃ b off x, a = some ⟨b, off, none⟩ ∧ b < w.heap.size ∧ xs[j]? = some x ∧ w.cell? ⟨b, off + j, none⟩ = some (enc x) := by
  obtain ⟨b, off, ha, hlt, hc⟩ := h.2 (by omega)
  have hl : j < xs.length := by rw [h.1]; exact hj
  exact ⟨b, off, xs[j], ha, hlt, List.getElem?_eq_getElem hl, hc j hl⟩
theorem own_set2 {w : World} {B : Nat} {e : TypeId} {size : Nat} {v : Value} {n : Nat} {xs : List Value} {g : Nat} (h : w.ownsRow B e size v n xs) (hne : ∀ k, v.ownBlock = some k → k ≠ g) (o : Nat) (u : Value) : (w.setCell ⟨g, o, none⟩ u).ownsRow B e size v n xs := by
  refine ⟨h.1, ?_⟩
  rcases h.2 with h1 | ⟨b, cap, cur, hv, hB, hc, r⟩
  · exact .inl h1
  · exact .inr ⟨b, cap, cur, hv, hB, heap_other hc (hne b (by rw [hv]; rfl)) o u, r⟩
theorem semV_len (t : List UInt8) : (semV t).length ≤ t.length := by
  unfold semV
  split
  · rw [List.length_drop, List.length_take]; omega
  · simp
def SlotsRet (B g : Nat) (s : LW) (l : List (List UInt8)) (n : Nat) (w : World) (e : Ending) (w' : World) : Prop :=
  ∃ oa oc, e = .returned (.slice oa n oc) ∧ w'.ownsRow w.heap.size 174 2 (.slice oa n oc) n ((s.slots l).2.flatMap KS.cells) ∧ LoS w' B g (s.slots l).1 ∧ KeepL B w w'
set_option maxRecDepth 100000 in
set_option maxHeartbeats 32000000 in
theorem alslots_any (w : World) (B g : Nat) (s : LW) (a : Option Addr) (n cap : Nat) (l : List (List UInt8)) (h : LoS w B g s) (hl : Sl encS w a n l) (hb : LowA B a n) (hf : ∀ t ∈ l, t.length ≤ 65536) (hn : n ≤ 1024) (hsz : s.l.length ≤ 999999000000) (hB : B ≤ w.heap.size) (hB0 : 0 < B) :
    Calls Tryz.prog 75 #[.pointer (some ⟨g, 0, none⟩), .slice a n cap] w (SlotsRet B g s l n w) := by
  have HS0 := Lib.hid h
  have HL := Lib.hid hl
  have HLn := Lib.hid hl.1
  have HLB := Lib.hid hb
  have HF := Lib.hid hf
  have HBW := Lib.hid hB
  have hw0 : 0 < w.heap.size := by omega
  clear h hl hb hf hB
  go_enter Tryz.func75, Tryz.ntmps75
  go_wp2_with fail
  go_loopg [5, 13] n (fun gn ov i wr => ∃ (j : Nat) (oa : Option Addr) (oc : Nat), j ≤ n ∧ gn = n - j ∧ ov = .slice oa j oc ∧ i = .int .i64 j ∧ Hid (LoS wr B g (s.slots (l.take j)).1) ∧ Hid (KeepL B w wr) ∧ Hid (wr.ownsRow w.heap.size 174 2 (.slice oa j oc) j ((s.slots (l.take j)).2.flatMap KS.cells)))
  case atStart => exact ⟨0, none, 0, by omega, by omega, rfl, by go_num, HS0, Lib.hid (KeepL.refl _ _), Lib.hid (World.ownsRow_nil _ _ _ _)⟩
  case round =>
    obtain ⟨j, oa, oc, hj, rfl, rfl, rfl, HS, HK, HO⟩ := hrel
    have hwr : w.heap.size ≤ wr.heap.size := HK.out.size
    by_cases hlt : j < n
    · obtain ⟨b, off, t, rfl, hbl, ht, q⟩ := (HK.out.sl HL.out HLB.out).getE j hlt
      unfold encS at q
      have hj1 : (j : Int) < n := by omega
      have HT := Lib.hid (HF.out t (List.mem_of_getElem? ht))
      have HSN := Lib.hid (show s.slots (l.take (j + 1)) = ((((s.slots (l.take j)).1).slot t).1, (s.slots (l.take j)).2 ++ [(((s.slots (l.take j)).1).slot t).2]) by
        have hjl := (List.getElem?_eq_some_iff.1 ht).1
        rw [List.take_succ_eq_append_getElem hjl, (List.getElem?_eq_some_iff.1 ht).2, slots_snoc])
      have hlen : ((s.slots (l.take j)).1).l.length ≤ s.l.length + 4 * j := by
        have h1 := slots_len s (l.take j)
        rw [List.length_take, HLn.out, Nat.min_eq_left hj] at h1
        exact h1
      generalize s.slots (l.take j) = SJ at *
      obtain ⟨sj, lj⟩ := SJ
      dsimp only at HS HO HSN hlen
      obtain ⟨RS, hRS⟩ : ∃ RS, RS = sj.slot t := ⟨_, rfl⟩
      rw [← hRS] at HSN
      have HRS := Lib.hid hRS
      clear hRS ht
      have HCO := Lib.hid (fun W => ClassOf_any W t HT.out)
      have HIA := Lib.hid (fun W (hv : VW W) => isArray_any W t HT.out hv)
      go_upto_region 6 with fail
      have hal : Below wr.heap.size wr (wr.alloc (.cells #[.int .i64 7, .int .i64 0] 174)) := below_1 _ _
      have HSB := Lib.hid (show Blk2 (wr.alloc (.cells #[.int .i64 7, .int .i64 0] 174)) wr.heap.size (.int .i64 7) (.int .i64 0) 174 from heap_alloc_last wr _)
      have HS1 := Lib.hid (HS.out.below hal)
      have HK1 := Lib.hid (HK.out.trans (KeepL.of hal))
      have HO1 := Lib.hid (own_below HO.out hal)
      have hgs0 : 0 < wr.heap.size := by omega
      have HGN := Lib.hid (fun k (h : (Value.slice oa j oc).ownBlock = some k) => Nat.ne_of_lt ((HO.out.lt k h).2))
      clear hal HS HK HO q hbl
      generalize wr.alloc (.cells #[.int .i64 7, .int .i64 0] 174) = W at *
      generalize wr.heap.size = gs at *
      obtain ⟨ok, hok⟩ : ∃ ok, ok = semOk t := ⟨_, rfl⟩
      have HOK := Lib.hid hok
      rw [← hok] at HCO
      generalize hsv : semV t = sv at *
      have HSV := Lib.hid hsv
      clear hok hsv
      by_cases h84 : t = [84]
      · have HT84 := Lib.hid h84
        clear h84
        have HRR := Lib.hid (show RS = (sj, ⟨0, 0⟩) by rw [HRS.out, HT84.out]; rfl)
        have e84 : (t == [84]) = true := by rw [HT84.out]; rfl
        have e73 : (t == [73]) = false := by rw [HT84.out]; rfl
        have e74 : (t == [74]) = false := by rw [HT84.out]; rfl
        have e78 : (t == [78]) = false := by rw [HT84.out]; rfl
        obtain ⟨c0, c1, f0, f1, lt⟩ := HSB.out.box
        go_wp2_with fail
        refine (HCO.out W).mono ?_
        rintro e W0 ⟨rfl, hwq⟩
        replace hwq := hwq.symm
        subst hwq
        go_upto_region 19 with fail
        have HBV := Lib.hid (show Blk2 (W.setCell ⟨gs, 0, none⟩ (.int .i64 0)) gs (.int .i64 0) (.int .i64 0) 174 from HSB.out.set0)
        have HSVV := Lib.hid (HS1.out.setO HSB.out (by decide) (by decide) hgs0 0 (.int .i64 0))
        have HKV := Lib.hid (HK1.out.thenB (show Below w.heap.size W (W.setCell ⟨gs, 0, none⟩ (.int .i64 0)) from (Below.refl _ _).setCell hwr _))
        have HOV := Lib.hid (own_set2 HO1.out HGN.out 0 (.int .i64 0))
        clear c0 c1 f0 f1 lt HSB HS1 HK1 HO1
        generalize W.setCell ⟨gs, 0, none⟩ (.int .i64 0) = V at *
        have hjn : j ≤ 1024 := by omega
        have HSZ : w.heap.size ≤ V.heap.size := HKV.out.size
        obtain ⟨c0, c1, f0, f1, lt⟩ := HBV.out.box
        go_wp2_with (at_builtin; refine wpList_appS_lit stSlotL rfl _ _ rfl w.heap.size _ j _ rfl HOV.out _ 1 _ _ rfl (by simp) rfl rfl (by omega) (by unfold maxLen; omega) HSZ ?_; intro v9 w9 hown9 hg9 hb9; have hown8 : w9.ownsRow w.heap.size 174 2 v9 (j + 1) ((lj ++ [(⟨0, 0⟩ : KS)]).flatMap KS.cells) := (by rw [List.flatMap_append]; exact hown9); obtain ⟨a9, c9, rfl, -, -⟩ := Ss.ofOwn KS.cells_length (by decide) hown8; have HO9 := Lib.hid hown8; have HS9 := Lib.hid (HSVV.out.app HOV.out hg9 (by decide) (by decide) hw0); have HK9 := Lib.hid (HKV.out.thenB hb9); clear hown9 hown8 hg9 hb9 c0 c1 f0 f1 lt)
        go_roundg (n - (j + 1))
        case measure => omega
        case rel => exact ⟨j + 1, _, _, by omega, rfl, rfl, by go_num, Lib.hid (by rw [HSN.out, HRR.out]; exact HS9.out), HK9, Lib.hid (by rw [HSN.out, HRR.out]; exact HO9.out)⟩
      by_cases h73 : t = [73]
      · have HT73 := Lib.hid h73
        clear h73
        have HRR := Lib.hid (show RS = (sj, ⟨1, 0⟩) by rw [HRS.out, HT73.out]; rfl)
        have e73 : (t == [73]) = true := by rw [HT73.out]; rfl
        have e84 : (t == [84]) = false := by rw [HT73.out]; rfl
        have e74 : (t == [74]) = false := by rw [HT73.out]; rfl
        have e78 : (t == [78]) = false := by rw [HT73.out]; rfl
        obtain ⟨c0, c1, f0, f1, lt⟩ := HSB.out.box
        go_wp2_with fail
        refine (HCO.out W).mono ?_
        rintro e W0 ⟨rfl, hwq⟩
        replace hwq := hwq.symm
        subst hwq
        go_upto_region 19 with fail
        have HBV := Lib.hid (show Blk2 (W.setCell ⟨gs, 0, none⟩ (.int .i64 1)) gs (.int .i64 1) (.int .i64 0) 174 from HSB.out.set0)
        have HSVV := Lib.hid (HS1.out.setO HSB.out (by decide) (by decide) hgs0 0 (.int .i64 1))
        have HKV := Lib.hid (HK1.out.thenB (show Below w.heap.size W (W.setCell ⟨gs, 0, none⟩ (.int .i64 1)) from (Below.refl _ _).setCell hwr _))
        have HOV := Lib.hid (own_set2 HO1.out HGN.out 0 (.int .i64 1))
        clear c0 c1 f0 f1 lt HSB HS1 HK1 HO1
        generalize W.setCell ⟨gs, 0, none⟩ (.int .i64 1) = V at *
        have hjn : j ≤ 1024 := by omega
        have HSZ : w.heap.size ≤ V.heap.size := HKV.out.size
        obtain ⟨c0, c1, f0, f1, lt⟩ := HBV.out.box
        go_wp2_with (at_builtin; refine wpList_appS_lit stSlotL rfl _ _ rfl w.heap.size _ j _ rfl HOV.out _ 1 _ _ rfl (by simp) rfl rfl (by omega) (by unfold maxLen; omega) HSZ ?_; intro v9 w9 hown9 hg9 hb9; have hown8 : w9.ownsRow w.heap.size 174 2 v9 (j + 1) ((lj ++ [(⟨1, 0⟩ : KS)]).flatMap KS.cells) := (by rw [List.flatMap_append]; exact hown9); obtain ⟨a9, c9, rfl, -, -⟩ := Ss.ofOwn KS.cells_length (by decide) hown8; have HO9 := Lib.hid hown8; have HS9 := Lib.hid (HSVV.out.app HOV.out hg9 (by decide) (by decide) hw0); have HK9 := Lib.hid (HKV.out.thenB hb9); clear hown9 hown8 hg9 hb9 c0 c1 f0 f1 lt)
        go_roundg (n - (j + 1))
        case measure => omega
        case rel => exact ⟨j + 1, _, _, by omega, rfl, rfl, by go_num, Lib.hid (by rw [HSN.out, HRR.out]; exact HS9.out), HK9, Lib.hid (by rw [HSN.out, HRR.out]; exact HO9.out)⟩
      by_cases h74 : t = [74]
      · have HT74 := Lib.hid h74
        clear h74
        have HRR := Lib.hid (show RS = (sj, ⟨4, 0⟩) by rw [HRS.out, HT74.out]; rfl)
        have e74 : (t == [74]) = true := by rw [HT74.out]; rfl
        have e84 : (t == [84]) = false := by rw [HT74.out]; rfl
        have e73 : (t == [73]) = false := by rw [HT74.out]; rfl
        have e78 : (t == [78]) = false := by rw [HT74.out]; rfl
        obtain ⟨c0, c1, f0, f1, lt⟩ := HSB.out.box
        go_wp2_with fail
        refine (HCO.out W).mono ?_
        rintro e W0 ⟨rfl, hwq⟩
        replace hwq := hwq.symm
        subst hwq
        go_upto_region 19 with fail
        have HBV := Lib.hid (show Blk2 (W.setCell ⟨gs, 0, none⟩ (.int .i64 4)) gs (.int .i64 4) (.int .i64 0) 174 from HSB.out.set0)
        have HSVV := Lib.hid (HS1.out.setO HSB.out (by decide) (by decide) hgs0 0 (.int .i64 4))
        have HKV := Lib.hid (HK1.out.thenB (show Below w.heap.size W (W.setCell ⟨gs, 0, none⟩ (.int .i64 4)) from (Below.refl _ _).setCell hwr _))
        have HOV := Lib.hid (own_set2 HO1.out HGN.out 0 (.int .i64 4))
        clear c0 c1 f0 f1 lt HSB HS1 HK1 HO1
        generalize W.setCell ⟨gs, 0, none⟩ (.int .i64 4) = V at *
        have hjn : j ≤ 1024 := by omega
        have HSZ : w.heap.size ≤ V.heap.size := HKV.out.size
        obtain ⟨c0, c1, f0, f1, lt⟩ := HBV.out.box
        go_wp2_with (at_builtin; refine wpList_appS_lit stSlotL rfl _ _ rfl w.heap.size _ j _ rfl HOV.out _ 1 _ _ rfl (by simp) rfl rfl (by omega) (by unfold maxLen; omega) HSZ ?_; intro v9 w9 hown9 hg9 hb9; have hown8 : w9.ownsRow w.heap.size 174 2 v9 (j + 1) ((lj ++ [(⟨4, 0⟩ : KS)]).flatMap KS.cells) := (by rw [List.flatMap_append]; exact hown9); obtain ⟨a9, c9, rfl, -, -⟩ := Ss.ofOwn KS.cells_length (by decide) hown8; have HO9 := Lib.hid hown8; have HS9 := Lib.hid (HSVV.out.app HOV.out hg9 (by decide) (by decide) hw0); have HK9 := Lib.hid (HKV.out.thenB hb9); clear hown9 hown8 hg9 hb9 c0 c1 f0 f1 lt)
        go_roundg (n - (j + 1))
        case measure => omega
        case rel => exact ⟨j + 1, _, _, by omega, rfl, rfl, by go_num, Lib.hid (by rw [HSN.out, HRR.out]; exact HS9.out), HK9, Lib.hid (by rw [HSN.out, HRR.out]; exact HO9.out)⟩
      by_cases h78 : t = [78]
      · have HT78 := Lib.hid h78
        clear h78
        have HRR := Lib.hid (show RS = (sj, ⟨5, 0⟩) by rw [HRS.out, HT78.out]; rfl)
        have e78 : (t == [78]) = true := by rw [HT78.out]; rfl
        have e84 : (t == [84]) = false := by rw [HT78.out]; rfl
        have e73 : (t == [73]) = false := by rw [HT78.out]; rfl
        have e74 : (t == [74]) = false := by rw [HT78.out]; rfl
        obtain ⟨c0, c1, f0, f1, lt⟩ := HSB.out.box
        go_wp2_with fail
        refine (HCO.out W).mono ?_
        rintro e W0 ⟨rfl, hwq⟩
        replace hwq := hwq.symm
        subst hwq
        go_upto_region 19 with fail
        have HBV := Lib.hid (show Blk2 (W.setCell ⟨gs, 0, none⟩ (.int .i64 5)) gs (.int .i64 5) (.int .i64 0) 174 from HSB.out.set0)
        have HSVV := Lib.hid (HS1.out.setO HSB.out (by decide) (by decide) hgs0 0 (.int .i64 5))
        have HKV := Lib.hid (HK1.out.thenB (show Below w.heap.size W (W.setCell ⟨gs, 0, none⟩ (.int .i64 5)) from (Below.refl _ _).setCell hwr _))
        have HOV := Lib.hid (own_set2 HO1.out HGN.out 0 (.int .i64 5))
        clear c0 c1 f0 f1 lt HSB HS1 HK1 HO1
        generalize W.setCell ⟨gs, 0, none⟩ (.int .i64 5) = V at *
        have hjn : j ≤ 1024 := by omega
        have HSZ : w.heap.size ≤ V.heap.size := HKV.out.size
        obtain ⟨c0, c1, f0, f1, lt⟩ := HBV.out.box
        go_wp2_with (at_builtin; refine wpList_appS_lit stSlotL rfl _ _ rfl w.heap.size _ j _ rfl HOV.out _ 1 _ _ rfl (by simp) rfl rfl (by omega) (by unfold maxLen; omega) HSZ ?_; intro v9 w9 hown9 hg9 hb9; have hown8 : w9.ownsRow w.heap.size 174 2 v9 (j + 1) ((lj ++ [(⟨5, 0⟩ : KS)]).flatMap KS.cells) := (by rw [List.flatMap_append]; exact hown9); obtain ⟨a9, c9, rfl, -, -⟩ := Ss.ofOwn KS.cells_length (by decide) hown8; have HO9 := Lib.hid hown8; have HS9 := Lib.hid (HSVV.out.app HOV.out hg9 (by decide) (by decide) hw0); have HK9 := Lib.hid (HKV.out.thenB hb9); clear hown9 hown8 hg9 hb9 c0 c1 f0 f1 lt)
        go_roundg (n - (j + 1))
        case measure => omega
        case rel => exact ⟨j + 1, _, _, by omega, rfl, rfl, by go_num, Lib.hid (by rw [HSN.out, HRR.out]; exact HS9.out), HK9, Lib.hid (by rw [HSN.out, HRR.out]; exact HO9.out)⟩
      cases ok
      · have HRR := Lib.hid (show RS = (((sj.need (arrayB t) 8).cls t true).1, ⟨7, (((sj.need (arrayB t) 8).cls t true).2 : Nat)⟩) by
          rw [HRS.out]
          unfold LW.slot
          rw [if_neg h84, if_neg h73, if_neg h74, if_neg h78, if_neg (fun h => by rw [← HOK.out] at h; cases h)])
        generalize arrayB t = ab at *
        have HC := Lib.hid (fun V hs hB9 => alclass_any V B g (sj.need ab 8) t true hs HT.out (show sj.l.length ≤ _ by omega) hB9)
        have HNN := Lib.hid (fun V (h : LoS V B g sj) => alneed_any V B g sj ab 8 h)
        generalize (sj.need ab 8).cls t true = C5 at *
        obtain ⟨s5, i5⟩ := C5
        dsimp only at HC HRR
        have HVV := Lib.hid (show VW W from by obtain ⟨a, cap, b, h⟩ := HS1.out; exact h.vw)
        have e84 : (t == [84]) = false := by simpa using h84
        have e73 : (t == [73]) = false := by simpa using h73
        have e74 : (t == [74]) = false := by simpa using h74
        have e78 : (t == [78]) = false := by simpa using h78
        clear h84 h73 h74 h78
        go_wp2_with fail
        refine (HCO.out W).mono ?_
        rintro e W0 ⟨rfl, hwq⟩
        replace hwq := hwq.symm
        subst hwq
        go_wp2_with fail
        refine (HIA.out W HVV.out).mono ?_
        rintro e V1 ⟨rfl, hb1⟩
        have HB1 := Lib.hid (show Blk2 V1 gs (.int .i64 7) (.int .i64 0) 174 from row_below HSB.out hb1)
        have HS2 := Lib.hid (HS1.out.below hb1)
        have HK2 := Lib.hid (HK1.out.trans (KeepL.of hb1))
        have HO2 := Lib.hid (own_below HO1.out hb1)
        clear hb1 HSB HS1 HK1 HO1
        go_wp2_with fail
        refine (HNN.out V1 HS2.out).mono ?_
        rintro e V2 ⟨rfl, hs3, hk3⟩
        have HB3 := Lib.hid (HB1.out.keepL hk3 (by decide) (by decide))
        have HS3 := Lib.hid hs3
        have HK3 := Lib.hid (HK2.out.trans hk3)
        have HO3 := Lib.hid (KeepL.own HO2.out hk3 (by decide) (by decide))
        clear hs3 hk3 HB1 HS2 HK2 HO2
        go_wp2_with fail
        refine (HC.out V2 HS3.out (Nat.le_trans HBW.out HK3.out.size)).mono ?_
        rintro e V0 ⟨rfl, hs5, hk5⟩
        have HB5 := Lib.hid (HB3.out.keepL hk5 (by decide) (by decide))
        have HS5 := Lib.hid hs5
        have HK5 := Lib.hid (HK3.out.trans hk5)
        have HO5 := Lib.hid (KeepL.own HO3.out hk5 (by decide) (by decide))
        clear hs5 hk5 HC HB3 HS3 HK3 HO3
        obtain ⟨c0, c1, f0, f1, lt⟩ := HB5.out.box
        go_upto_region 19 with fail
        have HBV := Lib.hid (show Blk2 (V0.setCell ⟨gs, 1, none⟩ (.int .i64 (i5 : Nat))) gs (.int .i64 7) (.int .i64 (i5 : Nat)) 174 from HB5.out.set1)
        have HSVV := Lib.hid (HS5.out.setO HB5.out (by decide) (by decide) hgs0 1 (.int .i64 (i5 : Nat)))
        have HKV := Lib.hid (HK5.out.thenB (show Below w.heap.size V0 (V0.setCell ⟨gs, 1, none⟩ (.int .i64 (i5 : Nat))) from (Below.refl _ _).setCell hwr _))
        have HOV := Lib.hid (own_set2 HO5.out HGN.out 1 (.int .i64 (i5 : Nat)))
        clear c0 c1 f0 f1 lt HB5 HS5 HK5 HO5
        generalize V0.setCell ⟨gs, 1, none⟩ (.int .i64 (i5 : Nat)) = V at *
        have hjn : j ≤ 1024 := by omega
        have HSZ : w.heap.size ≤ V.heap.size := HKV.out.size
        obtain ⟨c0, c1, f0, f1, lt⟩ := HBV.out.box
        go_wp2_with (at_builtin; refine wpList_appS_lit stSlotL rfl _ _ rfl w.heap.size _ j _ rfl HOV.out _ 1 _ _ rfl (by simp) rfl rfl (by omega) (by unfold maxLen; omega) HSZ ?_; intro v9 w9 hown9 hg9 hb9; have hown8 : w9.ownsRow w.heap.size 174 2 v9 (j + 1) ((lj ++ [(⟨7, (i5 : Nat)⟩ : KS)]).flatMap KS.cells) := (by rw [List.flatMap_append]; exact hown9); obtain ⟨a9, c9, rfl, -, -⟩ := Ss.ofOwn KS.cells_length (by decide) hown8; have HO9 := Lib.hid hown8; have HS9 := Lib.hid (HSVV.out.app HOV.out hg9 (by decide) (by decide) hw0); have HK9 := Lib.hid (HKV.out.thenB hb9); clear hown9 hown8 hg9 hb9 c0 c1 f0 f1 lt)
        go_roundg (n - (j + 1))
        case measure => omega
        case rel => exact ⟨j + 1, _, _, by omega, rfl, rfl, by go_num, Lib.hid (by rw [HSN.out, HRR.out]; exact HS9.out), HK9, Lib.hid (by rw [HSN.out, HRR.out]; exact HO9.out)⟩
      · have HRR := Lib.hid (show RS = ((sj.cls sv false).1, ⟨7, ((sj.cls sv false).2 : Nat)⟩) by
          rw [HRS.out]
          unfold LW.slot
          rw [if_neg h84, if_neg h73, if_neg h74, if_neg h78, if_pos (HOK.out.symm), HSV.out])
        have HC := Lib.hid (fun (h : sv.length ≤ 65536) => alclass_any W B g sj sv false HS1.out h (by omega) (Nat.le_trans HBW.out HK1.out.size))
        have hsvl : sv.length ≤ 65536 := by rw [← HSV.out]; exact Nat.le_trans (semV_len t) HT.out
        have hl5 : (sj.cls sv false).1.l.length ≤ sj.l.length + 4 := cls_len _ _ _
        generalize sj.cls sv false = C5 at *
        obtain ⟨s5, i5⟩ := C5
        dsimp only at hl5 HC HRR
        have e84 : (t == [84]) = false := by simpa using h84
        have e73 : (t == [73]) = false := by simpa using h73
        have e74 : (t == [74]) = false := by simpa using h74
        have e78 : (t == [78]) = false := by simpa using h78
        clear h84 h73 h74 h78
        go_wp2_with fail
        refine (HCO.out W).mono ?_
        rintro e W0 ⟨rfl, hwq⟩
        replace hwq := hwq.symm
        subst hwq
        go_wp2_with fail
        refine (HC.out hsvl).mono ?_
        rintro e V0 ⟨rfl, hs5, hk5⟩
        have HB5 := Lib.hid (HSB.out.keepL hk5 (by decide) (by decide))
        have HS5 := Lib.hid hs5
        have HK5 := Lib.hid (HK1.out.trans hk5)
        have HO5 := Lib.hid (KeepL.own HO1.out hk5 (by decide) (by decide))
        clear hs5 hk5 HSB HS1 HK1 HO1 HC
        obtain ⟨c0, c1, f0, f1, lt⟩ := HB5.out.box
        go_upto_region 19 with fail
        have HBV := Lib.hid (show Blk2 (V0.setCell ⟨gs, 1, none⟩ (.int .i64 (i5 : Nat))) gs (.int .i64 7) (.int .i64 (i5 : Nat)) 174 from HB5.out.set1)
        have HSVV := Lib.hid (HS5.out.setO HB5.out (by decide) (by decide) hgs0 1 (.int .i64 (i5 : Nat)))
        have HKV := Lib.hid (HK5.out.thenB (show Below w.heap.size V0 (V0.setCell ⟨gs, 1, none⟩ (.int .i64 (i5 : Nat))) from (Below.refl _ _).setCell hwr _))
        have HOV := Lib.hid (own_set2 HO5.out HGN.out 1 (.int .i64 (i5 : Nat)))
        clear c0 c1 f0 f1 lt HB5 HS5 HK5 HO5
        generalize V0.setCell ⟨gs, 1, none⟩ (.int .i64 (i5 : Nat)) = V at *
        have hjn : j ≤ 1024 := by omega
        have HSZ : w.heap.size ≤ V.heap.size := HKV.out.size
        obtain ⟨c0, c1, f0, f1, lt⟩ := HBV.out.box
        go_wp2_with (at_builtin; refine wpList_appS_lit stSlotL rfl _ _ rfl w.heap.size _ j _ rfl HOV.out _ 1 _ _ rfl (by simp) rfl rfl (by omega) (by unfold maxLen; omega) HSZ ?_; intro v9 w9 hown9 hg9 hb9; have hown8 : w9.ownsRow w.heap.size 174 2 v9 (j + 1) ((lj ++ [(⟨7, (i5 : Nat)⟩ : KS)]).flatMap KS.cells) := (by rw [List.flatMap_append]; exact hown9); obtain ⟨a9, c9, rfl, -, -⟩ := Ss.ofOwn KS.cells_length (by decide) hown8; have HO9 := Lib.hid hown8; have HS9 := Lib.hid (HSVV.out.app HOV.out hg9 (by decide) (by decide) hw0); have HK9 := Lib.hid (HKV.out.thenB hb9); clear hown9 hown8 hg9 hb9 c0 c1 f0 f1 lt)
        go_roundg (n - (j + 1))
        case measure => omega
        case rel => exact ⟨j + 1, _, _, by omega, rfl, rfl, by go_num, Lib.hid (by rw [HSN.out, HRR.out]; exact HS9.out), HK9, Lib.hid (by rw [HSN.out, HRR.out]; exact HO9.out)⟩
    · obtain rfl : j = n := by omega
      have hfull : l.take j = l := List.take_of_length_le (by rw [HLn.out]; exact Nat.le_refl _)
      rw [hfull] at HS HO
      clear hlt
      go_wp2_with fail
      go_ret
      exact ⟨_, _, rfl, HO.out, HS.out, HK.out⟩
end Go.Proofs.YtclpkipaehpkdaaGreatDoor

