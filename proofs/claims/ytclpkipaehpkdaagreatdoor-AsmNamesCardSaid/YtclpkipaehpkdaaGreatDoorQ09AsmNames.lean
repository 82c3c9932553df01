/- asm: own texts, merged (wip/merge2.py). No condition. -/
import Derived.Test.YtclpkipaehpkdaaGreatDoorQ08AsmNames
import Derived.Test.YtclpkipaehpkdaaGreatDoorQ04AsmNames
import Derived.Test.YtclpkipaehpkdaaGreatDoorQ07AsmNames
set_option linter.unusedVariables false
set_option linter.unusedSimpArgs false
namespace Go.Proofs.YtclpkipaehpkdaaGreatDoor
open Go.ChangeShapes Go.WideShapes Go.ChangeAt Go.RowKit
theorem opAt_lt (bs : List UInt8) (p : Nat) : opAt bs p < 256 := (bs.getD p 0).toNat_lt
theorem sizeN_pos {f : Nat} (h0 : f ≠ 0) (h9 : f ≤ 9) : 1 ≤ sizeN f := by
  match f, h0, h9 with
  | 1, _, _ | 2, _, _ | 3, _, _ | 4, _, _ | 5, _, _ | 6, _, _ | 7, _, _ | 8, _, _ | 9, _, _ => decide
  | n + 10, _, h => omega
theorem tellV_small (bs : List UInt8) (p f : Nat) : 0 ≤ tellV bs p f ∧ tellV bs p f < 65536 := by
  have h1 := getR_bound bs ((p : Int) + 1) ((max (sizeN f - 1) 1 : Nat) : Int)
  have h2 := getR_small bs ((p : Int) + 1) ((max (sizeN f - 1) 1 : Nat) : Int) 2 (by have := sizeN_le f; omega) (by decide)
  unfold tellV
  refine ⟨h1.1, ?_⟩
  rw [show ((256 ^ 2 : Nat) : Int) = 65536 from rfl] at h2
  exact h2
theorem readA_small (bs : List UInt8) (p f : Nat) : -32768 ≤ readA bs p f ∧ readA bs p f ≤ (p : Int) + 65536 := by
  have h := tellV_small bs p f
  unfold readA
  generalize tellV bs p f = v at *
  have h1 := signB_1 v
  have h2 := signB_2 v
  simp only
  split
  · omega
  split
  · omega
  split
  · omega
  split
  · omega
  split
  · omega
  · omega
theorem intRo_of {n : Int} (h : -9223372036854775808 ≤ n ∧ n ≤ 9223372036854775807) : IntRo n := by
  unfold IntRo Lit.wf
  simp only [Bool.and_eq_true, decide_eq_true_eq]
  exact h
theorem rawAt_wf (bs : List UInt8) (p : Nat) (hp : p ≤ 1048576) : IntRo (rawAt bs p).pos ∧ IntRo (rawAt bs p).a ∧ (rawAt bs p).op < 256 := by
  have h := readA_small bs p (formN (opAt bs p))
  exact ⟨intRo_of (by unfold rawAt; simp only; omega), intRo_of (by unfold rawAt; simp only; omega), opAt_lt bs p⟩
theorem decF_end (bs : List UInt8) (fuel p : Nat) (acc : List RW) (h : bs.length ≤ p) : decF bs fuel p acc = (0, acc) := by
  cases fuel
  · rfl
  · unfold decF; rw [if_pos h]
theorem decF_none (bs : List UInt8) (fuel p : Nat) (acc : List RW) (h : p < bs.length) (h0 : formN (opAt bs p) = 0) : decF bs (fuel + 1) p acc = (8, []) := by
  rw [decF, if_neg (by omega), if_pos h0]
theorem decF_short (bs : List UInt8) (fuel p : Nat) (acc : List RW) (h : p < bs.length) (h0 : formN (opAt bs p) ≠ 0) (h1 : bs.length - p < sizeN (formN (opAt bs p))) : decF bs (fuel + 1) p acc = (6, []) := by
  rw [decF, if_neg (by omega), if_neg h0, if_pos h1]
theorem decF_bad (bs : List UInt8) (fuel p : Nat) (acc : List RW) (h : p < bs.length) (h0 : formN (opAt bs p) ≠ 0) (h1 : ¬ bs.length - p < sizeN (formN (opAt bs p))) (h2 : readBad bs p (formN (opAt bs p)) = true) : decF bs (fuel + 1) p acc = (8, []) := by
  rw [decF, if_neg (by omega), if_neg h0, if_neg h1, if_pos h2]
theorem decF_next (bs : List UInt8) (fuel p : Nat) (acc : List RW) (h : p < bs.length) (h0 : formN (opAt bs p) ≠ 0) (h1 : ¬ bs.length - p < sizeN (formN (opAt bs p))) (h2 : readBad bs p (formN (opAt bs p)) = false) :
    decF bs (fuel + 1) p acc = decF bs fuel (p + sizeN (formN (opAt bs p))) (acc ++ [rawAt bs p]) := by
  rw [decF, if_neg (by omega), if_neg h0, if_neg h1, if_neg (by rw [h2]; decide)]
theorem decode_long {bs : List UInt8} (h : 4096 < bs.length) : decodeR bs = (9, []) := by unfold decodeR; rw [if_pos h]
theorem decode_err {bs : List UInt8} {e : Int} (h : ¬ 4096 < bs.length) (hd : decF bs (bs.length + 1) 0 [] = (e, [])) (he : e ≠ 0) : decodeR bs = (e, []) := by
  unfold decodeR; rw [if_neg h, hd, if_pos he]
theorem decode_range {bs : List UInt8} {l : List RW} (h : ¬ 4096 < bs.length) (hd : decF bs (bs.length + 1) 0 [] = (0, l)) (hg : goesB l = false) : decodeR bs = (2, []) := by
  unfold decodeR; rw [if_neg h, hd, if_neg (by simp), if_neg (by simp [hg])]
theorem decode_ok {bs : List UInt8} {l : List RW} (h : ¬ 4096 < bs.length) (hd : decF bs (bs.length + 1) 0 [] = (0, l)) (hg : goesB l = true) : decodeR bs = (0, l) := by
  unfold decodeR; rw [if_neg h, hd, if_neg (by simp), if_pos hg]
end Go.Proofs.YtclpkipaehpkdaaGreatDoor

namespace Go.Proofs.YtclpkipaehpkdaaGreatDoor
open Go.ChangeShapes Go.WideShapes Go.ChangeAt Go.RowKit
theorem stR : StE 112 118 (.agg #[.int .i64 0, .int .u8 0, .int .i64 0, .int .i64 0]) 4 32 := ⟨Tryz.underlying112, by kernel_rfl, rfl⟩
theorem kept_type {w w' : World} {B : Nat} {e t : TypeId} {size : Nat} {v : Value} {n g : Nat} {xs : List Value} {o : Obj} {cs : Array Value} {fr : Nat × Nat} (ho : w.ownsRow B e size v n xs) (hg : (w.alloc o).grownBy w' v.ownBlock) (hx : w.heap[g]? = some (.cells cs t fr)) (hne : e ≠ t) : w'.heap[g]? = some (.cells cs t fr) := by
  have hlt := (Array.getElem?_eq_some_iff.1 hx).1
  rw [hg.block g (by simp; omega) ?_, Below.heap_alloc _ _ _ hlt]
  · exact hx
  · intro he
    rcases ho.2 with ⟨rfl, _⟩ | ⟨g2, cap, cur, rfl, _, hg2, _⟩
    · simp [Value.ownBlock] at he
    · simp [Value.ownBlock] at he
      subst he
      rw [hg2] at hx
      simp at hx
      exact hne hx.2.1
theorem kept_size {w w' : World} {o : Obj} {row : Option Nat} {g : Nat} (hg : (w.alloc o).grownBy w' row) (h : g < w.heap.size) : g < w'.heap.size := by
  have h1 := hg.size
  simp at h1
  omega
def DecodeRet (R : Int × List RW) (w : World) (e : Ending) (w' : World) : Prop :=
  ∃ v m, e = .returned (.tuple #[v, .int .i64 R.1]) ∧ w'.ownsRow w.heap.size 118 4 v m (R.2.flatMap RW.cells) ∧ (∀ r ∈ R.2, IntRo r.pos ∧ IntRo r.a ∧ r.op < 256) ∧ Below w.heap.size w w'
theorem DecodeRet.err {R : Int × List RW} {w w' : World} {e : Int} (h : R = (e, [])) (hb : Below w.heap.size w w') : DecodeRet R w (.returned (.tuple #[.slice none 0 0, .int .i64 e])) w' := by
  subst h
  exact ⟨_, 0, rfl, World.ownsRow_nil _ _ _ _, (fun r hr => by cases hr), hb⟩
set_option maxRecDepth 100000 in
set_option maxHeartbeats 8000000 in
theorem oDecode_any (w : World) (a : Option Addr) (n cap : Nat) (bs : List UInt8) (hs : Sl encB w a n bs) (hn : n ≤ 65536) (hcap : n ≤ cap) : Calls Tryz.prog 53 #[.slice a n cap] w (DecodeRet (decodeR bs) w) := by
  have HS := Lib.hid hs
  have HLn := Lib.hid hs.1
  obtain ⟨R, hR⟩ : ∃ R, R = decodeR bs := ⟨_, rfl⟩
  rw [← hR]
  have HR := Lib.hid hR
  clear hs hR
  by_cases h4 : 4096 < n
  · have HQ := Lib.hid (show R = (9, []) by rw [HR.out]; exact decode_long (by rw [HLn.out]; exact h4))
    have e1 : decide ((4096 : Int) < n) = true := by simp; omega
    go_enter Tryz.func53, Tryz.ntmps53
    go_wp2_with fail
    go_ret2
    exact DecodeRet.err HQ.out (Below.refl _ _)
  have e1 : decide ((4096 : Int) < n) = false := by simp; omega
  have H4 := Lib.hid (show ¬ 4096 < bs.length by rw [HLn.out]; exact h4)
  have hz := zero8
  go_enter Tryz.func53, Tryz.ntmps53
  go_wp2_with fail
  refine (forms_any _).mono ?_
  rintro e w1 ⟨rfl, hb1⟩
  have HB1 := Lib.hid hb1
  clear hb1
  go_wp2_with (first
    | (refine wpList_store_new rfl _ _ _ rfl _ rfl rfl _ _ (by rw [tabN_size]; exact infoTab) (by simp [tabN_size, zs8]) (tabN_one _) ?_))
  clear hz
  have HT1 := Lib.hid (heap_alloc_last w1 (.cells (tabN formN) 164))
  have HB2 := Lib.hid (HB1.out.alloc HB1.out.size (.cells (tabN formN) 164))
  have hg1 : w1.heap.size < (w1.alloc (.cells (tabN formN) 164)).heap.size := by simp
  generalize w1.alloc (.cells (tabN formN) 164) = w2 at *
  generalize hgt : w1.heap.size = gt at *
  clear hgt HB1
  go_loopg [5, 6] n (fun gn v i wr => ∃ p fuel m : Nat, ∃ acc, p ≤ n ∧ gn = n - p ∧ i = .int .i64 p ∧ n < fuel + p ∧ m ≤ p ∧ Hid (wr.ownsRow w.heap.size 118 4 v m (acc.flatMap RW.cells)) ∧ Hid (∀ r ∈ acc, IntRo r.pos ∧ IntRo r.a ∧ r.op < 256) ∧
    Hid (wr.heap[gt]? = some (.cells (tabN formN) 164)) ∧ Hid (Below w.heap.size w wr) ∧ Hid (decF bs (bs.length + 1) 0 [] = decF bs fuel p acc) ∧ gt < wr.heap.size)
  case atStart => exact ⟨0, n + 1, 0, [], by omega, by omega, by go_num, by omega, by omega, Lib.hid (World.ownsRow_nil _ _ _ _), Lib.hid (fun r hr => by cases hr), HT1, HB2, Lib.hid (by rw [HLn.out]), hg1⟩
  case round =>
    obtain ⟨p, fuel, m, acc, hp, rfl, rfl, hf, hm, HO, HW, HT, HB, HD, hgl⟩ := hrel
    by_cases hlt : p < n
    · obtain ⟨fuel, rfl⟩ : ∃ f, fuel = f + 1 := ⟨fuel - 1, by omega⟩
      obtain ⟨b, off, rfl, hbl, hc⟩ := (HS.out.below HB.out).2 (by omega)
      have hpl : p < bs.length := by rw [HLn.out]; exact hlt
      have q0 := hc p hpl
      have hop : bs[p].toNat = opAt bs p := by unfold opAt; simp [List.getD, hpl]
      unfold encB at q0
      rw [hop] at q0
      have hol := opAt_lt bs p
      have hf9 := formN_le (opAt bs p)
      have HRD := Lib.hid (fun (w' : World) (hb : Below w.heap.size w w') (g : Nat) (hk : RBlk w' g p (opAt bs p) 0 0) (h0 : formN (opAt bs p) ≠ 0) => read_any w' (some ⟨b, off, none⟩) n cap bs g p (opAt bs p) (formN (opAt bs p)) (HS.out.below hb) (by omega) hcap (by omega) hk h0 hf9)
      have HSZ := Lib.hid (fun (w' : World) => size_any w' (formN (opAt bs p)) hf9)
      have HNO := Lib.hid (decF_none bs fuel p acc hpl)
      have HSH := Lib.hid (decF_short bs fuel p acc hpl)
      have HBA := Lib.hid (decF_bad bs fuel p acc hpl)
      have HNX := Lib.hid (decF_next bs fuel p acc hpl)
      have HRW : Hid (rawAt bs p = ⟨p, opAt bs p, readA bs p (formN (opAt bs p)), readB bs p (formN (opAt bs p))⟩) := Lib.hid rfl
      have HWF := Lib.hid (rawAt_wf bs p (by omega))
      have hsp := fun h0 => sizeN_pos (f := formN (opAt bs p)) h0 hf9
      have hs3 := sizeN_le (formN (opAt bs p))
      have tc : wr.cell? ⟨gt, opAt bs p, none⟩ = some (.int .u8 (formN (opAt bs p) : Nat)) := by rw [cell_of_row wr _ _ _ _ _ HT.out]; exact tabN_at _ _ hol
      have p1 : (p : Int) < n := by omega
      have o1 : (opAt bs p : Int) < 256 := by omega
      rw [HLn.out] at HSH HBA HNX
      clear hc hop hpl
      unfold ReadRet at HRD
      generalize readBad bs p (formN (opAt bs p)) = bad at *
      generalize readA bs p (formN (opAt bs p)) = ra at *
      generalize readB bs p (formN (opAt bs p)) = rb at *
      generalize formN (opAt bs p) = f at *
      generalize sizeN f = s at *
      generalize opAt bs p = o at *
      by_cases h0 : f = 0
      · subst h0
        have HQ := Lib.hid (show R = (8, []) by rw [HR.out]; exact decode_err H4.out (by rw [HD.out]; exact HNO.out rfl) (by decide))
        clear HNO HSH HBA HNX HRD HSZ
        go_wp2_with fail
        go_ret2
        exact DecodeRet.err HQ.out (HB.out.alloc HB.out.size _)
      have hs1 := hsp h0
      have e0 : ((f : Int) == 0) = false := by simp; omega
      clear hsp
      by_cases h1 : n - p < s
      · have HQ := Lib.hid (show R = (6, []) by rw [HR.out]; exact decode_err H4.out (by rw [HD.out]; exact HSH.out h0 h1) (by decide))
        have e2 : decide ((n : Int) - p < s) = true := by simp; omega
        clear HNO HSH HBA HNX HRD h0
        go_wp2_with fail
        refine (HSZ.out _).mono ?_
        rintro e w' ⟨rfl, rfl⟩
        go_wp2_with fail
        go_ret2
        exact DecodeRet.err HQ.out (HB.out.alloc HB.out.size _)
      have e2 : decide ((n : Int) - p < s) = false := by simp; omega
      have H0 := Lib.hid h0
      have H1 := Lib.hid h1
      have hsn : p + s ≤ n := by omega
      clear h0 h1
      go_wp2_with fail
      refine (HSZ.out _).mono ?_
      rintro e w' ⟨rfl, rfl⟩
      go_wp2_with fail
      have hal : Below w.heap.size w (wr.alloc (.cells #[.int .i64 p, .int .u8 (o : Nat), .int .i64 0, .int .i64 0] 118)) := HB.out.alloc HB.out.size _
      refine (HRD.out _ hal wr.heap.size (heap_alloc_last wr _) H0.out).mono ?_
      rintro e w3 ⟨rfl, hk3, hg3⟩
      have HWW := Lib.hid (((Below.refl wr.heap.size wr).alloc (Nat.le_refl _) (.cells #[.int .i64 p, .int .u8 (o : Nat), .int .i64 0, .int .i64 0] 118)).grown hg3 (by simp) (fun k hk => by cases hk; exact Nat.le_refl _))
      have HB3 := Lib.hid (HB.out.trans (HWW.out.mono HB.out.size))
      have HK3 := Lib.hid hk3
      clear hk3 hg3 hal
      obtain ⟨⟨c0, c1, c2, c3⟩, _, hgw⟩ := HK3.out.box
      cases bad
      · simp only [Bool.false_eq_true, if_false]
        have HO3 := Lib.hid (own_below HO.out HWW.out)
        have HT3 := Lib.hid (show w3.heap[gt]? = some (.cells (tabN formN) 164) by rw [HWW.out.block gt hgl]; exact HT.out)
        have hg3' : gt < w3.heap.size := (Array.getElem?_eq_some_iff.1 HT3.out).1
        have HDN := Lib.hid (HD.out.trans (HNX.out H0.out H1.out rfl))
        rw [HRW.out] at HDN HWF
        go_wp2_with (at_builtin; first
          | (refine wpList_appS_lit stR rfl _ _ rfl w.heap.size _ _ _ rfl HO3.out _ 1 _ _ rfl rfl rfl rfl (by omega) (by unfold maxLen; omega) HB3.out.size ?_; intro v4 w4 hown4 hg4 hb4; have HO4 := Lib.hid hown4; have HB4 := Lib.hid (HB3.out.trans hb4); have HT4 := Lib.hid (kept_type HO3.out hg4 HT3.out (by decide)); have hg4' := kept_size hg4 hg3'; clear hown4 hg4 hb4))
        refine (HSZ.out _).mono ?_
        rintro e w' ⟨rfl, rfl⟩
        go_wp2_with fail
        go_roundg (n - (p + s))
        case measure => omega
        case rel => exact ⟨p + s, fuel, m + 1, acc ++ [⟨p, o, ra, rb⟩], by omega, rfl, by go_num, by omega, by omega, Lib.hid (by rw [List.flatMap_append]; exact HO4.out), Lib.hid (fun r hr => by
          rcases List.mem_append.1 hr with h | h
          · exact HW.out r h
          · rw [List.mem_singleton.1 h]; exact HWF.out), HT4, HB4, HDN, hg4'⟩
      · simp only [if_true]
        have HQ := Lib.hid (show R = (8, []) by rw [HR.out]; exact decode_err H4.out (by rw [HD.out]; exact HBA.out H0.out H1.out rfl) (by decide))
        clear HNO HSH HBA HNX HRD HSZ
        go_wp2_with fail
        go_ret2
        exact DecodeRet.err HQ.out HB3.out
    · obtain rfl : p = n := by omega
      have HDE := Lib.hid (HD.out.trans (decF_end bs fuel p acc (by rw [HLn.out]; exact Nat.le_refl _)))
      obtain ⟨va, vc, rfl, hss, hcc⟩ := Ss.ofOwn RW.cells_length (by decide) HO.out
      have HG := Lib.hid (fun w' (hb : Below wr.heap.size wr w') => goes_any w' va m vc acc (Rs.below hss hb) (by omega) HW.out)
      clear hss
      go_wp2_with (first
        | (refine wpList_load_row rfl _ _ rfl _ rfl _ _ _ _ HT.out Tryz.underlying164 rfl (by rw [tabN_size]; exact infoTab) ?_))
      refine (HG.out _ (Below.refl _ _)).mono ?_
      rintro e w3 ⟨rfl, hb3⟩
      have HB3 := Lib.hid (HB.out.trans (hb3.mono HB.out.size))
      have HO3 := Lib.hid (own_below HO.out hb3)
      clear hb3
      cases hg : goesB acc
      · have HQ := Lib.hid (show R = (2, []) by rw [HR.out]; exact decode_range H4.out HDE.out hg)
        clear hg
        go_wp2_with fail
        go_ret2
        exact DecodeRet.err HQ.out HB3.out
      · have HQ := Lib.hid (show R = (0, acc) by rw [HR.out]; exact decode_ok H4.out HDE.out hg)
        clear hg
        go_wp2_with fail
        go_ret2
        exact ⟨_, m, by rw [HQ.out]; rfl, by rw [HQ.out]; exact HO3.out, by rw [HQ.out]; exact HW.out, HB3.out⟩
end Go.Proofs.YtclpkipaehpkdaaGreatDoor

namespace Go.Proofs.YtclpkipaehpkdaaGreatDoor
open Go.ChangeShapes Go.WideShapes Go.ChangeAt Go.RowKit
structure KeepP (p : Nat → Prop) (w w' : World) : Prop where
  os : w'.os = w.os
  tape : w'.tape = w.tape
  output : w'.output = w.output
  size : w.heap.size ≤ w'.heap.size
  block : ∀ k, k < w.heap.size → ¬ p k → w'.heap[k]? = w.heap[k]?
theorem KeepP.refl (p : Nat → Prop) (w : World) : KeepP p w w := ⟨rfl, rfl, rfl, Nat.le_refl _, fun _ _ _ => rfl⟩
theorem KeepP.trans {p : Nat → Prop} {w w1 w2 : World} (h : KeepP p w w1) (k : KeepP p w1 w2) : KeepP p w w2 :=
  ⟨k.os.trans h.os, k.tape.trans h.tape, k.output.trans h.output, Nat.le_trans h.size k.size, fun i hi hg => by rw [k.block i (Nat.lt_of_lt_of_le hi h.size) hg, h.block i hi hg]⟩
theorem KeepP.of {p : Nat → Prop} {w w1 : World} (h : Below w.heap.size w w1) : KeepP p w w1 := ⟨h.os, h.tape, h.output, h.size, fun k hk _ => h.block k hk⟩
theorem KeepP.weak {p q : Nat → Prop} {w w1 : World} (h : KeepP p w w1) (hpq : ∀ k, k < w.heap.size → p k → q k) : KeepP q w w1 := ⟨h.os, h.tape, h.output, h.size, fun k hk hq => h.block k hk (fun hp => hq (hpq k hk hp))⟩
theorem KeepP.drewN {p : Nat → Prop} {w w1 : World} (h : KeepP p w w1) (n : Nat) : KeepP p w (w1.drewN n) := h.trans (KeepP.of (below_dn w1 n))
theorem KeepP.set {p : Nat → Prop} {w w1 : World} (h : KeepP p w w1) {g : Nat} (hg : p g ∨ w.heap.size ≤ g) (o : Nat) (v : Value) : KeepP p w (w1.setCell ⟨g, o, none⟩ v) :=
  ⟨h.os, h.tape, h.output, by have := h.size; unfold World.setCell; simpa using this, fun k hk hq => by
    rw [← h.block k hk hq]
    unfold World.setCell
    have hne : ¬ g = k := by
      rintro rfl
      rcases hg with h1 | h1
      · exact hq h1
      · omega
    simp [Array.getElem?_modify, hne]⟩
theorem KeepP.setg {w w1 : World} {g : Nat} (h : KeepP (fun x => x = g) w w1) (o : Nat) (v : Value) : KeepP (fun x => x = g) w (w1.setCell ⟨g, o, none⟩ v) := KeepP.set h (Or.inl (rfl : g = g)) o v
theorem KeepP.below {p : Nat → Prop} {B : Nat} {w0 w w' : World} (h : KeepP p w w') (hb : Below B w0 w) (hB : B ≤ w0.heap.size) (hp : ∀ k, p k → B ≤ k) : Below B w0 w' :=
  ⟨h.os.trans hb.os, h.tape.trans hb.tape, h.output.trans hb.output, Nat.le_trans hb.size h.size, fun k hk => by
    rw [h.block k (Nat.lt_of_lt_of_le (Nat.lt_of_lt_of_le hk hB) hb.size) (fun hk2 => by have := hp k hk2; omega)]; exact hb.block k hk⟩
theorem KeepP.row {p : Nat → Prop} {w w' : World} (h : KeepP p w w') {g : Nat} {o : Obj} (hg : w.heap[g]? = some o) (hp : ¬ p g) : w'.heap[g]? = some o := by
  rw [h.block g (Array.getElem?_eq_some_iff.1 hg).1 hp]; exact hg
theorem KeepP.ss {p : Nat → Prop} {α : Type} {z : Nat} {enc : α → List Value} {w w' : World} {x : Option Addr} {n : Nat} {xs : List α} (h : KeepP p w w') (hs : Ss z enc w x n xs) (h1 : 0 < n → ∀ b off, x = some ⟨b, off, none⟩ → ¬ p b) : Ss z enc w' x n xs := by
  refine ⟨hs.1, fun hn => ?_⟩
  obtain ⟨b, off, ha, hlt, hc⟩ := hs.2 hn
  refine ⟨b, off, ha, Nat.lt_of_lt_of_le hlt h.size, fun i hi j hj => ?_⟩
  rw [← hc i hi j hj]
  unfold World.cell?
  rw [h.block b hlt (h1 hn b off ha)]
theorem KeepP.vw {p : Nat → Prop} {w w' : World} (h : KeepP p w w') (hv : VW w) (h0 : ¬ p 0) : VW w' := by
  obtain ⟨m, hm⟩ := hv
  refine ⟨m, ?_⟩
  have hlt : 0 < w.heap.size := by
    rcases Nat.eq_zero_or_pos w.heap.size with h1 | h1
    · exfalso
      have : w.heap[0]? = none := Array.getElem?_eq_none (by omega)
      simp [World.cell?, this] at hm
    · exact h1
  rw [← hm]
  unfold World.cell?
  rw [h.block 0 hlt h0]
def EqWc (x y : World) : Prop := y = x
def needE (er : Int) (ok : Bool) (k : Int) : Int := if ok = false ∧ er = 0 then k else er
structure LfS (w : World) (g : Nat) (a : Option Addr) (n cap : Nat) (L : List KV) (er : Int) : Prop where
  k : Blk2 w g (.slice a n cap) (.int .i64 er) 72
  ks : Ks w a n L
  sm : n ≤ 65536
  off : Off1 a n g
  tx : ∀ i : Int, (kAt L i).s.length ≤ 65536
  vw : VW w
  g0 : 0 < g
theorem LfS.below {w w' : World} {g : Nat} {a : Option Addr} {n cap : Nat} {L : List KV} {er : Int} (h : LfS w g a n cap L er) (hb : Below w.heap.size w w') : LfS w' g a n cap L er := ⟨h.k.below hb, h.ks.below hb, h.sm, h.off, h.tx, h.vw.below hb, h.g0⟩
theorem LfS.keep {p : Nat → Prop} {w w' : World} {g : Nat} {a : Option Addr} {n cap : Nat} {L : List KV} {er : Int} (h : LfS w g a n cap L er) (hk : KeepP p w w') (hg : ¬ p g) (h0 : ¬ p 0) (ha : 0 < n → ∀ b off, a = some ⟨b, off, none⟩ → ¬ p b) : LfS w' g a n cap L er :=
  ⟨hk.row h.k hg, hk.ss h.ks ha, h.sm, h.off, h.tx, hk.vw h.vw h0, h.g0⟩
theorem LfS.lt {w : World} {g : Nat} {a : Option Addr} {n cap : Nat} {L : List KV} {er : Int} (h : LfS w g a n cap L er) : g < w.heap.size := h.k.box.lt
theorem LfS.set {w : World} {g : Nat} {a : Option Addr} {n cap : Nat} {L : List KV} {er : Int} (h : LfS w g a n cap L er) (e2 : Int) : LfS (w.setCell ⟨g, 1, none⟩ (.int .i64 e2)) g a n cap L e2 := by
  have hk : KeepP (· = g) w (w.setCell ⟨g, 1, none⟩ (.int .i64 e2)) := (KeepP.refl _ _).setg 1 _
  exact ⟨h.k.set1, hk.ss h.ks (fun hn b off e => h.off hn b off e), h.sm, h.off, h.tx, hk.vw h.vw (fun e => by have := h.g0; omega), h.g0⟩
def LfRet (v : Value) (g : Nat) (a : Option Addr) (n cap : Nat) (L : List KV) (er : Int) (w : World) (e : Ending) (w' : World) : Prop := e = .returned v ∧ LfS w' g a n cap L er ∧ KeepP (· = g) w w'
theorem textAt_len {L : List KV} (h : ∀ i : Int, (kAt L i).s.length ≤ 65536) (i : Int) : (textAt L i).length ≤ 65536 := by
  unfold textAt; split
  · exact h i
  · simp
theorem classAt_len {L : List KV} (h : ∀ i : Int, (kAt L i).s.length ≤ 65536) (i : Int) : (classAt L i).1.length ≤ 65536 := by
  unfold classAt; split
  · exact textAt_len h _
  · simp
theorem memberAt_len {L : List KV} (h : ∀ i : Int, (kAt L i).s.length ≤ 65536) (i t : Int) : (memberAt L i t).1.length ≤ 65536 ∧ (memberAt L i t).2.1.length ≤ 65536 ∧ (memberAt L i t).2.2.1.length ≤ 65536 := by
  unfold memberAt; split
  · exact ⟨classAt_len h _, textAt_len h _, textAt_len h _⟩
  · simp
set_option maxRecDepth 100000 in
set_option maxHeartbeats 4000000 in
theorem aneed_any (w : World) (g : Nat) (a : Option Addr) (n cap : Nat) (L : List KV) (er : Int) (ok : Bool) (k : Int) (h : LfS w g a n cap L er) :
    Calls Tryz.prog 22 #[.pointer (some ⟨g, 0, none⟩), .bool ok, .int .i64 k] w (LfRet (.tuple #[]) g a n cap L (needE er ok k) w) := by
  have H := Lib.hid h
  obtain ⟨c0, c1, f0, f1, lt⟩ := h.k.box
  clear h
  cases ok
  · by_cases h0 : er = 0
    · have e0 : (er == 0) = true := by simpa using h0
      have HE := Lib.hid (show needE er false k = k by unfold needE; rw [if_pos ⟨rfl, h0⟩])
      generalize needE er false k = E at *
      obtain rfl : E = k := HE.out
      clear HE h0
      go_enter Tryz.func22, Tryz.ntmps22
      go_wp2_with fail
      go_end0
      exact ⟨rfl, H.out.set E, (KeepP.refl _ _).setg 1 _⟩
    · have e0 : (er == 0) = false := by simpa using h0
      have HE : needE er false k = er := by unfold needE; rw [if_neg (fun h => h0 h.2)]
      rw [HE]
      clear HE h0
      go_enter Tryz.func22, Tryz.ntmps22
      go_wp2_with fail
      go_end0
      exact ⟨rfl, H.out, KeepP.refl _ _⟩
  · have HE : needE er true k = er := by unfold needE; rw [if_neg (fun h => absurd h.1 (by decide))]
    rw [HE]
    clear HE
    go_enter Tryz.func22, Tryz.ntmps22
    go_wp2_with fail
    go_end0
    exact ⟨rfl, H.out, KeepP.refl _ _⟩
set_option maxRecDepth 100000 in
set_option maxHeartbeats 4000000 in
theorem atext_any (w : World) (g : Nat) (a : Option Addr) (n cap : Nat) (L : List KV) (er i : Int) (h : LfS w g a n cap L er) :
    Calls Tryz.prog 21 #[.pointer (some ⟨g, 0, none⟩), .int .i64 i] w fun e w' => e = .returned (.string ⟨(textAt L i).toArray⟩) ∧ w' = w := by
  have HT := Lib.hid (Text_any w a n cap L i h.ks h.sm)
  unfold TextRet at HT
  obtain ⟨c0, c1, f0, f1, lt⟩ := h.k.box
  generalize textAt L i = s at *
  generalize isT L i 1 = b at *
  clear h
  go_enter Tryz.func21, Tryz.ntmps21
  go_wp2_with fail
  refine HT.out.mono ?_
  rintro e w' ⟨rfl, rfl⟩
  go_wp2_with fail
  go_ret
  exact ⟨rfl, rfl⟩
def aclsB (L : List KV) (i : Int) (arr : Bool) : Bool := (classAt L i).2 && (classB (classAt L i).1 || (arr && arrayB (classAt L i).1))
set_option maxRecDepth 100000 in
set_option maxHeartbeats 4000000 in
theorem aclass_any (w : World) (g : Nat) (a : Option Addr) (n cap : Nat) (L : List KV) (er i : Int) (arr : Bool) (h : LfS w g a n cap L er) :
    Calls Tryz.prog 20 #[.pointer (some ⟨g, 0, none⟩), .int .i64 i, .bool arr] w (LfRet (.string ⟨(classAt L i).1.toArray⟩) g a n cap L (needE er (aclsB L i arr) 8) w) := by
  have HC := Lib.hid (Class_any w a n cap L i h.ks h.sm)
  have HN := Lib.hid (fun W ok (hb : Below w.heap.size w W) => aneed_any W g a n cap L er ok 8 (h.below hb))
  have hsl := classAt_len h.tx i
  have HI := Lib.hid (fun W (hb : Below w.heap.size w W) => IsClass_any W (classAt L i).1 (by omega) (h.vw.below hb))
  have HA := Lib.hid (fun W (hb : Below w.heap.size w W) => isArray_any W (classAt L i).1 hsl (h.vw.below hb))
  have HB0 := Lib.hid (Below.refl w.heap.size w)
  unfold ClassRet at HC
  have HR : aclsB L i arr = ((classAt L i).2 && (classB (classAt L i).1 || (arr && arrayB (classAt L i).1))) := rfl
  generalize aclsB L i arr = R at *
  generalize classB (classAt L i).1 = x1 at *
  generalize arrayB (classAt L i).1 = x2 at *
  generalize (classAt L i).1 = s1 at *
  generalize (classAt L i).2 = b1 at *
  obtain ⟨c0, c1, f0, f1, lt⟩ := h.k.box
  clear h
  cases b1
  · have hR : R = false := HR
    subst hR
    clear HR
    go_enter Tryz.func20, Tryz.ntmps20
    go_wp2_with fail
    refine HC.out.mono ?_
    rintro e w1 ⟨rfl, rfl⟩
    go_wp2_with fail
    refine (HN.out w false HB0.out).mono ?_
    rintro e w2 ⟨rfl, hs, hk⟩
    go_wp2_with fail
    go_ret
    exact ⟨rfl, hs, hk⟩
  · cases x1
    · cases arr
      · have hR : R = false := HR
        subst hR
        clear HR
        go_enter Tryz.func20, Tryz.ntmps20
        go_wp2_with fail
        refine HC.out.mono ?_
        rintro e w1 ⟨rfl, rfl⟩
        go_wp2_with fail
        refine (HI.out w HB0.out).mono ?_
        rintro e w2 ⟨rfl, hb2⟩
        have HB2 := Lib.hid hb2
        clear hb2
        go_wp2_with fail
        refine (HN.out w2 false HB2.out).mono ?_
        rintro e w3 ⟨rfl, hs, hk⟩
        go_wp2_with fail
        go_ret
        exact ⟨rfl, hs, (KeepP.of HB2.out).trans hk⟩
      · have hR : R = x2 := HR
        subst hR
        clear HR
        go_enter Tryz.func20, Tryz.ntmps20
        go_wp2_with fail
        refine HC.out.mono ?_
        rintro e w1 ⟨rfl, rfl⟩
        go_wp2_with fail
        refine (HI.out w HB0.out).mono ?_
        rintro e w2 ⟨rfl, hb2⟩
        have HB2 := Lib.hid hb2
        clear hb2
        go_wp2_with fail
        refine (HA.out w2 HB2.out).mono ?_
        rintro e w3 ⟨rfl, hb3⟩
        have HB3 := Lib.hid (HB2.out.trans (hb3.mono HB2.out.size))
        clear hb3
        go_wp2_with fail
        refine (HN.out w3 R HB3.out).mono ?_
        rintro e w4 ⟨rfl, hs, hk⟩
        go_wp2_with fail
        go_ret
        exact ⟨rfl, hs, (KeepP.of HB3.out).trans hk⟩
    · have hR : R = true := HR
      subst hR
      clear HR
      go_enter Tryz.func20, Tryz.ntmps20
      go_wp2_with fail
      refine HC.out.mono ?_
      rintro e w1 ⟨rfl, rfl⟩
      go_wp2_with fail
      refine (HI.out w HB0.out).mono ?_
      rintro e w2 ⟨rfl, hb2⟩
      have HB2 := Lib.hid hb2
      clear hb2
      go_wp2_with fail
      refine (HN.out w2 true HB2.out).mono ?_
      rintro e w3 ⟨rfl, hs, hk⟩
      go_wp2_with fail
      go_ret
      exact ⟨rfl, hs, (KeepP.of HB2.out).trans hk⟩
end Go.Proofs.YtclpkipaehpkdaaGreatDoor

