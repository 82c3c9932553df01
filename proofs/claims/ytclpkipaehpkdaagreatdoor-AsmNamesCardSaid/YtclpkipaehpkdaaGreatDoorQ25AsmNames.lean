/- asm: own texts, merged (wip/merge2.py). No condition. -/
import Derived.Test.YtclpkipaehpkdaaGreatDoorQ24AsmNames
import Derived.Test.YtclpkipaehpkdaaGreatDoorQ07AsmNames
set_option linter.unusedVariables false
set_option linter.unusedSimpArgs false
namespace Go.Proofs.YtclpkipaehpkdaaGreatDoor
open Go.ChangeShapes Go.WideShapes Go.ChangeAt Go.RowKit Go.Maps
structure UU.Fit (u : UU) : Prop where
  nm : u.nm.length ≤ 65536
  su : u.su.length ≤ 65536
  fields : u.fields.length ≤ 1024
  fd : ∀ f ∈ u.fields, f.nm.length ≤ 65536 ∧ f.ds.length ≤ 65536
  methods : u.methods.length ≤ 1024
  mt : ∀ m ∈ u.methods, m.Fit
theorem consts1_snoc (s : LW) (l : List IN) (x : IN) : s.consts1 (l ++ [x]) = if x.op = 18 then ((s.consts1 l).con x).1 else s.consts1 l := by
  induction l generalizing s with
  | nil => rfl
  | cons y l ih => rw [List.cons_append, LW.consts1, LW.consts1, ih]
theorem consts1_len (s : LW) (l : List IN) : (s.consts1 l).l.length ≤ s.l.length + 4 * l.length := by
  induction l generalizing s with
  | nil => exact Nat.le_refl _
  | cons x l ih =>
    rw [LW.consts1]
    have h1 := con_len s x
    have h2 := ih (if x.op = 18 then (s.con x).1 else s)
    simp only [List.length_cons]
    split at h2 <;> split <;> first | omega | contradiction
theorem consts_snoc (s : LW) (l : List UM) (x : UM) : s.consts (l ++ [x]) = (s.consts l).consts1 x.code := by
  induction l generalizing s with
  | nil => rfl
  | cons y l ih => rw [List.cons_append, LW.consts, LW.consts, ih]
theorem consts_len (s : LW) (l : List UM) (h : ∀ m ∈ l, m.code.length ≤ 4096) : (s.consts l).l.length ≤ s.l.length + 16384 * l.length := by
  induction l generalizing s with
  | nil => exact Nat.le_refl _
  | cons x l ih =>
    rw [LW.consts]
    have h1 := consts1_len s x.code
    have h2 := ih (s.consts1 x.code) (fun m hm => h m (List.mem_cons_of_mem _ hm))
    have h3 := h x List.mem_cons_self
    simp only [List.length_cons]
    omega
set_option maxRecDepth 100000 in
set_option maxHeartbeats 16000000 in
theorem alconsts_any (w w0 : World) (B g : Nat) (s : LW) (u : UU) (h : LoS w B g s) (hu : u.Rd w0) (hw : Below w0.heap.size w0 w) (h0B : w0.heap.size ≤ B) (hf : u.Fit) (hsz : s.l.length ≤ 999900000000) (hB : B ≤ w.heap.size) (hB0 : 0 < B) :
    Calls Tryz.prog 31 #[.pointer (some ⟨g, 0, none⟩), .agg u.cells.toArray] w (LoRet (.tuple #[]) B g (s.consts u.methods) w) := by
  have hw0 : 0 < w.heap.size := by omega
  have hb1 : Below w.heap.size w (w.alloc (.cells u.cells.toArray 32)) := below_1 _ _
  have HS1 := Lib.hid (h.below hb1)
  have HK1 := Lib.hid (KeepL.of hb1 : KeepL B w (w.alloc (.cells u.cells.toArray 32)))
  have HU1 := Lib.hid (heap_alloc_last w (.cells u.cells.toArray 32))
  have HU := Lib.hid hu
  have HF := Lib.hid hf
  have HWB := Lib.hid hw
  have HML := Lib.hid hu.methods.1
  have hfm := hf.methods
  rw [HML.out] at hfm
  clear h hu hw hf hb1
  change Calls Tryz.prog 31 #[.pointer (some ⟨g, 0, none⟩), .agg #[.string ⟨u.nm.toArray⟩, .string ⟨u.su.toArray⟩, .slice u.fa u.fn u.fc, .slice u.ma u.mn u.mc]] w (LoRet (.tuple #[]) B g (s.consts u.methods) w)
  dsimp only [UU.cells] at HS1 HK1 HU1
  go_enter Tryz.func31, Tryz.ntmps31
  go_upto_region 1 with fail
  generalize w.alloc (.cells #[.string ⟨u.nm.toArray⟩, .string ⟨u.su.toArray⟩, .slice u.fa u.fn u.fc, .slice u.ma u.mn u.mc] 32) = W at *
  have u3 : W.cell? ⟨w.heap.size, 3, none⟩ = some (.slice u.ma u.mn u.mc) := row_cell HU1.out 3 rfl
  go_wp2_with fail
  go_loopg [11] u.mn (fun gn i wr => ∃ j : Nat, j ≤ u.mn ∧ gn = u.mn - j ∧ i = .int .i64 j ∧ Hid (LoS wr B g (s.consts (u.methods.take j))) ∧ Hid (KeepL B w wr))
  case atStart => exact ⟨0, by omega, by omega, by go_num, HS1, HK1⟩
  case round =>
    clear HS1 HK1 HU1 u3
    obtain ⟨j, hj, rfl, rfl, HS, HK⟩ := hrel
    by_cases hlt : j < u.mn
    · have hbV := HK.out.belowO HWB.out (Nat.le_refl _) h0B
      have HRM := Lib.hid ((HU.out.below hbV).methods)
      obtain ⟨bq, off, m, hbq, hbl, hm, q⟩ := HRM.out.getC j hlt
      have q0 := q 0 (by omega)
      have q1 := q 1 (by omega)
      have q2 := q 2 (by omega)
      have q3 := q 3 (by omega)
      have q4 := q 4 (by omega)
      have q5 := q 5 (by omega)
      have q6 := q 6 (by omega)
      have q7 := q 7 (by omega)
      rw [Nat.add_zero] at q0
      simp only [UM.cells, List.getElem?_cons_zero, List.getElem?_cons_succ] at q0 q1 q2 q3 q4 q5 q6 q7
      have hj1 : (j : Int) < u.mn := by omega
      have hmm := List.mem_of_getElem? hm
      have HFM := Lib.hid (HF.out.mt m hmm)
      have HMR := Lib.hid (HU.out.each m hmm)
      have HSN := Lib.hid (show s.consts (u.methods.take (j + 1)) = (s.consts (u.methods.take j)).consts1 m.code by
        have hjl := (List.getElem?_eq_some_iff.1 hm).1
        rw [List.take_succ_eq_append_getElem hjl, (List.getElem?_eq_some_iff.1 hm).2, consts_snoc])
      have hln := consts_len s (u.methods.take j) (fun m hm => (HF.out.mt m (List.mem_of_mem_take hm)).code)
      rw [List.length_take, HML.out, Nat.min_eq_left hj] at hln
      generalize s.consts (u.methods.take j) = sj at *
      have HCL := Lib.hid HMR.out.code.1
      have hcl : m.code.length ≤ 4096 := HFM.out.code
      rw [HCL.out] at hcl
      clear q hm hmm HRM hbV
      go_upto_region 4 with fail
      have hal := below_1 wr (.cells #[.bool m.st, .string ⟨m.nm.toArray⟩, .string ⟨m.ds.toArray⟩, .int .i64 m.sk, .int .i64 m.lo, .slice m.ca m.cn m.cc, .slice m.ta m.tn m.tc, .slice m.ma m.mn m.mc] MethT)
      have HM1 := Lib.hid (show (wr.alloc (.cells #[.bool m.st, .string ⟨m.nm.toArray⟩, .string ⟨m.ds.toArray⟩, .int .i64 m.sk, .int .i64 m.lo, .slice m.ca m.cn m.cc, .slice m.ta m.tn m.tc, .slice m.ma m.mn m.mc] MethT)).heap[wr.heap.size]? = some (.cells m.cells.toArray MethT (0, 0)) from heap_alloc_last wr _)
      have HS2 := Lib.hid (HS.out.below hal)
      have HK2 := Lib.hid (HK.out.trans (KeepL.of hal))
      clear hal q0 q1 q2 q3 q4 q5 q6 q7 hbq hbl HS HK
      generalize wr.alloc (.cells #[.bool m.st, .string ⟨m.nm.toArray⟩, .string ⟨m.ds.toArray⟩, .int .i64 m.sk, .int .i64 m.lo, .slice m.ca m.cn m.cc, .slice m.ta m.tn m.tc, .slice m.ma m.mn m.mc] MethT) = W2 at *
      generalize wr.heap.size = gm at *
      have m5 : W2.cell? ⟨gm, 5, none⟩ = some (.slice m.ca m.cn m.cc) := row_cell HM1.out 5 rfl
      go_wp2_with fail
      go_loopg [18] m.cn (fun gn i wr => ∃ k : Nat, k ≤ m.cn ∧ gn = m.cn - k ∧ i = .int .i64 k ∧ Hid (LoS wr B g (sj.consts1 (m.code.take k))) ∧ Hid (KeepL B w wr))
      case atStart => exact ⟨0, by omega, by omega, by go_num, HS2, HK2⟩
      case round =>
        clear HS2 HK2 HM1 m5
        obtain ⟨k, hk, rfl, rfl, HS, HK⟩ := hrel
        by_cases hlk : k < m.cn
        · have hbV := HK.out.belowO HWB.out (Nat.le_refl _) h0B
          have HRC := Lib.hid ((HMR.out.below hbV).code)
          obtain ⟨b, off2, x, hbq, hbl, hx, q⟩ := HRC.out.getC k hlk
          have q0 := q 0 (by omega)
          have q1 := q 1 (by omega)
          have q2 := q 2 (by omega)
          have q3 := q 3 (by omega)
          have q4 := q 4 (by omega)
          have q5 := q 5 (by omega)
          have q6 := q 6 (by omega)
          rw [Nat.add_zero] at q0
          simp only [IN.cells, List.getElem?_cons_zero, List.getElem?_cons_succ] at q0 q1 q2 q3 q4 q5 q6
          have hk1 : (k : Int) < m.cn := by omega
          have HFX := Lib.hid (HFM.out.ins x (List.mem_of_getElem? hx))
          have HSM := Lib.hid (show sj.consts1 (m.code.take (k + 1)) = if x.op = 18 then ((sj.consts1 (m.code.take k)).con x).1 else sj.consts1 (m.code.take k) by
            have hjl := (List.getElem?_eq_some_iff.1 hx).1
            rw [List.take_succ_eq_append_getElem hjl, (List.getElem?_eq_some_iff.1 hx).2, consts1_snoc])
          have hlm := consts1_len sj (m.code.take k)
          rw [List.length_take, HCL.out, Nat.min_eq_left hk] at hlm
          generalize sj.consts1 (m.code.take k) = sk at *
          obtain ⟨op, nn, mm, cl, nm, ds, tx⟩ := x
          dsimp only at q0 q1 q2 q3 q4 q5 q6 HSM
          clear q hx HRC hbV
          go_upto_region 7 with fail
          have hal := below_1 wr (.cells #[.int .u8 (op : Nat), .int .i64 nn, .int .i64 mm, .string ⟨cl.toArray⟩, .string ⟨nm.toArray⟩, .string ⟨ds.toArray⟩, .string ⟨tx.toArray⟩] InsT)
          have HXB := Lib.hid (show BlkI wr.heap.size ⟨op, nn, mm, cl, nm, ds, tx⟩ (wr.alloc (.cells #[.int .u8 (op : Nat), .int .i64 nn, .int .i64 mm, .string ⟨cl.toArray⟩, .string ⟨nm.toArray⟩, .string ⟨ds.toArray⟩, .string ⟨tx.toArray⟩] InsT)) from heap_alloc_last wr _)
          have HS3 := Lib.hid (HS.out.below hal)
          have HK3 := Lib.hid (HK.out.trans (KeepL.of hal))
          clear hal q0 q1 q2 q3 q4 q5 q6 hbq hbl HS HK
          generalize wr.alloc (.cells #[.int .u8 (op : Nat), .int .i64 nn, .int .i64 mm, .string ⟨cl.toArray⟩, .string ⟨nm.toArray⟩, .string ⟨ds.toArray⟩, .string ⟨tx.toArray⟩] InsT) = W3 at *
          generalize wr.heap.size = gx at *
          obtain ⟨j0, j1, j2, j3, j4, j5, j6, -, -, -, -, -, -⟩ := HXB.out.box
          dsimp only at j0 j1 j2 j3 j4 j5 j6
          by_cases o18 : op = 18
          · have e18 : ((op : Int) == 18) = true := by rw [o18]; rfl
            rw [if_pos o18] at HSM
            have HCO := Lib.hid (alcon_any W3 B g sk ⟨op, nn, mm, cl, nm, ds, tx⟩ HS3.out HFX.out (by omega) (HK3.out.bnd hB))
            dsimp only [IN.cells] at HCO
            clear o18
            go_wp2_with fail
            refine HCO.out.mono ?_
            rintro e V4 ⟨rfl, hs4, hk4⟩
            have HS4 := Lib.hid hs4
            have HK4 := Lib.hid (HK3.out.trans hk4)
            clear hs4 hk4 HCO HS3 HK3 HXB j0 j1 j2 j3 j4 j5 j6
            go_wp2_with fail
            go_roundg (m.cn - (k + 1))
            case measure => omega
            case rel => exact ⟨k + 1, by omega, rfl, by go_num, Lib.hid (by rw [HSM.out]; exact HS4.out), HK4⟩
          · have e18 : ((op : Int) == 18) = false := by rw [beq_eq_false_iff_ne]; omega
            rw [if_neg o18] at HSM
            clear o18
            go_wp2_with fail
            go_roundg (m.cn - (k + 1))
            case measure => omega
            case rel => exact ⟨k + 1, by omega, rfl, by go_num, Lib.hid (by rw [HSM.out]; exact HS3.out), HK3⟩
        · have hkt : k = m.cn := by omega
          subst hkt
          have hfull : m.code.take m.cn = m.code := List.take_of_length_le (by rw [HCL.out]; exact Nat.le_refl _)
          rw [hfull] at HS
          clear hfull hlk hk
          go_wp2_with fail
          go_roundg (u.mn - (j + 1))
          case measure => omega
          case rel => exact ⟨j + 1, by omega, rfl, by go_num, Lib.hid (by rw [HSN.out]; exact HS.out), HK⟩
    · have hkt : j = u.mn := by omega
      subst hkt
      have hfull : u.methods.take u.mn = u.methods := List.take_of_length_le (by rw [HML.out]; exact Nat.le_refl _)
      rw [hfull] at HS
      clear hfull hlt hj
      go_wp2_with fail
      go_end0
      exact ⟨rfl, HS.out, HK.out⟩
end Go.Proofs.YtclpkipaehpkdaaGreatDoor

namespace Go.Proofs.YtclpkipaehpkdaaGreatDoor
open Go.ChangeShapes Go.WideShapes Go.ChangeAt Go.RowKit Go.Maps
structure LW.Good (s : LW) : Prop where
  sz : s.e = 0 → s.l.length ≤ 1024
  tx : ∀ c ∈ s.l, c.s.length ≤ 65536
theorem needE_0 {er k : Int} {ok : Bool} (h : needE er ok k = 0) : er = 0 := by
  unfold needE at h
  split at h
  · next h1 => exact h1.2
  · exact h
theorem LW.Good.need {s : LW} (h : s.Good) (ok : Bool) (k : Int) : (s.need ok k).Good := ⟨fun he => h.sz (needE_0 he), h.tx⟩
theorem LW.Good.put {s : LW} (h : s.Good) (c : KV) (hc : c.s.length ≤ 65536) : (s.put c).1.Good := by
  unfold LW.put
  split
  · exact h
  · refine ⟨fun he => ?_, fun k hk => ?_⟩
    · have he' : needE s.e (decide ((pushK s.l c).length ≤ 1024)) 9 = 0 := he
      unfold needE at he'
      split at he'
      · exact absurd he' (by decide)
      · next h1 =>
        show (pushK s.l c).length ≤ 1024
        rcases Decidable.em ((pushK s.l c).length ≤ 1024) with h2 | h2
        · exact h2
        · exact absurd ⟨decide_eq_false h2, he'⟩ h1
    · have hk' : k ∈ pushK s.l c := hk
      unfold pushK at hk'
      rcases List.mem_append.1 hk' with h1 | h1
      · rcases List.mem_append.1 h1 with h2 | h2
        · exact h.tx k h2
        · rw [List.mem_singleton.1 h2]; exact hc
      · split at h1
        · rw [List.mem_singleton.1 h1]; decide
        · cases h1
theorem LW.Good.text {s : LW} (h : s.Good) (t : List UInt8) (ht : t.length ≤ 65536) : (s.text t).1.Good := h.put _ ht
theorem LW.Good.cls {s : LW} (h : s.Good) (t : List UInt8) (arr : Bool) (ht : t.length ≤ 65536) : (s.cls t arr).1.Good := ((h.need _ _).text t ht).put _ (by simp)
theorem LW.Good.member {s : LW} (h : s.Good) (x : IN) (tag : Int) (p : List UInt8 → Bool) (hx : InFit x) : (s.member x tag p).1.Good := by
  unfold LW.member
  dsimp only
  exact (((((h.need _ _).cls _ _ hx.cl).text _ hx.nm).text _ hx.ds).put _ (by simp)).put _ (by simp)
theorem LW.Good.con {s : LW} (h : s.Good) (x : IN) (hx : InFit x) : (s.con x).1.Good := by
  unfold LW.con
  split
  · exact (h.need _ _).put _ (by simp)
  · split
    · exact (h.text _ hx.tx).put _ (by simp)
    · split
      · exact h.put _ (by simp)
      · exact h.need _ _
theorem LW.Good.wide {s : LW} (h : s.Good) (x : IN) (hx : InFit x) : (s.wide x).1.Good := by
  unfold LW.wide
  split
  · exact (h.need _ _).member _ _ _ hx
  · split
    · exact (h.need _ _).member _ _ _ hx
    · exact (h.need _ _).cls _ _ hx.cl
theorem LW.Good.raw {s : LW} (h : s.Good) (p : Nat) (x : IN) (hx : InFit x) : (s.raw p x).1.Good := by
  unfold LW.raw
  split
  · exact ((h.need _ _).con x hx).need _ _
  · split
    · exact h.wide x hx
    · split
      · exact h.need _ _
      · exact (h.need _ _).need _ _
theorem LW.Good.raws {s : LW} (h : s.Good) (p : Nat) (l : List IN) (hl : ∀ x ∈ l, InFit x) : (s.raws p l).1.Good := by
  induction l generalizing s p with
  | nil => exact h
  | cons x l ih =>
    rw [LW.raws]
    exact ih (h.raw p x (hl x List.mem_cons_self)) _ (fun y hy => hl y (List.mem_cons_of_mem _ hy))
theorem LW.Good.goes {s : LW} (h : s.Good) (l k : List IN) : (s.goes l k).Good := by
  induction k generalizing s with
  | nil => exact h
  | cons x k ih =>
    rw [LW.goes]
    split
    · exact ih (h.need _ _)
    · exact ih h
theorem LW.Good.code {s : LW} (h : s.Good) (l : List IN) (hl : ∀ x ∈ l, InFit x) : (s.code l).1.Good := ((h.raws 0 l hl).goes l l).need _ _
theorem LW.Good.slot {s : LW} (h : s.Good) (t : List UInt8) (ht : t.length ≤ 65536) : (s.slot t).1.Good := by
  unfold LW.slot
  split
  · exact h
  split
  · exact h
  split
  · exact h
  split
  · exact h
  split
  · exact h.cls _ _ (Nat.le_trans (semV_len t) ht)
  · exact (h.need _ _).cls _ _ ht
theorem LW.Good.slots {s : LW} (h : s.Good) (l : List (List UInt8)) (hl : ∀ t ∈ l, t.length ≤ 65536) : (s.slots l).1.Good := by
  induction l generalizing s with
  | nil => exact h
  | cons x l ih =>
    rw [LW.slots]
    exact ih (h.slot x (hl x List.mem_cons_self)) (fun y hy => hl y (List.mem_cons_of_mem _ hy))
theorem LW.Good.place {s : LW} (h : s.Good) (l : List IN) (n most : Int) : (s.place l n most).1.Good := by
  unfold LW.place
  split
  · exact h.need _ _
  · exact h
theorem LW.Good.trap {s : LW} (h : s.Good) (l : List IN) (t : UT) (ht : t.cl.length ≤ 65536) : (s.trap l t).1.Good := by
  unfold LW.trap
  dsimp only
  have h3 := ((h.place l t.fr (l.length - 1)).place l t.tt l.length).place l t.pl (l.length - 1)
  split
  · exact h3
  · exact h3.cls _ _ ht
theorem LW.Good.traps {s : LW} (h : s.Good) (c : List IN) (l : List UT) (hl : ∀ t ∈ l, t.cl.length ≤ 65536) : (s.traps c l).1.Good := by
  induction l generalizing s with
  | nil => exact h
  | cons x l ih =>
    rw [LW.traps]
    exact ih (h.trap c x (hl x List.mem_cons_self)) (fun y hy => hl y (List.mem_cons_of_mem _ hy))
theorem LW.Good.map {s : LW} (h : s.Good) (l : List IN) (t : UP) (ht : t.Fit) : (s.map l t).1.Good := ((h.place l t.pl (l.length - 1)).slots _ ht.lt).slots _ ht.st
theorem LW.Good.maps {s : LW} (h : s.Good) (c : List IN) (l : List UP) (hl : ∀ t ∈ l, t.Fit) : (s.maps c l).1.Good := by
  induction l generalizing s with
  | nil => exact h
  | cons x l ih =>
    rw [LW.maps]
    exact ih (h.map c x (hl x List.mem_cons_self)) (fun y hy => hl y (List.mem_cons_of_mem _ hy))
theorem LW.Good.method {s : LW} (h : s.Good) (m : UM) (hm : m.Fit) : (s.method m).1.Good := by
  unfold LW.method
  dsimp only
  have h1 := (((h.need (memB m.nm && methB m.ds) 8).text _ hm.nm).text _ hm.ds).text sCode (by decide)
  split
  · exact ((h1.code _ hm.ins).traps _ _ hm.tr).maps _ _ hm.mp
  · exact (((h1.text sMap (by decide)).code _ hm.ins).traps _ _ hm.tr).maps _ _ hm.mp
theorem LW.Good.methods {s : LW} (h : s.Good) (l : List UM) (hl : ∀ t ∈ l, t.Fit) : (s.methods l).1.Good := by
  induction l generalizing s with
  | nil => exact h
  | cons x l ih =>
    rw [LW.methods]
    exact ih (h.method x (hl x List.mem_cons_self)) (fun y hy => hl y (List.mem_cons_of_mem _ hy))
theorem LW.Good.field {s : LW} (h : s.Good) (f : UF) (hf : f.nm.length ≤ 65536 ∧ f.ds.length ≤ 65536) : (s.field f).1.Good := ((h.need _ _).text _ hf.1).text _ hf.2
theorem LW.Good.fields {s : LW} (h : s.Good) (l : List UF) (hl : ∀ f ∈ l, f.nm.length ≤ 65536 ∧ f.ds.length ≤ 65536) : (s.fields l).1.Good := by
  induction l generalizing s with
  | nil => exact h
  | cons x l ih =>
    rw [LW.fields]
    exact ih (h.field x (hl x List.mem_cons_self)) (fun y hy => hl y (List.mem_cons_of_mem _ hy))
theorem LW.Good.consts1 {s : LW} (h : s.Good) (l : List IN) (hl : ∀ x ∈ l, InFit x) : (s.consts1 l).Good := by
  induction l generalizing s with
  | nil => exact h
  | cons x l ih =>
    rw [LW.consts1]
    split
    · exact ih (h.con x (hl x List.mem_cons_self)) (fun y hy => hl y (List.mem_cons_of_mem _ hy))
    · exact ih h (fun y hy => hl y (List.mem_cons_of_mem _ hy))
theorem LW.Good.consts {s : LW} (h : s.Good) (l : List UM) (hl : ∀ m ∈ l, m.Fit) : (s.consts l).Good := by
  induction l generalizing s with
  | nil => exact h
  | cons x l ih =>
    rw [LW.consts]
    exact ih (h.consts1 x.code (hl x List.mem_cons_self).ins) (fun y hy => hl y (List.mem_cons_of_mem _ hy))
theorem low_good (u : UU) (h : u.Fit) : (lowS u).1.Good := by
  unfold lowS
  dsimp only
  have h0 : (⟨[kz], 0⟩ : LW).Good := ⟨fun _ => by simp, fun c hc => by rw [List.mem_singleton.1 hc]; decide⟩
  have h1 := (h0.consts u.methods h.mt).cls u.nm false h.nm
  split
  · exact (h1.fields _ h.fd).methods _ h.mt
  · exact ((h1.cls u.su false h.su).fields _ h.fd).methods _ h.mt
theorem method_len (s : LW) (m : UM) (hm : m.Fit) : (s.method m).1.l.length ≤ s.l.length + 10000000 := by
  unfold LW.method
  dsimp only
  have h0 : (s.need (memB m.nm && methB m.ds) 8).l = s.l := rfl
  have h1 := text_len (s.need (memB m.nm && methB m.ds) 8) m.nm
  rw [h0] at h1
  have h2 := text_len ((s.need (memB m.nm && methB m.ds) 8).text m.nm).1 m.ds
  have h3 := text_len (((s.need (memB m.nm && methB m.ds) 8).text m.nm).1.text m.ds).1 sCode
  generalize ((((s.need (memB m.nm && methB m.ds) 8).text m.nm).1.text m.ds).1.text sCode).1 = c at *
  have hc : ∀ s5 : LW, s5.l.length ≤ c.l.length + 2 → ((((s5.code m.code).1.traps m.code m.traps).1).maps m.code m.maps).1.l.length ≤ s.l.length + 10000000 := fun s5 h5 => by
    have h6 := code_len s5 m.code
    have h7 := traps_len (s5.code m.code).1 m.code m.traps
    have h8 := maps_len ((s5.code m.code).1.traps m.code m.traps).1 m.code m.maps hm.mp
    have a1 := hm.code
    have a2 := hm.traps
    have a3 := hm.maps
    omega
  split
  · exact hc _ (by omega)
  · exact hc _ (text_len c sMap)
theorem methods_len (s : LW) (l : List UM) (hl : ∀ m ∈ l, m.Fit) : (s.methods l).1.l.length ≤ s.l.length + 10000000 * l.length := by
  induction l generalizing s with
  | nil => exact Nat.le_refl _
  | cons x l ih =>
    rw [LW.methods]
    have h1 := method_len s x (hl x List.mem_cons_self)
    have h2 := ih (s.method x).1 (fun y hy => hl y (List.mem_cons_of_mem _ hy))
    simp only [List.length_cons]
    omega
theorem field_len (s : LW) (f : UF) : (s.field f).1.l.length ≤ s.l.length + 4 := by
  unfold LW.field
  dsimp only
  have h0 : (s.need (memB f.nm && typeB f.ds) 8).l = s.l := rfl
  have h1 := text_len (s.need (memB f.nm && typeB f.ds) 8) f.nm
  rw [h0] at h1
  have h2 := text_len ((s.need (memB f.nm && typeB f.ds) 8).text f.nm).1 f.ds
  omega
theorem fields_len (s : LW) (l : List UF) : (s.fields l).1.l.length ≤ s.l.length + 4 * l.length := by
  induction l generalizing s with
  | nil => exact Nat.le_refl _
  | cons x l ih =>
    rw [LW.fields]
    have h1 := field_len s x
    have h2 := ih (s.field x).1
    simp only [List.length_cons]
    omega
theorem fields_snoc (s : LW) (l : List UF) (t : UF) : s.fields (l ++ [t]) = ((((s.fields l).1).field t).1, (s.fields l).2 ++ [(((s.fields l).1).field t).2]) := by
  induction l generalizing s with
  | nil => rfl
  | cons x l ih =>
    rw [List.cons_append, LW.fields, LW.fields, ih]
    rfl
theorem methods_snoc (s : LW) (l : List UM) (t : UM) : s.methods (l ++ [t]) = ((((s.methods l).1).method t).1, (s.methods l).2 ++ [(((s.methods l).1).method t).2]) := by
  induction l generalizing s with
  | nil => rfl
  | cons x l ih =>
    rw [List.cons_append, LW.methods, LW.methods, ih]
    rfl
theorem fields_cnt (s : LW) (l : List UF) : (s.fields l).2.length = l.length := by
  induction l generalizing s with
  | nil => rfl
  | cons x l ih => rw [LW.fields, List.length_cons, List.length_cons, ih]
theorem methods_cnt (s : LW) (l : List UM) : (s.methods l).2.length = l.length := by
  induction l generalizing s with
  | nil => rfl
  | cons x l ih => rw [LW.methods, List.length_cons, List.length_cons, ih]
abbrev FileT := 26
abbrev FldT := 75
abbrev UnT := 32
def KF.lp (f : KF) : KF := ⟨none, 0, 0, f.pool, f.th, f.su, none, 0, 0, f.fields, none, 0, 0, f.methods.map KM.lp⟩
structure KF.Ow (x : KF) (w : World) (B : Nat) : Prop where
  fields : w.ownsRow B FldT 3 (.slice x.fa x.fn x.fc) x.fn (x.fields.flatMap KD.cells)
  methods : w.ownsRow B FMT 8 (.slice x.ma x.mn x.mc) x.mn (x.methods.flatMap KM.cells)
  each : ∀ m ∈ x.methods, m.Ow w B
theorem KF.Ow.keepL {x : KF} {B B' : Nat} {w w' : World} (h : x.Ow w B') (k : KeepL B w w') : x.Ow w' B' := ⟨KeepL.own h.fields k (by decide) (by decide), KeepL.own h.methods k (by decide) (by decide), fun m hm => (h.each m hm).keepL k⟩
theorem KF.Ow.keptT {x : KF} {B' : Nat} {w w' : World} {e : TypeId} (h : x.Ow w B') (k : KeptT e w w') (h0 : FldT ≠ e) (h9 : FMT ≠ e) (h1 : 5 ≠ e) (h2 : TrT ≠ e) (h3 : MpT ≠ e) (h4 : SlT ≠ e) : x.Ow w' B' := ⟨own_keptT h.fields k h0, own_keptT h.methods k h9, fun m hm => (h.each m hm).keptT k h1 h2 h3 h4⟩
theorem KF.Ow.fn' {x : KF} {V : World} {B : Nat} (h : x.Ow V B) : x.fields.length = x.fn := by
  have h1 := h.fields.1
  rw [flat_len KD.cells_length] at h1
  omega
theorem KF.Ow.mn' {x : KF} {V : World} {B : Nat} (h : x.Ow V B) : x.methods.length = x.mn := by
  have h1 := h.methods.1
  rw [flat_len KM.cells_length] at h1
  omega
theorem KF.Ow.fields1 {x : KF} {w w' : World} {B : Nat} (h : x.Ow w B) (k : KeptT FldT w w') {a : Option Addr} {n c : Nat} {t : KD} (ho : w'.ownsRow B FldT 3 (.slice a n c) n ((x.fields ++ [t]).flatMap KD.cells)) : KF.Ow { x with fa := a, fn := n, fc := c, fields := x.fields ++ [t] } w' B :=
  ⟨ho, own_keptT h.methods k (by decide), fun m hm => (h.each m hm).keptT k (by decide) (by decide) (by decide) (by decide)⟩
theorem KF.Ow.methods1 {x : KF} {w w' : World} {B : Nat} (h : x.Ow w B) (k : KeptT FMT w w') {a : Option Addr} {n c : Nat} {t : KM} (ht : t.Ow w' B) (ho : w'.ownsRow B FMT 8 (.slice a n c) n ((x.methods ++ [t]).flatMap KM.cells)) : KF.Ow { x with ma := a, mn := n, mc := c, methods := x.methods ++ [t] } w' B :=
  ⟨own_keptT h.fields k (by decide), ho, fun m hm => by
    rcases List.mem_append.1 hm with hm | hm
    · exact (h.each m hm).keptT k (by decide) (by decide) (by decide) (by decide)
    · rw [List.mem_singleton.1 hm]; exact ht⟩
structure FlH (w V : World) (g : Nat) (u : UU) (s : LW) : Prop where
  hs : LoS V w.heap.size g s
  hk : KeepL w.heap.size w V
  u : V.heap[w.heap.size]? = some (.cells u.cells.toArray UnT (0, 0))
  z : V.heap[w.heap.size + 1]? = some (.cells #[.slice none 0 0, .int .i64 0, .int .i64 0, .slice none 0 0, .slice none 0 0] FileT (0, 0))
structure FlJ (w V : World) (g go : Nat) (u : UU) (x : KF) (s : LW) : Prop where
  h : FlH w V g u s
  o : V.heap[go]? = some (.cells x.cells.toArray FileT (0, 0))
  w : x.Ow V w.heap.size
theorem FlH.call {w V V' : World} {g : Nat} {u : UU} {s s' : LW} (h : FlH w V g u s) (hs : LoS V' w.heap.size g s') (hk : KeepL w.heap.size V V') : FlH w V' g u s' :=
  ⟨hs, h.hk.trans hk, hk.row h.u (by decide) (by decide), hk.row h.z (by decide) (by decide)⟩
theorem FlJ.call {w V V' : World} {g go : Nat} {u : UU} {x : KF} {s s' : LW} (h : FlJ w V g go u x s) (hs : LoS V' w.heap.size g s') (hk : KeepL w.heap.size V V') : FlJ w V' g go u x s' :=
  ⟨h.h.call hs hk, hk.row h.o (by decide) (by decide), h.w.keepL hk⟩
theorem FlH.below {w V V' : World} {g : Nat} {u : UU} {s : LW} (h : FlH w V g u s) (hb : Below V.heap.size V V') : FlH w V' g u s := h.call (h.hs.below hb) (KeepL.of hb)
theorem FlJ.below {w V V' : World} {g go : Nat} {u : UU} {x : KF} {s : LW} (h : FlJ w V g go u x s) (hb : Below V.heap.size V V') : FlJ w V' g go u x s := h.call (h.h.hs.below hb) (KeepL.of hb)
theorem FlH.put {w V : World} {g go : Nat} {u : UU} {x x' : KF} {s : LW} (h : FlH w V g u s) (ho : V.heap[go]? = some (.cells x.cells.toArray FileT (0, 0))) (hw : w.heap.size + 1 < go) (o : Nat) (v : Value) (he : x.cells.toArray.setIfInBounds o v = x'.cells.toArray) (hx : x'.Ow V w.heap.size) :
    FlJ w (V.setCell ⟨go, o, none⟩ v) g go u x' s := by
  have hkt := keptT_set ho o v
  exact ⟨⟨h.hs.setO ho (by decide) (by decide) (by omega) o v, h.hk.thenB ((Below.refl _ _).setCell (show w.heap.size ≤ go by omega) v), hkt.2 _ _ _ _ h.u (by decide), heap_other h.z (by omega) o v⟩,
    by rw [← he]; exact heap_set3 ho o v, hx.keptT hkt (by decide) (by decide) (by decide) (by decide) (by decide) (by decide)⟩
theorem FlJ.app {w V w9 : World} {g go : Nat} {u : UU} {x : KF} {s : LW} {ob : Obj} {e : TypeId} {size : Nat} {v : Value} {n : Nat} {xs : List Value} (h : FlJ w V g go u x s) (hw0 : 0 < w.heap.size)
    (ho : V.ownsRow w.heap.size e size v n xs) (hg : (V.alloc ob).grownBy w9 v.ownBlock) (hb : Below w.heap.size V w9) (h1 : e ≠ ConT) (h2 : e ≠ LowT) (h3 : UnT ≠ e) (h4 : FileT ≠ e) :
    FlH w w9 g u s ∧ w9.heap[go]? = some (.cells x.cells.toArray FileT (0, 0)) := by
  have hkt := KeptT.app ho hg
  exact ⟨⟨h.h.hs.app ho hg h1 h2 hw0, h.h.hk.thenB hb, hkt.2 _ _ _ _ h.h.u h3, hkt.2 _ _ _ _ h.h.z h4⟩, hkt.2 _ _ _ _ h.o h4⟩
theorem KF.lp_fields1 {x : KF} {a b : Int} {P : List KV} {T : List KD} {M : List KM} (h : x.lp = ⟨none, 0, 0, P, a, b, none, 0, 0, T, none, 0, 0, M⟩) (ta : Option Addr) (tn tc : Nat) (k : KD) :
    KF.lp { x with fa := ta, fn := tn, fc := tc, fields := x.fields ++ [k] } = ⟨none, 0, 0, P, a, b, none, 0, 0, T ++ [k], none, 0, 0, M⟩ := by
  simp only [KF.lp, KF.mk.injEq] at h ⊢
  obtain ⟨-, -, -, e1, e2, e3, -, -, -, e4, -, -, -, e5⟩ := h
  exact ⟨trivial, trivial, trivial, e1, e2, e3, trivial, trivial, trivial, by rw [e4], trivial, trivial, trivial, e5⟩
theorem KF.lp_methods1 {x : KF} {a b : Int} {P : List KV} {T : List KD} {M : List KM} (h : x.lp = ⟨none, 0, 0, P, a, b, none, 0, 0, T, none, 0, 0, M⟩) (ta : Option Addr) (tn tc : Nat) (k : KM) :
    KF.lp { x with ma := ta, mn := tn, mc := tc, methods := x.methods ++ [k] } = ⟨none, 0, 0, P, a, b, none, 0, 0, T, none, 0, 0, M ++ [k.lp]⟩ := by
  simp only [KF.lp, KF.mk.injEq] at h ⊢
  obtain ⟨-, -, -, e1, e2, e3, -, -, -, e4, -, -, -, e5⟩ := h
  exact ⟨trivial, trivial, trivial, e1, e2, e3, trivial, trivial, trivial, e4, trivial, trivial, trivial, by rw [List.map_append, e5]; rfl⟩
theorem stFld : StE 23 FldT (.agg #[.int .i64 0, .int .i64 0, .int .i64 0]) 3 24 := ⟨by kernel_rfl, by kernel_rfl, rfl⟩
theorem stFMe : StE 24 FMT (.agg #[.int .i64 0, .int .i64 0, .int .i64 0, .int .i64 0, .int .i64 0, .slice none 0 0, .slice none 0 0, .slice none 0 0]) 8 112 := ⟨by kernel_rfl, by kernel_rfl, rfl⟩
theorem infoFileA : (Tryz.prog.info? FileT).map (·.size) = some 5 := by kernel_rfl
theorem oneFile (x : KF) : x.cells.toArray.all (·.oneCell') = true := by simp [KF.cells, Value.oneCell']
end Go.Proofs.YtclpkipaehpkdaaGreatDoor

namespace Go.Proofs.YtclpkipaehpkdaaGreatDoor
open Go.ChangeShapes Go.WideShapes Go.ChangeAt Go.RowKit
theorem Sl.litZ (w : World) (n : Nat) (l : List Int) (t : TypeId) (hn : n = l.length) : Sl encZ (w.alloc (.cells (l.map encZ).toArray t)) (some ⟨w.heap.size, 0, none⟩) n l := by
  subst hn
  refine ⟨rfl, fun _ => ⟨w.heap.size, 0, rfl, by simp, fun i hi => ?_⟩⟩
  rw [cell_of_row _ w.heap.size (0 + i) _ _ _ (heap_alloc_last w _)]
  simp [hi]
theorem Sl.getZ {w : World} {a : Option Addr} {n : Nat} {l : List Int} (h : Sl encZ w a n l) (j : Nat) (hj : j < n) : ∃ b off v, a = some ⟨b, off, none⟩ ∧ b < w.heap.size ∧ l[j]? = some v ∧ w.cell? ⟨b, off + j, none⟩ = some (.int .i64 v) := by
  obtain ⟨b, off, ha, hlt, hc⟩ := h.2 (by omega)
  have hl : j < l.length := by rw [h.1]; exact hj
  exact ⟨b, off, l[j], ha, hlt, List.getElem?_eq_getElem hl, hc j hl⟩
theorem odd_next (odd A p : Bool) : (odd || !(A && p)) = ((odd || !A) || !p) := by cases odd <;> cases A <;> cases p <;> rfl
set_option maxRecDepth 100000 in
set_option maxHeartbeats 4000000 in
theorem wide_any (w : World) (g : Nat) (a : Option Addr) (n cap : Nat) (L : List KV) (odd : Bool) (za : Option Addr) (zn zc : Nat) (l : List Int) (h : LkS w g a n cap L odd) (hz : Sl encZ w za zn l) (ho : Off1 za zn g) (hzn : zn ≤ 1000) :
    Calls Tryz.prog 90 #[.pointer (some ⟨g, 0, none⟩), .slice za zn zc] w (LkRet g a n cap L (odd || !l.all wideOk) w) := by
  have H := Lib.hid h
  have HZ := Lib.hid hz
  have HZn := Lib.hid hz.1
  have HO := Lib.hid ho
  clear h hz ho
  go_enter Tryz.func90, Tryz.ntmps90
  go_wp2_with fail
  go_loopg [8] zn (fun gn i wr => ∃ j : Nat, j ≤ zn ∧ gn = zn - j ∧ i = .int .i64 j ∧ Hid (LkS wr g a n cap L (odd || !(l.take j).all wideOk)) ∧ Hid (Keep1 g w wr))
  case atStart => exact ⟨0, by omega, by omega, by go_num, Lib.hid (by simpa using H.out), Lib.hid (Keep1.refl _ _)⟩
  case round =>
    obtain ⟨j, hj, rfl, rfl, HL, HK⟩ := hrel
    by_cases hlt : j < zn
    · obtain ⟨b, off, v, rfl, _, hv, q0⟩ := (HZ.out.keep1 HK.out HO.out).getZ j hlt
      have HA := Lib.hid (show (odd || !(l.take (j + 1)).all wideOk) = ((odd || !(l.take j).all wideOk) || !wideOk v) by rw [all_take _ _ _ _ hv, odd_next])
      have HN := Lib.hid (need_any wr g a n cap L (odd || !(l.take j).all wideOk) (wideOk v) HL.out)
      clear hv
      have hj1 : (j : Int) < zn := by omega
      by_cases hv0 : 0 ≤ v
      · by_cases hv1 : v ≤ 65535
        · have HW := Lib.hid (show wideOk v = true from decide_eq_true ⟨hv0, hv1⟩)
          have e0 := decide_eq_true hv0
          have e1 := decide_eq_true hv1
          rw [HW.out] at HN HA
          clear hv0 hv1
          go_wp2_with fail
          refine HN.out.mono ?_
          rintro e w1 ⟨rfl, h1, h2⟩
          go_wp2_with fail
          go_roundg (zn - (j + 1))
          case measure => omega
          case rel => exact ⟨j + 1, by omega, rfl, by go_num, Lib.hid (by rw [HA.out]; exact h1), Lib.hid (HK.out.trans h2)⟩
        · have HW := Lib.hid (show wideOk v = false from decide_eq_false fun h => hv1 h.2)
          have e0 := decide_eq_true hv0
          have e1 := decide_eq_false hv1
          rw [HW.out] at HN HA
          clear hv0 hv1
          go_wp2_with fail
          refine HN.out.mono ?_
          rintro e w1 ⟨rfl, h1, h2⟩
          go_wp2_with fail
          go_roundg (zn - (j + 1))
          case measure => omega
          case rel => exact ⟨j + 1, by omega, rfl, by go_num, Lib.hid (by rw [HA.out]; exact h1), Lib.hid (HK.out.trans h2)⟩
      · have HW := Lib.hid (show wideOk v = false from decide_eq_false fun h => hv0 h.1)
        have e0 := decide_eq_false hv0
        rw [HW.out] at HN HA
        clear hv0
        go_wp2_with fail
        refine HN.out.mono ?_
        rintro e w1 ⟨rfl, h1, h2⟩
        go_wp2_with fail
        go_roundg (zn - (j + 1))
        case measure => omega
        case rel => exact ⟨j + 1, by omega, rfl, by go_num, Lib.hid (by rw [HA.out]; exact h1), Lib.hid (HK.out.trans h2)⟩
    · obtain rfl : j = zn := by omega
      have HE := Lib.hid (show l.take j = l by rw [List.take_of_length_le (by rw [HZn.out]; exact Nat.le_refl _)])
      rw [HE.out] at HL
      go_wp2_with fail
      go_end0
      exact ⟨rfl, HL.out, HK.out⟩
set_option maxRecDepth 100000 in
set_option maxHeartbeats 4000000 in
theorem lslots_any (w : World) (g : Nat) (a : Option Addr) (n cap : Nat) (L : List KV) (odd : Bool) (za : Option Addr) (zn zc : Nat) (l : List KS) (most : Int) (h : LkS w g a n cap L odd) (hz : Ss 2 KS.cells w za zn l) (ho : Off1 za zn g) (hzn : zn ≤ 1000000000) :
    Calls Tryz.prog 91 #[.pointer (some ⟨g, 0, none⟩), .slice za zn zc, .int .i64 most] w (LkRet g a n cap L (odd || !slotsOk L most l) w) := by
  have HN0 := Lib.hid (need_any w g a n cap L odd (decide ((zn : Int) ≤ most)) h)
  have HZ := Lib.hid hz
  have HZn := Lib.hid hz.1
  have HO := Lib.hid ho
  have HR := Lib.hid (show (odd || !slotsOk L most l) = ((odd || !decide ((zn : Int) ≤ most)) || !l.all (slotOk L)) by unfold slotsOk; rw [hz.1, odd_next])
  rw [HR.out]
  clear h hz ho
  go_enter Tryz.func91, Tryz.ntmps91
  go_wp2_with fail
  refine HN0.out.mono ?_
  rintro e w0 ⟨rfl, h1, h2⟩
  have H := Lib.hid h1
  have HK0 := Lib.hid h2
  generalize (odd || !decide ((zn : Int) ≤ most)) = odd at *
  clear h1 h2 HN0 HR
  go_wp2_with fail
  go_loopg [16] zn (fun gn i wr => ∃ j : Nat, j ≤ zn ∧ gn = zn - j ∧ i = .int .i64 j ∧ Hid (LkS wr g a n cap L (odd || !(l.take j).all (slotOk L))) ∧ Hid (Keep1 g w wr))
  case atStart => exact ⟨0, by omega, by omega, by go_num, Lib.hid (by simpa using H.out), HK0⟩
  case round =>
    obtain ⟨j, hj, rfl, rfl, HL, HK⟩ := hrel
    by_cases hlt : j < zn
    · obtain ⟨b, off, s, rfl, _, hv, q⟩ := (Ss.keep1 HZ.out HK.out HO.out).getC j hlt
      have HA := Lib.hid (show (odd || !(l.take (j + 1)).all (slotOk L)) = ((odd || !(l.take j).all (slotOk L)) || !slotOk L s) by rw [all_take _ _ _ _ hv, odd_next])
      obtain ⟨tg, sa⟩ := s
      have q0 : wr.cell? ⟨b, off + j * 2, none⟩ = some (.int .i64 tg) := q 0 (by omega)
      have q1 : wr.cell? ⟨b, off + j * 2 + 1, none⟩ = some (.int .i64 sa) := q 1 (by omega)
      clear q hv
      generalize (odd || !(l.take j).all (slotOk L)) = od at *
      have hj1 : (j : Int) < zn := by omega
      have hb : Below wr.heap.size wr (wr.alloc (.cells #[.int .i64 tg, .int .i64 sa] 174)) := below_1 _ _
      have HL1 := Lib.hid (HL.out.below hb)
      have HK1 := Lib.hid (HK.out.trans (Keep1.of hb))
      have p0 := row_cell (heap_alloc_last wr (.cells #[.int .i64 tg, .int .i64 sa] 174)) 0 rfl
      have p1 := row_cell (heap_alloc_last wr (.cells #[.int .i64 tg, .int .i64 sa] 174)) 1 rfl
      simp only [List.getElem?_toArray, List.getElem_toArray, List.getElem_cons_zero, List.getElem_cons_succ] at p0 p1
      clear hb HL HK
      go_upto_region 4 with fail
      clear q0 q1
      generalize wr.alloc (.cells #[.int .i64 tg, .int .i64 sa] 174) = W1 at *
      by_cases h7 : tg = 7
      · subst h7
        have HW := Lib.hid (show slotOk L ⟨7, sa⟩ = clsOk L sa from rfl)
        go_wp2_with fail
        refine (lclass_any W1 g a n cap L od sa HL1.out).mono ?_
        rintro e w1 ⟨rfl, h1, h2⟩
        go_wp2_with fail
        go_roundg (zn - (j + 1))
        case measure => omega
        case rel => exact ⟨j + 1, by omega, rfl, by go_num, Lib.hid (by rw [HA.out, HW.out]; exact h1), Lib.hid (HK1.out.trans h2)⟩
      · by_cases h4 : tg = 0 ∨ tg = 1 ∨ tg = 4 ∨ tg = 5
        · have HW := Lib.hid (show slotOk L ⟨tg, sa⟩ = (sa == 0) by unfold slotOk; rw [if_neg h7, decide_eq_true h4]; rfl)
          clear h7
          rcases h4 with rfl | rfl | rfl | rfl
          · go_wp2_with fail
            refine (need_any W1 g a n cap L od (sa == 0) HL1.out).mono ?_
            rintro e w1 ⟨rfl, h1, h2⟩
            go_wp2_with fail
            go_roundg (zn - (j + 1))
            case measure => omega
            case rel => exact ⟨j + 1, by omega, rfl, by go_num, Lib.hid (by rw [HA.out, HW.out]; exact h1), Lib.hid (HK1.out.trans h2)⟩
          · go_wp2_with fail
            refine (need_any W1 g a n cap L od (sa == 0) HL1.out).mono ?_
            rintro e w1 ⟨rfl, h1, h2⟩
            go_wp2_with fail
            go_roundg (zn - (j + 1))
            case measure => omega
            case rel => exact ⟨j + 1, by omega, rfl, by go_num, Lib.hid (by rw [HA.out, HW.out]; exact h1), Lib.hid (HK1.out.trans h2)⟩
          · go_wp2_with fail
            refine (need_any W1 g a n cap L od (sa == 0) HL1.out).mono ?_
            rintro e w1 ⟨rfl, h1, h2⟩
            go_wp2_with fail
            go_roundg (zn - (j + 1))
            case measure => omega
            case rel => exact ⟨j + 1, by omega, rfl, by go_num, Lib.hid (by rw [HA.out, HW.out]; exact h1), Lib.hid (HK1.out.trans h2)⟩
          · go_wp2_with fail
            refine (need_any W1 g a n cap L od (sa == 0) HL1.out).mono ?_
            rintro e w1 ⟨rfl, h1, h2⟩
            go_wp2_with fail
            go_roundg (zn - (j + 1))
            case measure => omega
            case rel => exact ⟨j + 1, by omega, rfl, by go_num, Lib.hid (by rw [HA.out, HW.out]; exact h1), Lib.hid (HK1.out.trans h2)⟩
        · have HW := Lib.hid (show slotOk L ⟨tg, sa⟩ = false by unfold slotOk; rw [if_neg h7, decide_eq_false h4]; rfl)
          have e7 : (tg == 7) = false := beq_eq_false_iff_ne.2 h7
          have e0 : (tg == 0) = false := beq_eq_false_iff_ne.2 (by omega)
          have e1 : (tg == 1) = false := beq_eq_false_iff_ne.2 (by omega)
          have e4 : (tg == 4) = false := beq_eq_false_iff_ne.2 (by omega)
          have e5 : (tg == 5) = false := beq_eq_false_iff_ne.2 (by omega)
          clear h7 h4
          go_wp2_with fail
          refine (need_any W1 g a n cap L od false HL1.out).mono ?_
          rintro e w1 ⟨rfl, h1, h2⟩
          go_wp2_with fail
          go_roundg (zn - (j + 1))
          case measure => omega
          case rel => exact ⟨j + 1, by omega, rfl, by go_num, Lib.hid (by rw [HA.out, HW.out]; exact h1), Lib.hid (HK1.out.trans h2)⟩
    · obtain rfl : j = zn := by omega
      have HE := Lib.hid (show l.take j = l by rw [List.take_of_length_le (by rw [HZn.out]; exact Nat.le_refl _)])
      rw [HE.out] at HL
      go_wp2_with fail
      go_end0
      exact ⟨rfl, HL.out, HK.out⟩
theorem bv_only8 (v : BitVec 64) (h : v &&& ~~~8#64 = 0#64) : v = 0#64 ∨ v = 8#64 := by
  have hb : ∀ i, i ≠ 3 → v.getLsbD i = false := by
    intro i hi
    have h1 := congrArg (fun b => b.getLsbD i) h
    have h8 : (8#64).getLsbD i = false := by
      rw [show (8#64) = BitVec.twoPow 64 3 by decide, BitVec.getLsbD_twoPow]
      simp
      omega
    simp only [BitVec.getLsbD_and, BitVec.getLsbD_not, h8, Bool.not_false, Bool.and_true, BitVec.getLsbD_zero] at h1
    by_cases hl : i < 64
    · simpa [hl] using h1
    · exact BitVec.getLsbD_of_ge v i (by omega)
  cases h3 : v.getLsbD 3
  · left
    apply BitVec.eq_of_getLsbD_eq
    intro i hi
    by_cases hi3 : i = 3
    · subst hi3; rw [h3]; rfl
    · rw [hb i hi3]; simp
  · right
    apply BitVec.eq_of_getLsbD_eq
    intro i hi
    by_cases hi3 : i = 3
    · subst hi3; rw [h3]; rfl
    · rw [hb i hi3, show (8#64) = BitVec.twoPow 64 3 by decide, BitVec.getLsbD_twoPow]
      simp
      omega
theorem andNot8 (fl : Int) (h : IntR fl) : (bits .andNot .i64 fl 8 == 0) = decide (fl = 0 ∨ fl = 8) := by
  have hd : bits .andNot .i64 fl 8 = IntKind.i64.wrap (((BitVec.ofInt 64 fl &&& ~~~8#64).toNat : Nat) : Int) := rfl
  by_cases h0 : fl = 0 ∨ fl = 8
  · rw [decide_eq_true h0]
    rcases h0 with rfl | rfl <;> decide
  · rw [decide_eq_false h0, beq_eq_false_iff_ne, hd]
    intro hw
    have hz : (BitVec.ofInt 64 fl &&& ~~~8#64) = 0#64 := by
      apply BitVec.eq_of_toNat_eq
      have hl := (BitVec.ofInt 64 fl &&& ~~~8#64).isLt
      rw [IntKind.wrap_i64] at hw
      simp only [BitVec.toNat_ofNat, Nat.zero_mod]
      omega
    unfold IntR at h
    have ht : (BitVec.ofInt 64 fl).toInt = fl := by rw [BitVec.toInt_ofInt, Int.bmod_def]; omega
    rcases bv_only8 _ hz with h8 | h8
    · rw [h8] at ht; exact h0 (.inl (ht.symm.trans (by decide)))
    · rw [h8] at ht; exact h0 (.inr (ht.symm.trans (by decide)))
set_option maxRecDepth 100000 in
set_option maxHeartbeats 4000000 in
theorem lmember_any (w : World) (g : Nat) (a : Option Addr) (n cap : Nat) (L : List KV) (odd : Bool) (fl nm ds : Int) (h : LkS w g a n cap L odd) (hf : IntR fl) :
    Calls Tryz.prog 46 #[.pointer (some ⟨g, 0, none⟩), .int .i64 fl, .int .i64 nm, .int .i64 ds] w (LkRet g a n cap L (odd || !membOk L fl nm ds) w) := by
  have H := Lib.hid h
  have HR := Lib.hid (show (odd || !membOk L fl nm ds) = (((odd || !decide (fl = 0 ∨ fl = 8)) || !isT L nm 1) || !isT L ds 1) by unfold membOk; rw [odd_next, odd_next])
  rw [HR.out]
  have e8 := andNot8 fl hf
  generalize decide (fl = 0 ∨ fl = 8) = b8 at *
  have HN := Lib.hid (need_any w g a n cap L odd b8 h)
  clear h
  go_enter Tryz.func46, Tryz.ntmps46
  go_wp2_with fail
  refine HN.out.mono ?_
  rintro e w1 ⟨rfl, h1, k1⟩
  have H1 := Lib.hid h1
  have HK1 := Lib.hid k1
  clear h1 k1
  go_wp2_with fail
  refine (ltext_any w1 g a n cap L _ nm H1.out).mono ?_
  rintro e w2 ⟨rfl, h2, k2⟩
  have H2 := Lib.hid h2
  have HK2 := Lib.hid (HK1.out.trans k2)
  clear h2 k2
  go_wp2_with fail
  refine (ltext_any w2 g a n cap L _ ds H2.out).mono ?_
  rintro e w3 ⟨rfl, h3, k3⟩
  have HK3 := Lib.hid (HK2.out.trans k3)
  go_wp2_with fail
  go_end0
  exact ⟨rfl, h3, HK3.out⟩
end Go.Proofs.YtclpkipaehpkdaaGreatDoor

