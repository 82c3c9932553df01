/- klass: Parse (printed by gen/klparse.py). No condition. -/
import Derived.Test.YtnfhiakdbakpgaaQ20KlassCuts
namespace Go.Proofs.Ytnfhiakdbakpgaa
open Go.ChangeShapes Go.WideShapes Go.ChangeAt Go.RowKit
def KF.vals (x : KF) : Array Value := #[.slice x.pa x.pn x.pc, .int .i64 x.th, .int .i64 x.su, .slice x.fa x.fn x.fc, .slice x.ma x.mn x.mc]
/-- What Parse leaves. -/
def KParseRet (R : KF × Int) (w : World) (e : Ending) (w' : World) : Prop :=
  ∃ x : KF, x.p = R.1 ∧ e = .returned (.tuple #[.agg x.vals, .int .i64 R.2]) ∧ x.Rd w' ∧ x.Fit ∧ Below w.heap.size w w'
theorem kf0_rd (w : World) : kf0.Rd w := ⟨Ss.nil _ _, Ss.nil _ _, Ss.nil _ _, fun m hm => by cases hm⟩
theorem kf0_fit : kf0.Fit := ⟨by decide, fun i h => absurd h (Nat.not_lt_zero i), by decide, by decide, (fun d hd => by cases hd), (fun d hd => by cases hd)⟩
theorem KParseRet.err {R : KF × Int} {w w' : World} {er : Int} (h : R = (kf0, er)) (hb : Below w.heap.size w w') : KParseRet R w (.returned (.tuple #[.agg #[.slice none 0 0, .int .i64 0, .int .i64 0, .slice none 0 0, .slice none 0 0], .int .i64 er])) w' := by
  subst h
  exact ⟨kf0, rfl, rfl, kf0_rd _, kf0_fit, hb⟩
theorem infoFile : (Try.prog.info? 26).map (·.size) = some 5 := by kernel_rfl
def keep5 (g : Nat) (w : World) (a b c d e : Value) : World := ((((w.setCell ⟨g, 0, none⟩ a).setCell ⟨g, 1, none⟩ b).setCell ⟨g, 2, none⟩ c).setCell ⟨g, 3, none⟩ d).setCell ⟨g, 4, none⟩ e
theorem keep5_heap {w : World} {g : Nat} {a' b' c' d' e' : Value} {t : TypeId} {fr : Nat × Nat} (hg : w.heap[g]? = some (.cells #[a', b', c', d', e'] t fr)) (a b c d e : Value) : (keep5 g w a b c d e).heap[g]? = some (.cells #[a, b, c, d, e] t fr) := by
  have h0 := heap_set3 hg 0 a
  rw [show (#[a', b', c', d', e'] : Array Value).setIfInBounds 0 a = #[a, b', c', d', e'] from rfl] at h0
  have h1 := heap_set3 h0 1 b
  rw [show (#[a, b', c', d', e'] : Array Value).setIfInBounds 1 b = #[a, b, c', d', e'] from rfl] at h1
  have h2 := heap_set3 h1 2 c
  rw [show (#[a, b, c', d', e'] : Array Value).setIfInBounds 2 c = #[a, b, c, d', e'] from rfl] at h2
  have h3 := heap_set3 h2 3 d
  rw [show (#[a, b, c, d', e'] : Array Value).setIfInBounds 3 d = #[a, b, c, d, e'] from rfl] at h3
  have h4 := heap_set3 h3 4 e
  rw [show (#[a, b, c, d, e'] : Array Value).setIfInBounds 4 e = #[a, b, c, d, e] from rfl] at h4
  exact h4
theorem keep5_cell {w : World} {g h o : Nat} {a b c d e x : Value} (hne : h ≠ g) (hc : w.cell? ⟨h, o, none⟩ = some x) : (keep5 g w a b c d e).cell? ⟨h, o, none⟩ = some x := by
  rw [← hc]
  unfold keep5 World.cell? World.setCell
  have hne' : ¬ g = h := fun e => hne e.symm
  simp [Array.getElem?_modify, hne']
theorem keep5_below {w0 w : World} {B g : Nat} (hb : Below B w0 w) (hg : B ≤ g) (a b c d e : Value) : Below B w0 (keep5 g w a b c d e) :=
  ((((hb.setCell (p := ⟨g, 0, none⟩) hg a).setCell (p := ⟨g, 1, none⟩) hg b).setCell (p := ⟨g, 2, none⟩) hg c).setCell (p := ⟨g, 3, none⟩) hg d).setCell (p := ⟨g, 4, none⟩) hg e
theorem keep5_kept {w : World} {g : Nat} {a b c d e a' b' c' d' e' : Value} {t : TypeId} {fr : Nat × Nat} (hg : w.heap[g]? = some (.cells #[a', b', c', d', e'] t fr)) : KeptT t w (keep5 g w a b c d e) := by
  have s0 := keptT_set hg 0 a
  have h0 := heap_set3 hg 0 a
  have s1 := keptT_set h0 1 b
  have h1 := heap_set3 h0 1 b
  have s2 := keptT_set h1 2 c
  have h2 := heap_set3 h1 2 c
  have s3 := keptT_set h2 3 d
  have h3 := heap_set3 h2 3 d
  have s4 := keptT_set h3 4 e
  exact (((s0.trans s1).trans s2).trans s3).trans s4
theorem keep5_keep1 {w0 w : World} {g : Nat} {a b c d e : Value} (k : Keep1 g w0 w) : Keep1 g w0 (keep5 g w a b c d e) := ((((k.set 0 a).set 1 b).set 2 c).set 3 d).set 4 e
/-- The reader's box, and what is wrong. -/
def ErS2 (g gr : Nat) (er : Int) (w : World) : Prop := w.cell? ⟨gr, 0, none⟩ = some (.pointer (some ⟨g, 0, none⟩)) ∧ w.cell? ⟨g, 2, none⟩ = some (.int .i64 er)
/-- What stands behind the pool. -/
def backF (bs : List UInt8) (T : KF × St) : KF × Int := if T.2.2 ≠ 0 then (kf0, T.2.2) else if T.2.1 ≠ bs.length ∨ classOk T.1 = false then (kf0, 8) else (T.1, 0)
theorem enter_fields (args : Array Value) (W : World) : (callFunc 36 args).run Try.prog W = .ok (.enter 36 args) W := rfl
theorem enter_methods (args : Array Value) (W : World) : (callFunc 37 args).run Try.prog W = .ok (.enter 37 args) W := rfl
theorem own_len {w : World} {B : Nat} {e : TypeId} {v : Value} {n : Nat} {xs : List UInt8} (h : w.ownsRow B e 1 v n (xs.map encB)) : n = xs.length := by have := h.1; simpa using this.symm
theorem ownS_len {α : Type} {z : Nat} {enc : α → List Value} (hz : ∀ x, (enc x).length = z) (h0 : 0 < z) {w : World} {B : Nat} {e : TypeId} {v : Value} {n : Nat} {xs : List α} (h : w.ownsRow B e z v n (xs.flatMap enc)) : n = xs.length := by
  obtain ⟨a, c, _, hs, _⟩ := Ss.ofOwn hz h0 h
  exact hs.1.symm
theorem KM.Own.rd {m : KM} {w : World} {B : Nat} (h : m.Own w B) : m.Rd w := by
  obtain ⟨a, c, e, hs, hc⟩ := Sl.ofOwn h.code
  obtain ⟨a', c', e', hs', _⟩ := Ss.ofOwn KT.cells_length (by decide) h.traps
  obtain ⟨a2, c2, e2, hs2, _⟩ := Ss.ofOwn KP.cells_length (by decide) h.maps
  cases e
  cases e'
  cases e2
  exact ⟨hs, hc, hs', hs2, fun p hp => (h.each p hp).rd⟩
theorem KM.Own.fit {m : KM} {w : World} {B N : Nat} (h : m.Own w B) (hf : IntR m.fl) (hs : m.p.Sm N) (hN : N ≤ 1048500) : m.Fit := by
  have h1 := own_len h.code
  have h2 := ownS_len KT.cells_length (by decide) h.traps
  have h3 := ownS_len KP.cells_length (by decide) h.maps
  have h4 := hs.code
  have h5 := hs.traps
  have h6 := hs.maps
  have e1 : m.p.code = m.code := rfl
  have e2 : m.p.traps = m.traps := rfl
  have e3 : m.p.maps = m.maps.map KP.p := rfl
  rw [e1] at h4
  rw [e2] at h5
  rw [e3, List.length_map] at h6
  refine ⟨hf, by unfold maxLen; omega, by omega, by omega, fun p hp => ?_⟩
  have h7 := hs.each p.p (by rw [e3]; exact List.mem_map_of_mem hp)
  have h8 := ownS_len KS.cells_length (by decide) (h.each p hp).loc
  have h9 := ownS_len KS.cells_length (by decide) (h.each p hp).stk
  have e4 : p.p.loc = p.loc := rfl
  have e5 : p.p.stk = p.stk := rfl
  rw [e4, e5] at h7
  exact ⟨by omega, by omega⟩
theorem Off1.ownS {w : World} {B : Nat} {e : TypeId} {a : Option Addr} {z n c g : Nat} {xs : List Value} (h : w.ownsRow B e z (.slice a n c) n xs) (hg : g < B) : Off1 a n g := by
  intro hn b off hx
  obtain ⟨g', hx', hB, _⟩ := own_addr h hn
  rw [hx] at hx'
  simp only [Option.some.injEq, Addr.mk.injEq] at hx'
  omega
theorem Keep2.belowB {g h B : Nat} {w0 w w' : World} (k : Keep2 g h w w') (hb : Below B w0 w) (hB : B ≤ w0.heap.size) (hg : B ≤ g) (hh : B ≤ h) : Below B w0 w' :=
  ⟨k.os.trans hb.os, k.tape.trans hb.tape, k.output.trans hb.output, Nat.le_trans hb.size k.size, fun i hi => by
    rw [k.block i (Nat.lt_of_lt_of_le (Nat.lt_of_lt_of_le hi hB) hb.size) (by omega) (by omega)]; exact hb.block i hi⟩
set_option maxRecDepth 100000 in
set_option maxHeartbeats 64000000 in
theorem KParse_any (w : World) (a : Option Addr) (n cap : Nat) (bs : List UInt8) (hs : Sl encB w a n bs) (hn : n ≤ 1048000) (hcap : n ≤ cap) :
    Calls Try.prog 12 #[.slice a n cap] w (KParseRet (parseF bs) w) := by
  have HS := Lib.hid hs
  have HLn := Lib.hid hs.1
  have h1 : Below w.heap.size w (w.alloc (.cells #[.slice none 0 0, .int .i64 0, .int .i64 0, .slice none 0 0, .slice none 0 0] 26)) := below_1 _ _
  have h2 : Below w.heap.size w ((w.alloc (.cells #[.slice none 0 0, .int .i64 0, .int .i64 0, .slice none 0 0, .slice none 0 0] 26)).alloc (.cells #[.slice a n cap, .int .i64 0, .int .i64 0] 77)) := h1.alloc h1.size _
  have h3 : Below w.heap.size w ((((w.alloc (.cells #[.slice none 0 0, .int .i64 0, .int .i64 0, .slice none 0 0, .slice none 0 0] 26)).alloc (.cells #[.slice a n cap, .int .i64 0, .int .i64 0] 77)).alloc (.cells #[.pointer (some ⟨w.heap.size + 1, 0, none⟩)] 75))) := h2.alloc h2.size _
  have z1 : (w.alloc (.cells #[.slice none 0 0, .int .i64 0, .int .i64 0, .slice none 0 0, .slice none 0 0] 26)).heap.size = w.heap.size + 1 := by simp
  have z2 : ((w.alloc (.cells #[.slice none 0 0, .int .i64 0, .int .i64 0, .slice none 0 0, .slice none 0 0] 26)).alloc (.cells #[.slice a n cap, .int .i64 0, .int .i64 0] 77)).heap.size = w.heap.size + 1 + 1 := by simp
  have HZ3 := Lib.hid (row_below (row_below (heap_alloc_last w (.cells #[.slice none 0 0, .int .i64 0, .int .i64 0, .slice none 0 0, .slice none 0 0] 26)) (below_1 (w.alloc (.cells #[.slice none 0 0, .int .i64 0, .int .i64 0, .slice none 0 0, .slice none 0 0] 26)) (.cells #[.slice a n cap, .int .i64 0, .int .i64 0] 77))) (below_1 ((w.alloc (.cells #[.slice none 0 0, .int .i64 0, .int .i64 0, .slice none 0 0, .slice none 0 0] 26)).alloc (.cells #[.slice a n cap, .int .i64 0, .int .i64 0] 77)) (.cells #[.pointer (some ⟨w.heap.size + 1, 0, none⟩)] 75)))
  have hb2 := row_below (heap_alloc_last (w.alloc (.cells #[.slice none 0 0, .int .i64 0, .int .i64 0, .slice none 0 0, .slice none 0 0] 26)) (.cells #[.slice a n cap, .int .i64 0, .int .i64 0] 77)) (below_1 ((w.alloc (.cells #[.slice none 0 0, .int .i64 0, .int .i64 0, .slice none 0 0, .slice none 0 0] 26)).alloc (.cells #[.slice a n cap, .int .i64 0, .int .i64 0] 77)) (.cells #[.pointer (some ⟨w.heap.size + 1, 0, none⟩)] 75))
  rw [z1] at hb2
  have HG3 := heap_alloc_last ((w.alloc (.cells #[.slice none 0 0, .int .i64 0, .int .i64 0, .slice none 0 0, .slice none 0 0] 26)).alloc (.cells #[.slice a n cap, .int .i64 0, .int .i64 0] 77)) (.cells #[.pointer (some ⟨w.heap.size + 1, 0, none⟩)] 75)
  rw [z2] at HG3
  replace HG3 := Lib.hid HG3
  have HR3 := Lib.hid (show RdS ((((w.alloc (.cells #[.slice none 0 0, .int .i64 0, .int .i64 0, .slice none 0 0, .slice none 0 0] 26)).alloc (.cells #[.slice a n cap, .int .i64 0, .int .i64 0] 77)).alloc (.cells #[.pointer (some ⟨w.heap.size + 1, 0, none⟩)] 75))) (w.heap.size + 1) a n cap bs (0, 0) from ⟨hb2, hs.below h3, Off1.old hs (by omega), hcap, by omega, ⟨fun _ => by omega, by omega⟩⟩)
  have HB3 := Lib.hid h3
  obtain ⟨R, hR⟩ : ∃ R, R = parseF bs := ⟨_, rfl⟩
  rw [← hR]
  have HPF := Lib.hid hR
  clear hs h1 h2 h3 z1 z2 hb2 hR
  go_enter Try.func12, Try.ntmps12
  go_upto_region 2 with fail
  generalize (((w.alloc (.cells #[.slice none 0 0, .int .i64 0, .int .i64 0, .slice none 0 0, .slice none 0 0] 26)).alloc (.cells #[.slice a n cap, .int .i64 0, .int .i64 0] 77)).alloc (.cells #[.pointer (some ⟨w.heap.size + 1, 0, none⟩)] 75)) = W3 at *
  obtain ⟨g, hg⟩ : ∃ b, b = w.heap.size + 1 := ⟨_, rfl⟩
  rw [← hg] at HG3 HR3 ⊢
  obtain ⟨gr, hgr⟩ : ∃ b, b = g + 1 := ⟨_, rfl⟩
  rw [← hgr] at HG3 ⊢
  have hrg : gr ≠ g := by omega
  have hzg : w.heap.size ≠ g := by omega
  have hzr : w.heap.size ≠ gr := by omega
  have HGW := Lib.hid (show w.heap.size ≤ g ∧ w.heap.size ≤ gr by omega)
  clear hg hgr
  have q0 : W3.cell? ⟨gr, 0, none⟩ = some (.pointer (some ⟨g, 0, none⟩)) := row_cell HG3.out 0 rfl
  have HU := Lib.hid (must_lit W3 g a n cap bs (0, 0) HR3.out 4 (by decide) (by decide) 1 [3405691582] rfl (by decide))
  go_wp2_with fail
  refine HU.out.mono ?_
  rintro e' W4 ⟨rfl, hr, hk⟩
  have HG4 := Lib.hid (hk.blk HG3.out hrg)
  have HZ4 := Lib.hid (hk.blk HZ3.out hzg)
  have HR4 := Lib.hid hr
  have HB4 := Lib.hid (hk.below HB3.out (Nat.le_refl _) HGW.out.1)
  clear hr hk HG3 HZ3 HR3 HB3 HU q0
  have q0 : W4.cell? ⟨gr, 0, none⟩ = some (.pointer (some ⟨g, 0, none⟩)) := row_cell HG4.out 0 rfl
  have HU := Lib.hid (must_lit W4 g a n cap bs _ HR4.out 2 (by decide) (by decide) 2 [0, 45] rfl (by decide))
  go_wp2_with fail
  refine HU.out.mono ?_
  rintro e' W5 ⟨rfl, hr, hk⟩
  have HG5 := Lib.hid (hk.blk HG4.out hrg)
  have HZ5 := Lib.hid (hk.blk HZ4.out hzg)
  have HB5 := Lib.hid (hk.below HB4.out (Nat.le_refl _) HGW.out.1)
  obtain ⟨T, hT⟩ : ∃ T, T = headS bs := ⟨_, rfl⟩
  have HR5 := Lib.hid (show RdS W5 g a n cap bs T by rw [hT]; exact hr)
  obtain ⟨p5, e5⟩ := T
  have HT := Lib.hid hT.symm
  clear hr hk hT HG4 HZ4 HR4 HB4 HU q0
  have q0 : W5.cell? ⟨gr, 0, none⟩ = some (.pointer (some ⟨g, 0, none⟩)) := row_cell HG5.out 0 rfl
  obtain ⟨c0, c1, c2, f0, f1, f2, lt⟩ := HR5.out.k.box
  simp only at c1 c2
  by_cases h5 : e5 = 0
  case neg =>
    have g1 : (e5 != 0) = true := by simp [h5]
    have HQ := Lib.hid (show R = (kf0, e5) by rw [HPF.out]; unfold parseF; rw [HT.out]; exact if_pos h5)
    clear h5 HPF HT
    go_upto_region 5 with fail
    clear q0 c0 c1 c2 f0 f1 f2 lt
    have hSw : ErS2 g gr (e5) W5.drew := ⟨row_cell HG5.out 0 rfl, HR5.out.k.box.c2⟩
    have l0 := fun z (h : ErS2 g gr (e5) z) => h.1
    have l2 := fun z (h : ErS2 g gr (e5) z) => h.2
    have HZd := Lib.hid (row_below HZ5.out (Below.refl _ _).drew)
    have HBd := Lib.hid HB5.out.drew
    clear HG5 HZ5 HB5 HR5 
    refine wp_region_lexS (ErS2 g gr (e5)) (.of [(0, true), (1, true), (2, true), (3, true), (4, true), (5, false)] (.stir [(6, true)])) (by kernel_rfl) (by kernel_rfl) (fun c a d v w h => by cases d <;> exact h) ?_
    generalize W5.drew = Wd at *
    iterate 5
      refine lexS_step (fun K hK => ?_)
      simp only [lexOp, List.getElem?_toArray, List.getElem?_cons_succ, List.getElem?_cons_zero]
      rw [if_pos (by rfl)]
      apply Exists.intro
      refine ⟨fun w' hS' => ?_, hSw, ?_⟩
      · first | (go_simp <;> with_reducible rfl) | (go_simp; go_bits; with_reducible rfl)
      go_simp
      try go_bits
      refine hK _ _ ?_
      clear hK K
    have z0 := row_cell HZd.out 0 rfl
    have z1 := row_cell HZd.out 1 rfl
    have z2 := row_cell HZd.out 2 rfl
    have z3 := row_cell HZd.out 3 rfl
    have z4 := row_cell HZd.out 4 rfl
    have f0 := row_melt HZd.out 0
    have f1 := row_melt HZd.out 1
    have f2 := row_melt HZd.out 2
    have f3 := row_melt HZd.out 3
    have f4 := row_melt HZd.out 4
    have ltz := row_lt HZd.out
    refine lexS_step (fun K hK => ?_)
    simp only [lexOp, List.getElem?_toArray, List.getElem?_cons_succ, List.getElem?_cons_zero]
    rw [if_pos (by rfl)]
    go_step
    change ErS2 g gr (e5) (keep5 w.heap.size Wd _ _ _ _ _) ∧ K _ (keep5 w.heap.size Wd _ _ _ _ _)
    have HBf := Lib.hid (keep5_below HBd.out (Nat.le_refl _) (.slice none 0 0) (.int .i64 0) (.int .i64 0) (.slice none 0 0) (.slice none 0 0))
    have HZf := Lib.hid (keep5_heap HZd.out (.slice none 0 0) (.int .i64 0) (.int .i64 0) (.slice none 0 0) (.slice none 0 0))
    have hSf : ErS2 g gr (e5) (keep5 w.heap.size Wd (.slice none 0 0) (.int .i64 0) (.int .i64 0) (.slice none 0 0) (.slice none 0 0)) := ⟨keep5_cell (Ne.symm hzr) hSw.1, keep5_cell (Ne.symm hzg) hSw.2⟩
    refine ⟨hSf, hK _ _ ?_⟩
    clear hK K z0 z1 z2 z3 z4 f0 f1 f2 f3 f4 ltz HZd HBd hSw
    generalize keep5 w.heap.size Wd (.slice none 0 0) (.int .i64 0) (.int .i64 0) (.slice none 0 0) (.slice none 0 0) = Wf at *
    refine lexS_stir (EqW Wf) (fun y hy => by rw [show y = Wf from hy]; exact hSf) rfl ?_
    iterate 1
      refine stir_step (fun K hK => ?_)
      simp only [stirOp, List.getElem?_toArray, List.getElem?_cons_succ, List.getElem?_cons_zero]
      rw [if_pos (by rfl)]
      apply Exists.intro
      refine ⟨fun w' hS' => ?_, ?_⟩
      · first | (go_simp <;> with_reducible rfl) | (go_simp; go_bits; with_reducible rfl)
      go_simp
      try go_bits
      refine hK _ ?_
      clear hK K
    refine stir_nil (fun y hy => ?_)
    obtain rfl : y = Wf := hy
    go_wp2_with fail
    refine bodyPost_ret (results_cell_row_tmp rfl _ _ w.heap.size _ _ _ _ rfl HZf.out Try.underlying26 rfl infoFile) rfl ?_
    exact KParseRet.err HQ.out HBf.out
  obtain rfl : e5 = 0 := h5
  have hhi := head_inv bs (by rw [HT.out])
  rw [HT.out] at hhi
  obtain rfl : p5 = 8 := hhi.1
  have h8n : 8 ≤ n := by have := hhi.2.1; have := HLn.out; omega
  have g1 : ((0 : Int) != 0) = false := rfl
  have HPF := Lib.hid (show R = if (parseK (bs.drop 8)).1 ≠ 0 then (kf0, (parseK (bs.drop 8)).1) else backF bs (restS bs (parseK (bs.drop 8)).2.2 (8 + (parseK (bs.drop 8)).2.1, 0)) by
    rw [HPF.out]; unfold parseF; rw [HT.out]; exact if_neg (fun h => h rfl))
  obtain ⟨b, off, rfl, hbl, -⟩ := HS.out.2 (by omega)
  clear hhi HT hbl
  by_cases hc8 : cap = 8
  · obtain rfl : cap = 8 := hc8
    obtain rfl : n = 8 := by omega
    have hd8 : bs.drop 8 = [] := List.drop_eq_nil_of_le (by have := HLn.out; omega)
    have HQ := Lib.hid (show R = (kf0, 6) by rw [HPF.out, hd8]; exact if_pos (by decide))
    clear hd8 HPF
    go_wp2_with fail
    have hpk : parseK [] = (6, 0, []) := by rfl
    have HPP := poolParse_any W5 (some ⟨b, off, none⟩) 0 0 [] (Sl.nil _ _) (by omega) (by omega)
    rw [hpk] at HPP
    clear hpk
    refine HPP.mono ?_
    rintro e' W6 ⟨v6, m6, rfl, ho6, hb6⟩
    obtain ⟨a6, c6, rfl, -, -⟩ := Ss.ofOwn KV.cells_length (by decide) ho6
    clear HPP
    have HZ6 := row_below HZ5.out hb6
    have HB6 := HB5.out.trans (hb6.mono HB5.out.size)
    have HZ7 := Lib.hid (row_below HZ6 (below_1 W6 (.cells #[.slice a6 m6 c6] 22)))
    have HB7 := Lib.hid (HB6.alloc HB6.size (.cells #[.slice a6 m6 c6] 22))
    clear HZ6 HB6 ho6 hb6 q0 c0 c1 c2 f0 f1 f2 lt HR5 HG5 HZ5 HB5
    go_upto_region 7 with fail
    generalize W6.alloc (.cells #[.slice a6 m6 c6] 22) = W7 at *
    generalize W6.heap.size = gl at *
    have z0 := row_cell HZ7.out 0 rfl
    have z1 := row_cell HZ7.out 1 rfl
    have z2 := row_cell HZ7.out 2 rfl
    have z3 := row_cell HZ7.out 3 rfl
    have z4 := row_cell HZ7.out 4 rfl
    have f0 := row_melt HZ7.out 0
    have f1 := row_melt HZ7.out 1
    have f2 := row_melt HZ7.out 2
    have f3 := row_melt HZ7.out 3
    have f4 := row_melt HZ7.out 4
    have ltz := row_lt HZ7.out
    go_wp2_with fail
    change bodyPost _ _ _ _ _ (keep5 w.heap.size W7 _ _ _ _ _)
    refine bodyPost_ret (results_cell_row_tmp rfl _ _ w.heap.size _ _ _ _ rfl (keep5_heap HZ7.out _ _ _ _ _) Try.underlying26 rfl infoFile) rfl ?_
    exact KParseRet.err HQ.out (keep5_below HB7.out (Nat.le_refl _) _ _ _ _ _)
  have hc8' : 8 ≤ cap := by omega
  have hc8i : (8 : Int) ≤ cap := by omega
  have HSP := Lib.hid (show Sl encB W5 (some ⟨b, off + 8, none⟩) (n - 8) (bs.drop 8) by
    have h := HR5.out.sl.part (p := 8) (m := n - 8) (by omega)
    rw [List.take_of_length_le (by rw [List.length_drop, HLn.out]; exact Nat.le_refl _)] at h
    exact h)
  have HPI := Lib.hid (parse_inv (bs.drop 8))
  have HPP := Lib.hid (poolParse_any W5 (some ⟨b, off + 8, none⟩) (n - 8) (cap - 8) (bs.drop 8) HSP.out (by omega) (by omega))
  obtain ⟨P, hP⟩ : ∃ P, P = parseK (bs.drop 8) := ⟨_, rfl⟩
  rw [← hP] at HPF HPI HPP
  clear hP
  obtain ⟨pe, pn, L⟩ := P
  dsimp only at HPF HPI
  go_wp2_with fail
  refine HPP.out.mono ?_
  rintro e' W6 ⟨v6, m6, rfl, ho6, hb6⟩
  dsimp only at ho6 ⊢
  obtain ⟨a6, c6, rfl, -, -⟩ := Ss.ofOwn KV.cells_length (by decide) ho6
  have h1 : Below W6.heap.size W6 (W6.alloc (.cells #[.slice a6 m6 c6] 22)) := below_1 _ _
  have HZ7 := Lib.hid (row_below (row_below HZ5.out hb6) h1)
  have HG7 := Lib.hid (row_below (row_below HG5.out hb6) h1)
  have HL7 := Lib.hid (heap_alloc_last W6 (.cells #[.slice a6 m6 c6] 22))
  have HR7 := Lib.hid ((HR5.out.below hb6).below h1)
  have HB6 := HB5.out.trans (hb6.mono HB5.out.size)
  have HB7 := Lib.hid (HB6.alloc HB6.size (.cells #[.slice a6 m6 c6] 22))
  have HP7 := Lib.hid (own_mono (own_below ho6 h1) (show g + 1 ≤ W5.heap.size from HR5.out.lt))
  have hlg : W6.heap.size ≠ g := by have := (HR5.out.below hb6).lt; omega
  have hlr : W6.heap.size ≠ gr := by have := row_lt (row_below HG5.out hb6); omega
  have hlz : w.heap.size ≠ W6.heap.size := by have := row_lt (row_below HZ5.out hb6); omega
  have hlW : w.heap.size ≤ W6.heap.size := HB6.size
  clear HZ5 HG5 HR5 HB5 HB6 ho6 hb6 h1 HPP HSP q0 c0 c1 c2 f0 f1 f2 lt
  go_upto_region 7 with fail
  generalize W6.alloc (.cells #[.slice a6 m6 c6] 22) = W7 at *
  generalize W6.heap.size = gl at *
  by_cases hpe : pe = 0
  case neg =>
    have g2 : (pe != 0) = true := by simp [hpe]
    have HQ := Lib.hid (show R = (kf0, pe) by rw [HPF.out]; exact if_pos hpe)
    clear hpe HPF HPI HR7 HG7 HP7 HL7
    have z0 := row_cell HZ7.out 0 rfl
    have z1 := row_cell HZ7.out 1 rfl
    have z2 := row_cell HZ7.out 2 rfl
    have z3 := row_cell HZ7.out 3 rfl
    have z4 := row_cell HZ7.out 4 rfl
    have f0 := row_melt HZ7.out 0
    have f1 := row_melt HZ7.out 1
    have f2 := row_melt HZ7.out 2
    have f3 := row_melt HZ7.out 3
    have f4 := row_melt HZ7.out 4
    have ltz := row_lt HZ7.out
    go_wp2_with fail
    change bodyPost _ _ _ _ _ (keep5 w.heap.size W7 _ _ _ _ _)
    refine bodyPost_ret (results_cell_row_tmp rfl _ _ w.heap.size _ _ _ _ rfl (keep5_heap HZ7.out _ _ _ _ _) Try.underlying26 rfl infoFile) rfl ?_
    exact KParseRet.err HQ.out (keep5_below HB7.out (Nat.le_refl _) _ _ _ _ _)
  obtain rfl : pe = 0 := hpe
  have hK7 : Ks W7 a6 m6 L := by
    obtain ⟨a', c', e', hs', _⟩ := Ss.ofOwn KV.cells_length (by decide) HP7.out
    cases e'
    exact hs'
  have HPF := Lib.hid (show R = backF bs (restS bs L (8 + pn, 0)) by rw [HPF.out]; exact if_neg (fun h => h rfl))
  have hpi := HPI.out rfl
  have HPO := Lib.hid hpi.2.2.2
  have hpn : 8 + pn ≤ n := by have h := hpi.1; rw [List.length_drop, HLn.out] at h; omega
  have HPN := Lib.hid (show m6 ≤ 65536 by rw [ownS_len KV.cells_length (by decide) HP7.out]; exact pool_len HPO.out)
  have h1 : Below W7.heap.size W7 (W7.alloc (.cells #[.slice a6 m6 c6, .int .i64 0, .int .i64 0, .slice none 0 0, .slice none 0 0] 26)) := below_1 _ _
  have HZ8 := Lib.hid (row_below HZ7.out h1)
  have HG8 := Lib.hid (row_below HG7.out h1)
  have HL8 := Lib.hid (row_below HL7.out h1)
  have HF8 := Lib.hid (heap_alloc_last W7 (.cells #[.slice a6 m6 c6, .int .i64 0, .int .i64 0, .slice none 0 0, .slice none 0 0] 26))
  have HR8 := Lib.hid (HR7.out.below h1)
  have HP8 := Lib.hid (show Ks (W7.alloc (.cells #[.slice a6 m6 c6, .int .i64 0, .int .i64 0, .slice none 0 0, .slice none 0 0] 26)) a6 m6 L from hK7.below h1)
  have HB8 := Lib.hid (HB7.out.alloc HB7.out.size (.cells #[.slice a6 m6 c6, .int .i64 0, .int .i64 0, .slice none 0 0, .slice none 0 0] 26))
  have hfg : W7.heap.size ≠ g := by have := HR7.out.lt; omega
  have hrf : gr ≠ W7.heap.size := by have := row_lt HG7.out; omega
  have hlf : gl ≠ W7.heap.size := by have := row_lt HL7.out; omega
  have hzf : w.heap.size ≠ W7.heap.size := by have := row_lt HZ7.out; omega
  have hfW : w.heap.size ≤ W7.heap.size := HB7.out.size
  have HOF := Lib.hid (show Off1 (some ⟨b, off, none⟩) n W7.heap.size from Off1.old HS.out hfW)
  have HPG := Lib.hid (show Off1 a6 m6 g from Off1.ownS HP7.out (Nat.lt_succ_self g))
  have HPX := Lib.hid (show Off1 a6 m6 W7.heap.size from Off1.oldS hK7 (Nat.le_refl _))
  have HPZ := Lib.hid (show Off1 a6 m6 w.heap.size from Off1.ownS HP7.out (Nat.lt_succ_of_le HGW.out.1))
  have hgf : g < W7.heap.size := HR7.out.lt
  have l7 : W7.cell? ⟨gl, 0, none⟩ = some (.slice a6 m6 c6) := row_cell HL7.out 0 rfl
  clear HPI hpi hK7
  go_upto_region 10 with fail
  clear HZ7 HG7 HL7 HR7 HP7 HB7 h1 l7
  generalize W7.alloc (.cells #[.slice a6 m6 c6, .int .i64 0, .int .i64 0, .slice none 0 0, .slice none 0 0] 26) = W8 at *
  generalize W7.heap.size = gf at *
  obtain ⟨q, hq⟩ : ∃ q, q = 8 + pn := ⟨_, rfl⟩
  have hqi : (8 : Int) + (pn : Int) = (q : Int) := by omega
  have hqn : q ≤ n := by omega
  rw [← hq] at HPF
  have hqm : (pn : Int) ≤ (n : Int) := by omega
  clear hq hpn
  have q0 : W8.cell? ⟨gr, 0, none⟩ = some (.pointer (some ⟨g, 0, none⟩)) := row_cell HG8.out 0 rfl
  obtain ⟨c0, c1, c2, f0, f1, f2, lt⟩ := HR8.out.k.box
  simp only at c1 c2
  have c1' : W8.cell? ⟨g, 1, none⟩ = some (.int .i64 8) := c1
  go_upto_region 11 with fail
  have hsk := (Keep1.refl g W8).set 1 (.int .i64 (q : Nat))
  have HR9 := Lib.hid (show RdS (W8.setCell ⟨g, 1, none⟩ (.int .i64 (q : Nat))) g (some ⟨b, off, none⟩) n cap bs (q, 0) from ⟨HR8.out.k.set1, HR8.out.sl.keep1 hsk HR8.out.off, HR8.out.off, HR8.out.le, HR8.out.sm, ⟨fun _ => hqn, by show q ≤ n + 8; omega⟩⟩)
  have HG9 := Lib.hid (hsk.blk HG8.out hrg)
  have HL9 := Lib.hid (hsk.blk HL8.out hlg)
  have HF9 := Lib.hid (hsk.blk HF8.out hfg)
  have HZ9 := Lib.hid (hsk.blk HZ8.out hzg)
  have HB9 := Lib.hid (hsk.below HB8.out (Nat.le_refl _) HGW.out.1)
  have HP9 := Lib.hid (Ss.keep1 HP8.out hsk HPG.out)
  clear hsk HR8 HG8 HL8 HF8 HZ8 HB8 HP8 q0 c0 c1 c2 c1' f0 f1 f2 lt
  generalize W8.setCell ⟨g, 1, none⟩ (.int .i64 (q : Nat)) = W9 at *
  obtain ⟨TB, hTB⟩ : ∃ T, T = restS bs L (q, 0) := ⟨_, rfl⟩
  rw [← hTB] at HPF
  obtain ⟨s10, hs10⟩ : ∃ s, (mustS bs 2 [33] (q, 0)).2 = s := ⟨_, rfl⟩
  obtain ⟨th, s11, hx1⟩ : ∃ x s, getS bs 2 s10 = (x, s) := ⟨_, _, rfl⟩
  obtain ⟨su, s12, hx2⟩ : ∃ x s, getS bs 2 s11 = (x, s) := ⟨_, _, rfl⟩
  obtain ⟨s13, hs13⟩ : ∃ s, (mustS bs 2 [0] s12).2 = s := ⟨_, rfl⟩
  obtain ⟨fni, s14, hx3⟩ : ∃ x s, getS bs 2 s13 = (x, s) := ⟨_, _, rfl⟩
  obtain ⟨FL, s15, hx4⟩ : ∃ x s, timesS 64 (fieldS bs) fni s14 = (x, s) := ⟨_, _, rfl⟩
  obtain ⟨mni, s16, hx5⟩ : ∃ x s, getS bs 2 s15 = (x, s) := ⟨_, _, rfl⟩
  obtain ⟨ML, s17, hx6⟩ : ∃ x s, timesS 64 (methS bs L) mni s16 = (x, s) := ⟨_, _, rfl⟩
  obtain ⟨s18, hs18⟩ : ∃ s, (mustS bs 2 [0] s17).2 = s := ⟨_, rfl⟩
  have hTE : TB = (⟨none, 0, 0, L, th, su, none, 0, 0, FL, none, 0, 0, ML⟩, s18) := by
    rw [hTB]; simp only [restS, bindR, pureR, hs10, hx1, hx2, hs13, hx3, hx4, hx5, hx6, hs18]
  have HFF := Lib.hid (show ∀ d ∈ FL, IntR d.fl by have h := restS_fields bs L (q, 0); rw [← hTB, hTE] at h; exact h)
  have HMF := Lib.hid (show ∀ m ∈ ML, IntR m.fl by have h := restS_methods bs L (q, 0); rw [← hTB, hTE] at h; exact h)
  have HMS := Lib.hid (show ∀ m ∈ ML, m.Sm bs.length by have h := restS_sm bs L (q, 0); rw [← hTB, hTE] at h; exact h)
  have HFLn := Lib.hid (show FL.length ≤ 65535 by
    have h := timesS_len 64 (fieldS bs) fni s14; rw [hx4] at h; have h2 := getS_two bs 2 (by decide) s13; rw [hx3] at h2; dsimp only at h h2; omega)
  have HMLn := Lib.hid (show ML.length ≤ 65535 by
    have h := timesS_len 64 (methS bs L) mni s16; rw [hx6] at h; have h2 := getS_two bs 2 (by decide) s15; rw [hx5] at h2; dsimp only at h h2; omega)
  have hfv : 0 ≤ fni ∧ fni < 65536 := by have := getS_two bs 2 (by decide) s13; rw [hx3] at this; exact this
  have hmv : 0 ≤ mni ∧ mni < 65536 := by have := getS_two bs 2 (by decide) s15; rw [hx5] at this; exact this
  obtain ⟨fn, rfl⟩ : ∃ k : Nat, fni = (k : Int) := ⟨fni.toNat, by omega⟩
  obtain ⟨mn, rfl⟩ : ∃ k : Nat, mni = (k : Int) := ⟨mni.toNat, by omega⟩
  have hfn : fn ≤ 65535 := by omega
  have hmn : mn ≤ 65535 := by omega
  rw [hTE] at HPF
  clear hTB hTE hfv hmv
  have HX1 := Lib.hid hx1
  have HX2 := Lib.hid hx2
  have HX3 := Lib.hid hx3
  have HX4 := Lib.hid hx4
  have HX5 := Lib.hid hx5
  have HX6 := Lib.hid hx6
  have HS10 := Lib.hid hs10
  have HS13 := Lib.hid hs13
  have HS18 := Lib.hid hs18
  clear hx1 hx2 hx3 hx4 hx5 hx6 hs10 hs13 hs18
  have q0 : W9.cell? ⟨gr, 0, none⟩ = some (.pointer (some ⟨g, 0, none⟩)) := row_cell HG9.out 0 rfl
  have HU := must_lit W9 g (some ⟨b, off, none⟩) n cap bs _ HR9.out 2 (by decide) (by decide) 1 [33] rfl (by decide)
  rw [HS10.out] at HU
  replace HU := Lib.hid HU
  go_wp2_with fail
  refine HU.out.mono ?_
  rintro e' W10 ⟨rfl, hr, hk⟩
  have HG10 := Lib.hid (hk.blk HG9.out hrg)
  have HL10 := Lib.hid (hk.blk HL9.out hlg)
  have HF10 := Lib.hid (hk.blk HF9.out hfg)
  have HZ10 := Lib.hid (hk.blk HZ9.out hzg)
  have HB10 := Lib.hid (hk.below HB9.out (Nat.le_refl _) HGW.out.1)
  have HP10 := Lib.hid (Ss.keep1 HP9.out hk HPG.out)
  have HR10 := Lib.hid hr
  clear hr hk HU HG9 HL9 HF9 HZ9 HB9 HP9 HR9 q0
  go_upto_region 12 with fail
  refine wp_region_lex (OneC gr 0 (.pointer (some ⟨g, 0, none⟩))) [(0, true), (2, true), (1, false), (4, true), (3, false), (5, false), (6, true), (7, false)] (by kernel_rfl) (by kernel_rfl) (fun c a d v w h => by cases d <;> exact h) ?_
  have hd : Below W10.heap.size W10 W10.drew := (Below.refl _ _).drew
  have HG11 := Lib.hid (row_below HG10.out hd)
  have HL11 := Lib.hid (row_below HL10.out hd)
  have HF11 := Lib.hid (row_below HF10.out hd)
  have HZ11 := Lib.hid (row_below HZ10.out hd)
  have HB11 := Lib.hid (HB10.out.trans (hd.mono HB10.out.size))
  have HP11 := Lib.hid (Ss.below HP10.out hd)
  have HR11 := Lib.hid (HR10.out.below hd)
  clear HG10 HL10 HF10 HZ10 HB10 HP10 HR10 hd
  generalize W10.drew = W11 at *
  have hSw : OneC gr 0 (.pointer (some ⟨g, 0, none⟩)) W11 := row_cell HG11.out 0 rfl
  have l0 := fun z (h : OneC gr 0 (.pointer (some ⟨g, 0, none⟩)) z) => (show z.cell? ⟨gr, 0, none⟩ = some (.pointer (some ⟨g, 0, none⟩)) from h)
  iterate 2
    refine lex_step (fun K hK => ?_)
    simp only [lexOp, List.getElem?_toArray, List.getElem?_cons_succ, List.getElem?_cons_zero]
    rw [if_pos (by rfl)]
    apply Exists.intro
    refine ⟨fun w' hS' => ?_, hSw, ?_⟩
    · first | (go_simp <;> with_reducible rfl) | (go_simp; go_bits; with_reducible rfl)
    go_simp
    try go_bits
    refine hK _ _ ?_
    clear hK K
  refine lex_step (fun K hK => ?_)
  simp only [lexOp, List.getElem?_toArray, List.getElem?_cons_succ, List.getElem?_cons_zero]
  rw [if_pos (by rfl)]
  go_step
  have HU := ku2_any W11 g (some ⟨b, off, none⟩) n cap bs s10 HR11.out
  rw [HX1.out] at HU
  dsimp only at HU
  refine HU.mono ?_
  rintro e' W12 ⟨rfl, hr, hk⟩
  clear HU
  have HR12 := Lib.hid hr
  have HG12 := Lib.hid (hk.blk HG11.out hrg)
  have HL12 := Lib.hid (hk.blk HL11.out hlg)
  have HF12 := Lib.hid (hk.blk HF11.out hfg)
  have HZ12 := Lib.hid (hk.blk HZ11.out hzg)
  have HB12 := Lib.hid (hk.below HB11.out (Nat.le_refl _) HGW.out.1)
  have HP12 := Lib.hid (Ss.keep1 HP11.out hk HPG.out)
  replace hSw : OneC gr 0 (.pointer (some ⟨g, 0, none⟩)) W12 := row_cell HG12.out 0 rfl
  clear HG11 HL11 HF11 HZ11 HB11 HP11 HR11 hr hk
  go_simp
  first | refine hK _ _ ?_ | refine ⟨hSw, hK _ _ ?_⟩
  clear hK K
  iterate 1
    refine lex_step (fun K hK => ?_)
    simp only [lexOp, List.getElem?_toArray, List.getElem?_cons_succ, List.getElem?_cons_zero]
    rw [if_pos (by rfl)]
    apply Exists.intro
    refine ⟨fun w' hS' => ?_, hSw, ?_⟩
    · first | (go_simp <;> with_reducible rfl) | (go_simp; go_bits; with_reducible rfl)
    go_simp
    try go_bits
    refine hK _ _ ?_
    clear hK K
  refine lex_step (fun K hK => ?_)
  simp only [lexOp, List.getElem?_toArray, List.getElem?_cons_succ, List.getElem?_cons_zero]
  rw [if_pos (by rfl)]
  go_step
  have HU := ku2_any W12 g (some ⟨b, off, none⟩) n cap bs s11 HR12.out
  rw [HX2.out] at HU
  dsimp only at HU
  refine HU.mono ?_
  rintro e' W13 ⟨rfl, hr, hk⟩
  clear HU
  have HR13 := Lib.hid hr
  have HG13 := Lib.hid (hk.blk HG12.out hrg)
  have HL13 := Lib.hid (hk.blk HL12.out hlg)
  have HF13 := Lib.hid (hk.blk HF12.out hfg)
  have HZ13 := Lib.hid (hk.blk HZ12.out hzg)
  have HB13 := Lib.hid (hk.below HB12.out (Nat.le_refl _) HGW.out.1)
  have HP13 := Lib.hid (Ss.keep1 HP12.out hk HPG.out)
  replace hSw : OneC gr 0 (.pointer (some ⟨g, 0, none⟩)) W13 := row_cell HG13.out 0 rfl
  clear HG12 HL12 HF12 HZ12 HB12 HP12 HR12 hr hk
  go_simp
  first | refine hK _ _ ?_ | refine ⟨hSw, hK _ _ ?_⟩
  clear hK K
  have fo := row_melt HF13.out 1
  have lto := row_lt HF13.out
  have co : W13.cell? ⟨gf, 1, none⟩ = some (.int .i64 0) := row_cell HF13.out 1 rfl
  refine lex_step (fun K hK => ?_)
  simp only [lexOp, List.getElem?_toArray, List.getElem?_cons_succ, List.getElem?_cons_zero]
  rw [if_pos (by rfl)]
  go_step
  have HF14 := Lib.hid (show (W13.setCell ⟨gf, 1, none⟩ (.int .i64 th)).heap[gf]? = some (.cells #[.slice a6 m6 c6, .int .i64 th, .int .i64 0, .slice none 0 0, .slice none 0 0] 26) by simpa using heap_set3 HF13.out 1 (.int .i64 th))
  have HG14 := Lib.hid (heap_other HG13.out hrf 1 (.int .i64 th))
  have HL14 := Lib.hid (heap_other HL13.out hlf 1 (.int .i64 th))
  have HZ14 := Lib.hid (heap_other HZ13.out hzf 1 (.int .i64 th))
  have HB14 := Lib.hid (HB13.out.setCell (p := ⟨gf, 1, none⟩) hfW (.int .i64 th))
  have HP14 := Lib.hid (Ss.keep1 HP13.out ((Keep1.refl gf W13).set 1 (.int .i64 th)) HPX.out)
  have HR14 := Lib.hid (RdS.set HR13.out ⟨Ne.symm hfg, HOF.out⟩ 1 (.int .i64 th))
  replace hSw : OneC gr 0 (.pointer (some ⟨g, 0, none⟩)) (W13.setCell ⟨gf, 1, none⟩ (.int .i64 th)) := row_cell HG14.out 0 rfl
  clear fo lto co
  clear HG13 HL13 HF13 HZ13 HB13 HP13 HR13 
  refine ⟨hSw, hK _ _ ?_⟩
  clear hK K
  generalize W13.setCell ⟨gf, 1, none⟩ (.int .i64 th) = W14 at *
  iterate 1
    refine lex_step (fun K hK => ?_)
    simp only [lexOp, List.getElem?_toArray, List.getElem?_cons_succ, List.getElem?_cons_zero]
    rw [if_pos (by rfl)]
    apply Exists.intro
    refine ⟨fun w' hS' => ?_, hSw, ?_⟩
    · first | (go_simp <;> with_reducible rfl) | (go_simp; go_bits; with_reducible rfl)
    go_simp
    try go_bits
    refine hK _ _ ?_
    clear hK K
  have fo := row_melt HF14.out 2
  have lto := row_lt HF14.out
  have co : W14.cell? ⟨gf, 2, none⟩ = some (.int .i64 0) := row_cell HF14.out 2 rfl
  refine lex_step (fun K hK => ?_)
  simp only [lexOp, List.getElem?_toArray, List.getElem?_cons_succ, List.getElem?_cons_zero]
  rw [if_pos (by rfl)]
  go_step
  have HF15 := Lib.hid (show (W14.setCell ⟨gf, 2, none⟩ (.int .i64 su)).heap[gf]? = some (.cells #[.slice a6 m6 c6, .int .i64 th, .int .i64 su, .slice none 0 0, .slice none 0 0] 26) by simpa using heap_set3 HF14.out 2 (.int .i64 su))
  have HG15 := Lib.hid (heap_other HG14.out hrf 2 (.int .i64 su))
  have HL15 := Lib.hid (heap_other HL14.out hlf 2 (.int .i64 su))
  have HZ15 := Lib.hid (heap_other HZ14.out hzf 2 (.int .i64 su))
  have HB15 := Lib.hid (HB14.out.setCell (p := ⟨gf, 2, none⟩) hfW (.int .i64 su))
  have HP15 := Lib.hid (Ss.keep1 HP14.out ((Keep1.refl gf W14).set 2 (.int .i64 su)) HPX.out)
  have HR15 := Lib.hid (RdS.set HR14.out ⟨Ne.symm hfg, HOF.out⟩ 2 (.int .i64 su))
  replace hSw : OneC gr 0 (.pointer (some ⟨g, 0, none⟩)) (W14.setCell ⟨gf, 2, none⟩ (.int .i64 su)) := row_cell HG15.out 0 rfl
  clear fo lto co
  clear HG14 HL14 HF14 HZ14 HB14 HP14 HR14 
  refine ⟨hSw, hK _ _ ?_⟩
  clear hK K
  generalize W14.setCell ⟨gf, 2, none⟩ (.int .i64 su) = W15 at *
  refine lex_nil ?_
  clear l0 hSw
  have q0 : W15.cell? ⟨gr, 0, none⟩ = some (.pointer (some ⟨g, 0, none⟩)) := row_cell HG15.out 0 rfl
  have HU := must_lit W15 g (some ⟨b, off, none⟩) n cap bs _ HR15.out 2 (by decide) (by decide) 1 [0] rfl (by decide)
  rw [HS13.out] at HU
  replace HU := Lib.hid HU
  go_wp2_with fail
  refine HU.out.mono ?_
  rintro e' W16 ⟨rfl, hr, hk⟩
  have HG16 := Lib.hid (hk.blk HG15.out hrg)
  have HL16 := Lib.hid (hk.blk HL15.out hlg)
  have HF16 := Lib.hid (hk.blk HF15.out hfg)
  have HZ16 := Lib.hid (hk.blk HZ15.out hzg)
  have HB16 := Lib.hid (hk.below HB15.out (Nat.le_refl _) HGW.out.1)
  have HP16 := Lib.hid (Ss.keep1 HP15.out hk HPG.out)
  have HR16 := Lib.hid hr
  clear HG15 HL15 HF15 HZ15 HB15 HP15 HR15 hr hk HU q0
  go_upto_region 14 with fail
  go_cut [] (fun wx => Hid (wx.heap[gr]? = some (.cells #[.pointer (some ⟨g, 0, none⟩)] 75)) ∧ Hid (wx.heap[gl]? = some (.cells #[.slice a6 m6 c6] 22)) ∧ Hid (wx.heap[w.heap.size]? = some (.cells #[.slice none 0 0, .int .i64 0, .int .i64 0, .slice none 0 0, .slice none 0 0] 26)) ∧ Hid (Below w.heap.size w wx) ∧ Hid (Ks wx a6 m6 L) ∧ Hid (RdS wx g (some ⟨b, off, none⟩) n cap bs s15) ∧ (∃ (fa : Option Addr) (fc fm : Nat), Hid (wx.heap[gf]? = some (.cells #[.slice a6 m6 c6, .int .i64 th, .int .i64 su, .slice fa fm fc, .slice none 0 0] 26)) ∧ Hid (wx.ownsRow (gf + 1) 59 3 (.slice fa fm fc) fm (FL.flatMap KD.cells))))
  case first =>
    refine wp_region_lexS (OneC gr 0 (.pointer (some ⟨g, 0, none⟩))) (.of [(0, true), (1, true)] (.fork 2 (.of [(3, false), (4, false)] (.stir [])) 3 (.of [(2, false), (4, false)] (.stir [])))) (by kernel_rfl) (by kernel_rfl) (fun c a d v w h => by cases d <;> exact h) ?_
    have hd : Below W16.heap.size W16 W16.drew := (Below.refl _ _).drew
    have HG16d := Lib.hid (row_below HG16.out hd)
    have HL16d := Lib.hid (row_below HL16.out hd)
    have HF16d := Lib.hid (row_below HF16.out hd)
    have HZ16d := Lib.hid (row_below HZ16.out hd)
    have HB16d := Lib.hid (HB16.out.trans (hd.mono HB16.out.size))
    have HP16d := Lib.hid (Ss.below HP16.out hd)
    have HR16d := Lib.hid (HR16.out.below hd)
    generalize W16.drew = W16d at *
    have hSw : OneC gr 0 (.pointer (some ⟨g, 0, none⟩)) W16d := row_cell HG16d.out 0 rfl
    have l0 := fun z (h : OneC gr 0 (.pointer (some ⟨g, 0, none⟩)) z) => (show z.cell? ⟨gr, 0, none⟩ = some (.pointer (some ⟨g, 0, none⟩)) from h)
    iterate 2
      refine lexS_step (fun K hK => ?_)
      simp only [lexOp, List.getElem?_toArray, List.getElem?_cons_succ, List.getElem?_cons_zero]
      rw [if_pos (by rfl)]
      apply Exists.intro
      refine ⟨fun w' hS' => ?_, hSw, ?_⟩
      · first | (go_simp <;> with_reducible rfl) | (go_simp; go_bits; with_reducible rfl)
      go_simp
      try go_bits
      refine hK _ _ ?_
      clear hK K
    refine lexS_fork ?_ ?_
    · intro K hK
      simp only [lexOp, List.getElem?_toArray, List.getElem?_cons_succ, List.getElem?_cons_zero]
      rw [if_pos (by rfl)]
      go_step
      have HU := ku2_any W16d g (some ⟨b, off, none⟩) n cap bs s13 HR16d.out
      rw [HX3.out] at HU
      dsimp only at HU
      refine HU.mono ?_
      rintro e' W16u ⟨rfl, hr, hk⟩
      clear HU
      have HR16u := Lib.hid hr
      have HG16u := Lib.hid (hk.blk HG16d.out hrg)
      have HL16u := Lib.hid (hk.blk HL16d.out hlg)
      have HF16u := Lib.hid (hk.blk HF16d.out hfg)
      have HZ16u := Lib.hid (hk.blk HZ16d.out hzg)
      have HB16u := Lib.hid (hk.below HB16d.out (Nat.le_refl _) HGW.out.1)
      have HP16u := Lib.hid (Ss.keep1 HP16d.out hk HPG.out)
      replace hSw : OneC gr 0 (.pointer (some ⟨g, 0, none⟩)) W16u := row_cell HG16u.out 0 rfl
      clear hr hk
      go_simp
      first | refine hK _ _ ?_ | refine ⟨hSw, hK _ _ ?_⟩
      clear hK K
      refine lexS_step (fun K hK => ?_)
      simp only [lexOp, List.getElem?_toArray, List.getElem?_cons_succ, List.getElem?_cons_zero]
      rw [if_pos (by rfl)]
      go_step
      first | refine hK _ _ ?_ | refine ⟨hSw, hK _ _ ?_⟩
      clear hK K
      refine lexS_step (fun K hK => ?_)
      simp only [lexOp, List.getElem?_toArray, List.getElem?_cons_succ, List.getElem?_cons_zero]
      rw [if_pos (by rfl)]
      go_step
      have hgW := HR16u.out.lt
      have hfW2 := row_lt HF16u.out
      have HT := times_any (fieldS bs) (FdJ g gr gf (.slice a6 m6 c6) (.int .i64 th) (.int .i64 su) W16u) W16u g (some ⟨b, off, none⟩) n cap bs s14 HR16u.out fn hfn 64 36 enter_fields #[.pointer (some ⟨gf, 0, none⟩), .pointer (some ⟨gr, 0, none⟩)]
        ⟨HG16u.out, ⟨_, 0, HF16u.out, World.ownsRow_nil _ _ _ _, rfl⟩, Keep2.refl _ _ _⟩ ⟨heap_other HG16u.out hrg 2 _, ⟨_, 0, heap_other HF16u.out hfg 2 _, World.ownsRow_nil _ _ _ _, rfl⟩, (Keep2.refl _ _ _).setC (.inr (.inl rfl)) 2 _⟩
        (fun W t l ht hr hj hl => field1_any W16u W g gr gf _ _ _ (some ⟨b, off, none⟩) n cap bs t l HR16u.out.sl HOF.out hgW hfW2 hfg hrg hrf hr hj (by omega))
      rw [HX4.out] at HT
      dsimp only at HT
      refine HT.mono ?_
      rintro e' W17 ⟨rfl, hr, ⟨hg17, ⟨v17, m17, hf17, ho17, hm17⟩, hk17⟩⟩
      clear HT
      obtain ⟨fa, fc, rfl, -, -⟩ := Ss.ofOwn KD.cells_length (by decide) ho17
      have HG17 := Lib.hid hg17
      have HF17 := Lib.hid hf17
      have HO17 := Lib.hid (own_mono ho17 (show gf + 1 ≤ W16u.heap.size from hfW2))
      have HL17 := Lib.hid (hk17.blk HL16u.out hlg hlf)
      have HZ17 := Lib.hid (hk17.blk HZ16u.out hzg hzf)
      have HB17 := Lib.hid (hk17.belowB HB16u.out (Nat.le_refl _) HGW.out.1 hfW)
      have HP17 := Lib.hid (Ss.keep2 HP16u.out hk17 HPG.out HPX.out)
      have HR17 := Lib.hid hr
      replace hSw : OneC gr 0 (.pointer (some ⟨g, 0, none⟩)) W17 := row_cell HG17.out 0 rfl
      clear hr hg17 hf17 ho17 hm17 hk17
      go_simp
      first | refine hK _ _ ?_ | refine ⟨hSw, hK _ _ ?_⟩
      clear hK K
      refine lexS_stir (EqW W17) (fun y hy => by rw [show y = W17 from hy]; exact hSw) rfl ?_
      refine stir_nil (fun y hy => ?_)
      obtain rfl : y = W17 := hy
      clear l0 hSw
      go_wp2_with fail
      go_meet
      exact ⟨HG17, HL17, HZ17, HB17, HP17, HR17, fa, fc, m17, HF17, HO17⟩
    · intro K hK
      simp only [lexOp, List.getElem?_toArray, List.getElem?_cons_succ, List.getElem?_cons_zero]
      rw [if_pos (by rfl)]
      go_step
      first | refine hK _ _ ?_ | refine ⟨hSw, hK _ _ ?_⟩
      clear hK K
      refine lexS_step (fun K hK => ?_)
      simp only [lexOp, List.getElem?_toArray, List.getElem?_cons_succ, List.getElem?_cons_zero]
      rw [if_pos (by rfl)]
      go_step
      have HU := ku2_any W16d g (some ⟨b, off, none⟩) n cap bs s13 HR16d.out
      rw [HX3.out] at HU
      dsimp only at HU
      refine HU.mono ?_
      rintro e' W16u ⟨rfl, hr, hk⟩
      clear HU
      have HR16u := Lib.hid hr
      have HG16u := Lib.hid (hk.blk HG16d.out hrg)
      have HL16u := Lib.hid (hk.blk HL16d.out hlg)
      have HF16u := Lib.hid (hk.blk HF16d.out hfg)
      have HZ16u := Lib.hid (hk.blk HZ16d.out hzg)
      have HB16u := Lib.hid (hk.below HB16d.out (Nat.le_refl _) HGW.out.1)
      have HP16u := Lib.hid (Ss.keep1 HP16d.out hk HPG.out)
      replace hSw : OneC gr 0 (.pointer (some ⟨g, 0, none⟩)) W16u := row_cell HG16u.out 0 rfl
      clear hr hk
      go_simp
      first | refine hK _ _ ?_ | refine ⟨hSw, hK _ _ ?_⟩
      clear hK K
      refine lexS_step (fun K hK => ?_)
      simp only [lexOp, List.getElem?_toArray, List.getElem?_cons_succ, List.getElem?_cons_zero]
      rw [if_pos (by rfl)]
      go_step
      have hgW := HR16u.out.lt
      have hfW2 := row_lt HF16u.out
      have HT := times_any (fieldS bs) (FdJ g gr gf (.slice a6 m6 c6) (.int .i64 th) (.int .i64 su) W16u) W16u g (some ⟨b, off, none⟩) n cap bs s14 HR16u.out fn hfn 64 36 enter_fields #[.pointer (some ⟨gf, 0, none⟩), .pointer (some ⟨gr, 0, none⟩)]
        ⟨HG16u.out, ⟨_, 0, HF16u.out, World.ownsRow_nil _ _ _ _, rfl⟩, Keep2.refl _ _ _⟩ ⟨heap_other HG16u.out hrg 2 _, ⟨_, 0, heap_other HF16u.out hfg 2 _, World.ownsRow_nil _ _ _ _, rfl⟩, (Keep2.refl _ _ _).setC (.inr (.inl rfl)) 2 _⟩
        (fun W t l ht hr hj hl => field1_any W16u W g gr gf _ _ _ (some ⟨b, off, none⟩) n cap bs t l HR16u.out.sl HOF.out hgW hfW2 hfg hrg hrf hr hj (by omega))
      rw [HX4.out] at HT
      dsimp only at HT
      refine HT.mono ?_
      rintro e' W17 ⟨rfl, hr, ⟨hg17, ⟨v17, m17, hf17, ho17, hm17⟩, hk17⟩⟩
      clear HT
      obtain ⟨fa, fc, rfl, -, -⟩ := Ss.ofOwn KD.cells_length (by decide) ho17
      have HG17 := Lib.hid hg17
      have HF17 := Lib.hid hf17
      have HO17 := Lib.hid (own_mono ho17 (show gf + 1 ≤ W16u.heap.size from hfW2))
      have HL17 := Lib.hid (hk17.blk HL16u.out hlg hlf)
      have HZ17 := Lib.hid (hk17.blk HZ16u.out hzg hzf)
      have HB17 := Lib.hid (hk17.belowB HB16u.out (Nat.le_refl _) HGW.out.1 hfW)
      have HP17 := Lib.hid (Ss.keep2 HP16u.out hk17 HPG.out HPX.out)
      have HR17 := Lib.hid hr
      replace hSw : OneC gr 0 (.pointer (some ⟨g, 0, none⟩)) W17 := row_cell HG17.out 0 rfl
      clear hr hg17 hf17 ho17 hm17 hk17
      go_simp
      first | refine hK _ _ ?_ | refine ⟨hSw, hK _ _ ?_⟩
      clear hK K
      refine lexS_stir (EqW W17) (fun y hy => by rw [show y = W17 from hy]; exact hSw) rfl ?_
      refine stir_nil (fun y hy => ?_)
      obtain rfl : y = W17 := hy
      clear l0 hSw
      go_wp2_with fail
      go_meet
      exact ⟨HG17, HL17, HZ17, HB17, HP17, HR17, fa, fc, m17, HF17, HO17⟩
  case rest =>
    clear HG16 HL16 HF16 HZ16 HB16 HP16 HR16
    obtain ⟨HG17, HL17, HZ17, HB17, HP17, HR17, fa, fc, fm, HF17, HO17⟩ := hcut
    go_upto_region 15 with fail
    go_cut [] (fun wx => Hid (wx.heap[gr]? = some (.cells #[.pointer (some ⟨g, 0, none⟩)] 75)) ∧ Hid (wx.heap[gl]? = some (.cells #[.slice a6 m6 c6] 22)) ∧ Hid (wx.heap[w.heap.size]? = some (.cells #[.slice none 0 0, .int .i64 0, .int .i64 0, .slice none 0 0, .slice none 0 0] 26)) ∧ Hid (Below w.heap.size w wx) ∧ Hid (Ks wx a6 m6 L) ∧ Hid (RdS wx g (some ⟨b, off, none⟩) n cap bs s17) ∧ (∃ (ma : Option Addr) (mc mm : Nat) (lw : List KM), Hid (lw.map KM.p = ML) ∧ Hid (wx.heap[gf]? = some (.cells #[.slice a6 m6 c6, .int .i64 th, .int .i64 su, .slice fa fm fc, .slice ma mm mc] 26)) ∧ Hid (wx.ownsRow (gf + 1) 59 3 (.slice fa fm fc) fm (FL.flatMap KD.cells)) ∧ Hid (wx.ownsRow (gf + 1) 48 8 (.slice ma mm mc) mm (lw.flatMap KM.cells)) ∧ Hid (∀ x ∈ lw, x.Own wx (gf + 1))))
    case first =>
      refine wp_region_lexS (OneC gr 0 (.pointer (some ⟨g, 0, none⟩))) (.of [(0, true), (1, true)] (.fork 2 (.of [(3, false), (4, false)] (.stir [])) 3 (.of [(2, false), (4, false)] (.stir [])))) (by kernel_rfl) (by kernel_rfl) (fun c a d v w h => by cases d <;> exact h) ?_
      have hd : Below wc.heap.size wc wc.drew := (Below.refl _ _).drew
      have HG17d := Lib.hid (row_below HG17.out hd)
      have HL17d := Lib.hid (row_below HL17.out hd)
      have HF17d := Lib.hid (row_below HF17.out hd)
      have HZ17d := Lib.hid (row_below HZ17.out hd)
      have HB17d := Lib.hid (HB17.out.trans (hd.mono HB17.out.size))
      have HP17d := Lib.hid (Ss.below HP17.out hd)
      have HO17d := Lib.hid (own_below HO17.out hd)
      have HR17d := Lib.hid (HR17.out.below hd)
      generalize wc.drew = W17d at *
      have hSw : OneC gr 0 (.pointer (some ⟨g, 0, none⟩)) W17d := row_cell HG17d.out 0 rfl
      have l0 := fun z (h : OneC gr 0 (.pointer (some ⟨g, 0, none⟩)) z) => (show z.cell? ⟨gr, 0, none⟩ = some (.pointer (some ⟨g, 0, none⟩)) from h)
      iterate 2
        refine lexS_step (fun K hK => ?_)
        simp only [lexOp, List.getElem?_toArray, List.getElem?_cons_succ, List.getElem?_cons_zero]
        rw [if_pos (by rfl)]
        apply Exists.intro
        refine ⟨fun w' hS' => ?_, hSw, ?_⟩
        · first | (go_simp <;> with_reducible rfl) | (go_simp; go_bits; with_reducible rfl)
        go_simp
        try go_bits
        refine hK _ _ ?_
        clear hK K
      refine lexS_fork ?_ ?_
      · intro K hK
        simp only [lexOp, List.getElem?_toArray, List.getElem?_cons_succ, List.getElem?_cons_zero]
        rw [if_pos (by rfl)]
        go_step
        have HU := ku2_any W17d g (some ⟨b, off, none⟩) n cap bs s15 HR17d.out
        rw [HX5.out] at HU
        dsimp only at HU
        refine HU.mono ?_
        rintro e' W17u ⟨rfl, hr, hk⟩
        clear HU
        have HR17u := Lib.hid hr
        have HO17u := Lib.hid (own_keep1 HO17d.out hk (Nat.lt_succ_of_lt hgf))
        have HG17u := Lib.hid (hk.blk HG17d.out hrg)
        have HL17u := Lib.hid (hk.blk HL17d.out hlg)
        have HF17u := Lib.hid (hk.blk HF17d.out hfg)
        have HZ17u := Lib.hid (hk.blk HZ17d.out hzg)
        have HB17u := Lib.hid (hk.below HB17d.out (Nat.le_refl _) HGW.out.1)
        have HP17u := Lib.hid (Ss.keep1 HP17d.out hk HPG.out)
        replace hSw : OneC gr 0 (.pointer (some ⟨g, 0, none⟩)) W17u := row_cell HG17u.out 0 rfl
        clear hr hk
        go_simp
        first | refine hK _ _ ?_ | refine ⟨hSw, hK _ _ ?_⟩
        clear hK K
        refine lexS_step (fun K hK => ?_)
        simp only [lexOp, List.getElem?_toArray, List.getElem?_cons_succ, List.getElem?_cons_zero]
        rw [if_pos (by rfl)]
        go_step
        first | refine hK _ _ ?_ | refine ⟨hSw, hK _ _ ?_⟩
        clear hK K
        refine lexS_step (fun K hK => ?_)
        simp only [lexOp, List.getElem?_toArray, List.getElem?_cons_succ, List.getElem?_cons_zero]
        rw [if_pos (by rfl)]
        go_step
        have hgW := HR17u.out.lt
        have hfW2 := row_lt HF17u.out
        have HT := times_any (methS bs L) (MdJ g gr gl gf (.slice a6 m6 c6) (.slice a6 m6 c6) (.int .i64 th) (.int .i64 su) (.slice fa fm fc) W17u) W17u g (some ⟨b, off, none⟩) n cap bs s16 HR17u.out mn hmn 64 37 enter_methods #[.pointer (some ⟨gr, 0, none⟩), .pointer (some ⟨gl, 0, none⟩), .pointer (some ⟨gf, 0, none⟩)]
          ⟨HG17u.out, HL17u.out, ⟨_, 0, [], HF17u.out, World.ownsRow_nil _ _ _ _, rfl, rfl, fun x hx => by cases hx⟩, Keep2.refl _ _ _⟩ ⟨heap_other HG17u.out hrg 2 _, heap_other HL17u.out hlg 2 _, ⟨_, 0, [], heap_other HF17u.out hfg 2 _, World.ownsRow_nil _ _ _ _, rfl, rfl, fun x hx => by cases hx⟩, (Keep2.refl _ _ _).setC (.inr (.inl rfl)) 2 _⟩
          (fun W t l ht hr hj hl => meth1_any W17u W g gr gl gf _ _ _ _ (some ⟨b, off, none⟩) n cap bs t l HR17u.out.sl (by omega) HOF.out a6 m6 c6 L HP17u.out HPG.out HPX.out HPN.out hgW hfW2 hfg hrg hrf hlg hlf hr hj (by omega))
        rw [HX6.out] at HT
        dsimp only at HT
        refine HT.mono ?_
        rintro e' W18 ⟨rfl, hr, ⟨hg18, hl18, ⟨v18, m18, lw, hf18, ho18, hm18, hlw, how⟩, hk18⟩⟩
        clear HT
        obtain ⟨ma, mc, rfl, -, -⟩ := Ss.ofOwn KM.cells_length (by decide) ho18
        have HG18 := Lib.hid hg18
        have HL18 := Lib.hid hl18
        have HF18 := Lib.hid hf18
        have HM18 := Lib.hid (own_mono ho18 (show gf + 1 ≤ W17u.heap.size from hfW2))
        have HW18 := Lib.hid (fun x hx => (how x hx).mono (show gf + 1 ≤ W17u.heap.size from hfW2))
        have HO18 := Lib.hid (own_keep2 HO17u.out hk18 (Nat.lt_succ_of_lt hgf) (Nat.lt_succ_self gf))
        have HLW := Lib.hid hlw
        have HZ18 := Lib.hid (hk18.blk HZ17u.out hzg hzf)
        have HB18 := Lib.hid (hk18.belowB HB17u.out (Nat.le_refl _) HGW.out.1 hfW)
        have HP18 := Lib.hid (Ss.keep2 HP17u.out hk18 HPG.out HPX.out)
        have HR18 := Lib.hid hr
        replace hSw : OneC gr 0 (.pointer (some ⟨g, 0, none⟩)) W18 := row_cell HG18.out 0 rfl
        clear hr hg18 hl18 hf18 ho18 hm18 hlw how hk18
        go_simp
        first | refine hK _ _ ?_ | refine ⟨hSw, hK _ _ ?_⟩
        clear hK K
        refine lexS_stir (EqW W18) (fun y hy => by rw [show y = W18 from hy]; exact hSw) rfl ?_
        refine stir_nil (fun y hy => ?_)
        obtain rfl : y = W18 := hy
        clear l0 hSw
        go_wp2_with fail
        go_meet
        exact ⟨HG18, HL18, HZ18, HB18, HP18, HR18, ma, mc, m18, lw, HLW, HF18, HO18, HM18, HW18⟩
      · intro K hK
        simp only [lexOp, List.getElem?_toArray, List.getElem?_cons_succ, List.getElem?_cons_zero]
        rw [if_pos (by rfl)]
        go_step
        first | refine hK _ _ ?_ | refine ⟨hSw, hK _ _ ?_⟩
        clear hK K
        refine lexS_step (fun K hK => ?_)
        simp only [lexOp, List.getElem?_toArray, List.getElem?_cons_succ, List.getElem?_cons_zero]
        rw [if_pos (by rfl)]
        go_step
        have HU := ku2_any W17d g (some ⟨b, off, none⟩) n cap bs s15 HR17d.out
        rw [HX5.out] at HU
        dsimp only at HU
        refine HU.mono ?_
        rintro e' W17u ⟨rfl, hr, hk⟩
        clear HU
        have HR17u := Lib.hid hr
        have HO17u := Lib.hid (own_keep1 HO17d.out hk (Nat.lt_succ_of_lt hgf))
        have HG17u := Lib.hid (hk.blk HG17d.out hrg)
        have HL17u := Lib.hid (hk.blk HL17d.out hlg)
        have HF17u := Lib.hid (hk.blk HF17d.out hfg)
        have HZ17u := Lib.hid (hk.blk HZ17d.out hzg)
        have HB17u := Lib.hid (hk.below HB17d.out (Nat.le_refl _) HGW.out.1)
        have HP17u := Lib.hid (Ss.keep1 HP17d.out hk HPG.out)
        replace hSw : OneC gr 0 (.pointer (some ⟨g, 0, none⟩)) W17u := row_cell HG17u.out 0 rfl
        clear hr hk
        go_simp
        first | refine hK _ _ ?_ | refine ⟨hSw, hK _ _ ?_⟩
        clear hK K
        refine lexS_step (fun K hK => ?_)
        simp only [lexOp, List.getElem?_toArray, List.getElem?_cons_succ, List.getElem?_cons_zero]
        rw [if_pos (by rfl)]
        go_step
        have hgW := HR17u.out.lt
        have hfW2 := row_lt HF17u.out
        have HT := times_any (methS bs L) (MdJ g gr gl gf (.slice a6 m6 c6) (.slice a6 m6 c6) (.int .i64 th) (.int .i64 su) (.slice fa fm fc) W17u) W17u g (some ⟨b, off, none⟩) n cap bs s16 HR17u.out mn hmn 64 37 enter_methods #[.pointer (some ⟨gr, 0, none⟩), .pointer (some ⟨gl, 0, none⟩), .pointer (some ⟨gf, 0, none⟩)]
          ⟨HG17u.out, HL17u.out, ⟨_, 0, [], HF17u.out, World.ownsRow_nil _ _ _ _, rfl, rfl, fun x hx => by cases hx⟩, Keep2.refl _ _ _⟩ ⟨heap_other HG17u.out hrg 2 _, heap_other HL17u.out hlg 2 _, ⟨_, 0, [], heap_other HF17u.out hfg 2 _, World.ownsRow_nil _ _ _ _, rfl, rfl, fun x hx => by cases hx⟩, (Keep2.refl _ _ _).setC (.inr (.inl rfl)) 2 _⟩
          (fun W t l ht hr hj hl => meth1_any W17u W g gr gl gf _ _ _ _ (some ⟨b, off, none⟩) n cap bs t l HR17u.out.sl (by omega) HOF.out a6 m6 c6 L HP17u.out HPG.out HPX.out HPN.out hgW hfW2 hfg hrg hrf hlg hlf hr hj (by omega))
        rw [HX6.out] at HT
        dsimp only at HT
        refine HT.mono ?_
        rintro e' W18 ⟨rfl, hr, ⟨hg18, hl18, ⟨v18, m18, lw, hf18, ho18, hm18, hlw, how⟩, hk18⟩⟩
        clear HT
        obtain ⟨ma, mc, rfl, -, -⟩ := Ss.ofOwn KM.cells_length (by decide) ho18
        have HG18 := Lib.hid hg18
        have HL18 := Lib.hid hl18
        have HF18 := Lib.hid hf18
        have HM18 := Lib.hid (own_mono ho18 (show gf + 1 ≤ W17u.heap.size from hfW2))
        have HW18 := Lib.hid (fun x hx => (how x hx).mono (show gf + 1 ≤ W17u.heap.size from hfW2))
        have HO18 := Lib.hid (own_keep2 HO17u.out hk18 (Nat.lt_succ_of_lt hgf) (Nat.lt_succ_self gf))
        have HLW := Lib.hid hlw
        have HZ18 := Lib.hid (hk18.blk HZ17u.out hzg hzf)
        have HB18 := Lib.hid (hk18.belowB HB17u.out (Nat.le_refl _) HGW.out.1 hfW)
        have HP18 := Lib.hid (Ss.keep2 HP17u.out hk18 HPG.out HPX.out)
        have HR18 := Lib.hid hr
        replace hSw : OneC gr 0 (.pointer (some ⟨g, 0, none⟩)) W18 := row_cell HG18.out 0 rfl
        clear hr hg18 hl18 hf18 ho18 hm18 hlw how hk18
        go_simp
        first | refine hK _ _ ?_ | refine ⟨hSw, hK _ _ ?_⟩
        clear hK K
        refine lexS_stir (EqW W18) (fun y hy => by rw [show y = W18 from hy]; exact hSw) rfl ?_
        refine stir_nil (fun y hy => ?_)
        obtain rfl : y = W18 := hy
        clear l0 hSw
        go_wp2_with fail
        go_meet
        exact ⟨HG18, HL18, HZ18, HB18, HP18, HR18, ma, mc, m18, lw, HLW, HF18, HO18, HM18, HW18⟩
    case rest =>
      clear HG17 HL17 HF17 HZ17 HB17 HP17 HR17 HO17
      obtain ⟨HG18, HL18, HZ18, HB18, HP18, HR18, ma, mc, mm, lw, HLW, HF18, HO18, HM18, HW18⟩ := hcut
      have q0 : wc.cell? ⟨gr, 0, none⟩ = some (.pointer (some ⟨g, 0, none⟩)) := row_cell HG18.out 0 rfl
      have HU := must_lit wc g (some ⟨b, off, none⟩) n cap bs _ HR18.out 2 (by decide) (by decide) 1 [0] rfl (by decide)
      rw [HS18.out] at HU
      replace HU := Lib.hid HU
      go_wp2_with fail
      refine HU.out.mono ?_
      rintro e' W19 ⟨rfl, hr, hk⟩
      have HO19 := Lib.hid (own_keep1 HO18.out hk (Nat.lt_succ_of_lt hgf))
      have HM19 := Lib.hid (own_keep1 HM18.out hk (Nat.lt_succ_of_lt hgf))
      have HW19 := Lib.hid (fun x hx => (HW18.out x hx).keep1 hk (Nat.lt_succ_of_lt hgf))
      have HG19 := Lib.hid (hk.blk HG18.out hrg)
      have HL19 := Lib.hid (hk.blk HL18.out hlg)
      have HF19 := Lib.hid (hk.blk HF18.out hfg)
      have HZ19 := Lib.hid (hk.blk HZ18.out hzg)
      have HB19 := Lib.hid (hk.below HB18.out (Nat.le_refl _) HGW.out.1)
      have HP19 := Lib.hid (Ss.keep1 HP18.out hk HPG.out)
      have HR19 := Lib.hid hr
      clear HG18 HL18 HF18 HZ18 HB18 HP18 HR18 hr hk HU q0 HO18 HM18 HW18
      obtain ⟨pz, ez⟩ := s18
      have q0 : W19.cell? ⟨gr, 0, none⟩ = some (.pointer (some ⟨g, 0, none⟩)) := row_cell HG19.out 0 rfl
      obtain ⟨c0, c1, c2, f0, f1, f2, lt⟩ := HR19.out.k.box
      simp only at c1 c2
      by_cases hez : ez = 0
      case neg =>
        have g2 : (ez == 0) = false := by simp [hez]
        have g3 : (ez != 0) = true := by simp [hez]
        have HQ := Lib.hid (show R = (kf0, ez) by rw [HPF.out]; exact if_pos hez)
        clear hez HPF
        go_upto_region 20 with fail
        clear q0 c0 c1 c2 f0 f1 f2 lt
        have hSw : ErS2 g gr (ez) W19.drew := ⟨row_cell HG19.out 0 rfl, HR19.out.k.box.c2⟩
        have l0 := fun z (h : ErS2 g gr (ez) z) => h.1
        have l2 := fun z (h : ErS2 g gr (ez) z) => h.2
        have HZd := Lib.hid (row_below HZ19.out (Below.refl _ _).drew)
        have HBd := Lib.hid HB19.out.drew
        clear HG19 HZ19 HB19 HR19 
        refine wp_region_lexS (ErS2 g gr (ez)) (.of [(0, true), (1, true), (2, true), (3, true), (4, true), (5, false)] (.stir [(6, true)])) (by kernel_rfl) (by kernel_rfl) (fun c a d v w h => by cases d <;> exact h) ?_
        generalize W19.drew = Wd at *
        iterate 5
          refine lexS_step (fun K hK => ?_)
          simp only [lexOp, List.getElem?_toArray, List.getElem?_cons_succ, List.getElem?_cons_zero]
          rw [if_pos (by rfl)]
          apply Exists.intro
          refine ⟨fun w' hS' => ?_, hSw, ?_⟩
          · first | (go_simp <;> with_reducible rfl) | (go_simp; go_bits; with_reducible rfl)
          go_simp
          try go_bits
          refine hK _ _ ?_
          clear hK K
        have z0 := row_cell HZd.out 0 rfl
        have z1 := row_cell HZd.out 1 rfl
        have z2 := row_cell HZd.out 2 rfl
        have z3 := row_cell HZd.out 3 rfl
        have z4 := row_cell HZd.out 4 rfl
        have f0 := row_melt HZd.out 0
        have f1 := row_melt HZd.out 1
        have f2 := row_melt HZd.out 2
        have f3 := row_melt HZd.out 3
        have f4 := row_melt HZd.out 4
        have ltz := row_lt HZd.out
        refine lexS_step (fun K hK => ?_)
        simp only [lexOp, List.getElem?_toArray, List.getElem?_cons_succ, List.getElem?_cons_zero]
        rw [if_pos (by rfl)]
        go_step
        change ErS2 g gr (ez) (keep5 w.heap.size Wd _ _ _ _ _) ∧ K _ (keep5 w.heap.size Wd _ _ _ _ _)
        have HBf := Lib.hid (keep5_below HBd.out (Nat.le_refl _) (.slice none 0 0) (.int .i64 0) (.int .i64 0) (.slice none 0 0) (.slice none 0 0))
        have HZf := Lib.hid (keep5_heap HZd.out (.slice none 0 0) (.int .i64 0) (.int .i64 0) (.slice none 0 0) (.slice none 0 0))
        have hSf : ErS2 g gr (ez) (keep5 w.heap.size Wd (.slice none 0 0) (.int .i64 0) (.int .i64 0) (.slice none 0 0) (.slice none 0 0)) := ⟨keep5_cell (Ne.symm hzr) hSw.1, keep5_cell (Ne.symm hzg) hSw.2⟩
        refine ⟨hSf, hK _ _ ?_⟩
        clear hK K z0 z1 z2 z3 z4 f0 f1 f2 f3 f4 ltz HZd HBd hSw
        generalize keep5 w.heap.size Wd (.slice none 0 0) (.int .i64 0) (.int .i64 0) (.slice none 0 0) (.slice none 0 0) = Wf at *
        refine lexS_stir (EqW Wf) (fun y hy => by rw [show y = Wf from hy]; exact hSf) rfl ?_
        iterate 1
          refine stir_step (fun K hK => ?_)
          simp only [stirOp, List.getElem?_toArray, List.getElem?_cons_succ, List.getElem?_cons_zero]
          rw [if_pos (by rfl)]
          apply Exists.intro
          refine ⟨fun w' hS' => ?_, ?_⟩
          · first | (go_simp <;> with_reducible rfl) | (go_simp; go_bits; with_reducible rfl)
          go_simp
          try go_bits
          refine hK _ ?_
          clear hK K
        refine stir_nil (fun y hy => ?_)
        obtain rfl : y = Wf := hy
        go_wp2_with fail
        refine bodyPost_ret (results_cell_row_tmp rfl _ _ w.heap.size _ _ _ _ rfl HZf.out Try.underlying26 rfl infoFile) rfl ?_
        exact KParseRet.err HQ.out HBf.out
      obtain rfl : ez = 0 := hez
      have g2 : ((0 : Int) == 0) = true := rfl
      by_cases hpz : pz = n
      case neg =>
        have g4 : ((pz : Int) != (n : Int)) = true := by simp; omega
        have HQ := Lib.hid (show R = (kf0, 8) by rw [HPF.out]; unfold backF; rw [if_neg (fun h => h rfl), if_pos (.inl (by rw [HLn.out]; exact hpz))])
        clear hpz HPF
        go_upto_region 19 with fail
        have HR20 := Lib.hid (HR19.out.bad 8 (by decide))
        have hk20 := (Keep1.refl g W19).set 2 (.int .i64 8)
        have HG20 := Lib.hid (hk20.blk HG19.out hrg)
        have HZ20 := Lib.hid (hk20.blk HZ19.out hzg)
        have HB20 := Lib.hid (hk20.below HB19.out (Nat.le_refl _) HGW.out.1)
        clear q0 c0 c1 c2 f0 f1 f2 lt hk20 HG19 HZ19 HB19 HR19 HF19 HL19 HP19 HO19 HM19 HW19
        generalize W19.setCell ⟨g, 2, none⟩ (.int .i64 8) = W20 at *
        have q0 : W20.cell? ⟨gr, 0, none⟩ = some (.pointer (some ⟨g, 0, none⟩)) := row_cell HG20.out 0 rfl
        obtain ⟨c0, c1, c2, f0, f1, f2, lt⟩ := HR20.out.k.box
        simp only at c1 c2
        go_upto_region 20 with fail
        clear q0 c0 c1 c2 f0 f1 f2 lt
        have hSw : ErS2 g gr (8) W20.drew := ⟨row_cell HG20.out 0 rfl, HR20.out.k.box.c2⟩
        have l0 := fun z (h : ErS2 g gr (8) z) => h.1
        have l2 := fun z (h : ErS2 g gr (8) z) => h.2
        have HZd := Lib.hid (row_below HZ20.out (Below.refl _ _).drew)
        have HBd := Lib.hid HB20.out.drew
        clear HG20 HZ20 HB20 HR20 
        refine wp_region_lexS (ErS2 g gr (8)) (.of [(0, true), (1, true), (2, true), (3, true), (4, true), (5, false)] (.stir [(6, true)])) (by kernel_rfl) (by kernel_rfl) (fun c a d v w h => by cases d <;> exact h) ?_
        generalize W20.drew = Wd at *
        iterate 5
          refine lexS_step (fun K hK => ?_)
          simp only [lexOp, List.getElem?_toArray, List.getElem?_cons_succ, List.getElem?_cons_zero]
          rw [if_pos (by rfl)]
          apply Exists.intro
          refine ⟨fun w' hS' => ?_, hSw, ?_⟩
          · first | (go_simp <;> with_reducible rfl) | (go_simp; go_bits; with_reducible rfl)
          go_simp
          try go_bits
          refine hK _ _ ?_
          clear hK K
        have z0 := row_cell HZd.out 0 rfl
        have z1 := row_cell HZd.out 1 rfl
        have z2 := row_cell HZd.out 2 rfl
        have z3 := row_cell HZd.out 3 rfl
        have z4 := row_cell HZd.out 4 rfl
        have f0 := row_melt HZd.out 0
        have f1 := row_melt HZd.out 1
        have f2 := row_melt HZd.out 2
        have f3 := row_melt HZd.out 3
        have f4 := row_melt HZd.out 4
        have ltz := row_lt HZd.out
        refine lexS_step (fun K hK => ?_)
        simp only [lexOp, List.getElem?_toArray, List.getElem?_cons_succ, List.getElem?_cons_zero]
        rw [if_pos (by rfl)]
        go_step
        change ErS2 g gr (8) (keep5 w.heap.size Wd _ _ _ _ _) ∧ K _ (keep5 w.heap.size Wd _ _ _ _ _)
        have HBf := Lib.hid (keep5_below HBd.out (Nat.le_refl _) (.slice none 0 0) (.int .i64 0) (.int .i64 0) (.slice none 0 0) (.slice none 0 0))
        have HZf := Lib.hid (keep5_heap HZd.out (.slice none 0 0) (.int .i64 0) (.int .i64 0) (.slice none 0 0) (.slice none 0 0))
        have hSf : ErS2 g gr (8) (keep5 w.heap.size Wd (.slice none 0 0) (.int .i64 0) (.int .i64 0) (.slice none 0 0) (.slice none 0 0)) := ⟨keep5_cell (Ne.symm hzr) hSw.1, keep5_cell (Ne.symm hzg) hSw.2⟩
        refine ⟨hSf, hK _ _ ?_⟩
        clear hK K z0 z1 z2 z3 z4 f0 f1 f2 f3 f4 ltz HZd HBd hSw
        generalize keep5 w.heap.size Wd (.slice none 0 0) (.int .i64 0) (.int .i64 0) (.slice none 0 0) (.slice none 0 0) = Wf at *
        refine lexS_stir (EqW Wf) (fun y hy => by rw [show y = Wf from hy]; exact hSf) rfl ?_
        iterate 1
          refine stir_step (fun K hK => ?_)
          simp only [stirOp, List.getElem?_toArray, List.getElem?_cons_succ, List.getElem?_cons_zero]
          rw [if_pos (by rfl)]
          apply Exists.intro
          refine ⟨fun w' hS' => ?_, ?_⟩
          · first | (go_simp <;> with_reducible rfl) | (go_simp; go_bits; with_reducible rfl)
          go_simp
          try go_bits
          refine hK _ ?_
          clear hK K
        refine stir_nil (fun y hy => ?_)
        obtain rfl : y = Wf := hy
        go_wp2_with fail
        refine bodyPost_ret (results_cell_row_tmp rfl _ _ w.heap.size _ _ _ _ rfl HZf.out Try.underlying26 rfl infoFile) rfl ?_
        exact KParseRet.err HQ.out HBf.out
      obtain rfl : pz = n := hpz
      have g4 : ((pz : Int) != (pz : Int)) = false := by simp
      have hrd : (⟨a6, m6, c6, L, th, su, fa, fm, fc, FL, ma, mm, mc, lw⟩ : KF).Rd W19 := ⟨HP19.out, (by obtain ⟨a', c', e', hs', _⟩ := Ss.ofOwn KD.cells_length (by decide) HO19.out; cases e'; exact hs'), (by obtain ⟨a', c', e', hs', _⟩ := Ss.ofOwn KM.cells_length (by decide) HM19.out; cases e'; exact hs'), fun m hm => (HW19.out m hm).rd⟩
      have hfit : (⟨a6, m6, c6, L, th, su, fa, fm, fc, FL, ma, mm, mc, lw⟩ : KF).Fit := by
        have hfl := ownS_len KD.cells_length (by decide) HO19.out
        have hml := ownS_len KM.cells_length (by decide) HM19.out
        have hm2 : lw.length ≤ 65535 := by rw [← HLW.out, List.length_map] at HMLn; exact HMLn.out
        refine ⟨HPN.out, fun i _ => pool_text HPO.out i, ?_, ?_, HFF.out, fun m hm => ?_⟩
        · have := HFLn.out; show fm ≤ _; omega
        · show mm ≤ _; omega
        · have hmem : m.p ∈ ML := by rw [← HLW.out]; exact List.mem_map_of_mem hm
          exact (HW19.out m hm).fit (HMF.out m.p hmem) (HMS.out m.p hmem) (by rw [HLn.out]; omega)
      have HCK := Lib.hid (KCheck_any W19 _ hrd hfit)
      have HFIT := Lib.hid hfit
      have hcp := classOk_p (⟨a6, m6, c6, L, th, su, fa, fm, fc, FL, ma, mm, mc, lw⟩ : KF)
      have HPF := Lib.hid (show R = if classOk (⟨a6, m6, c6, L, th, su, fa, fm, fc, FL, ma, mm, mc, lw⟩ : KF) = false then (kf0, 8) else ((⟨a6, m6, c6, L, th, su, fa, fm, fc, FL, ma, mm, mc, lw⟩ : KF).p, 0) by
        rw [HPF.out, ← hcp]
        unfold backF
        rw [if_neg (fun h => h rfl)]
        have e1 : (⟨none, 0, 0, L, th, su, none, 0, 0, FL, none, 0, 0, ML⟩ : KF) = (⟨a6, m6, c6, L, th, su, fa, fm, fc, FL, ma, mm, mc, lw⟩ : KF).p := by unfold KF.p; dsimp only; rw [HLW.out]
        rw [e1]
        simp only [HLn.out, ne_eq, not_true_eq_false, false_or])
      unfold KCheckRet at HCK
      dsimp only at HCK
      have k0 := row_cell HF19.out 0 rfl
      have k1 := row_cell HF19.out 1 rfl
      have k2 := row_cell HF19.out 2 rfl
      have k3 := row_cell HF19.out 3 rfl
      have k4 := row_cell HF19.out 4 rfl
      generalize classOk (⟨a6, m6, c6, L, th, su, fa, fm, fc, FL, ma, mm, mc, lw⟩ : KF) = ck at *
      clear hrd hfit hcp
      cases ck with
      | false =>
        have HQ := Lib.hid (show R = (kf0, 8) by rw [HPF.out]; exact if_pos rfl)
        have HCK := Lib.hid (HCK.out.mono (R' := fun e w' => e = .returned (.int .i64 8) ∧ Below W19.heap.size W19 w') (fun _ _ h => h))
        clear HPF
        go_wp2_with fail
        refine HCK.out.mono ?_
        rintro e' W20 ⟨rfl, hb⟩
        have HR20 := Lib.hid (HR19.out.below hb)
        have HG20 := Lib.hid (row_below HG19.out hb)
        have HZ20 := Lib.hid (row_below HZ19.out hb)
        have HB20 := Lib.hid (HB19.out.trans (hb.mono HB19.out.size))
        clear q0 c0 c1 c2 f0 f1 f2 lt HG19 HZ19 HB19 HR19 HF19 HL19 HP19 HO19 HM19 HW19 HCK hb k0 k1 k2 k3 k4
        have q0 : W20.cell? ⟨gr, 0, none⟩ = some (.pointer (some ⟨g, 0, none⟩)) := row_cell HG20.out 0 rfl
        obtain ⟨c0, c1, c2, f0, f1, f2, lt⟩ := HR20.out.k.box
        simp only at c1 c2
        go_upto_region 19 with fail
        have HR21 := Lib.hid (HR20.out.bad 8 (by decide))
        have hk21 := (Keep1.refl g W20).set 2 (.int .i64 8)
        have HG21 := Lib.hid (hk21.blk HG20.out hrg)
        have HZ21 := Lib.hid (hk21.blk HZ20.out hzg)
        have HB21 := Lib.hid (hk21.below HB20.out (Nat.le_refl _) HGW.out.1)
        clear q0 c0 c1 c2 f0 f1 f2 lt hk21 HG20 HZ20 HB20 HR20
        generalize W20.setCell ⟨g, 2, none⟩ (.int .i64 8) = W21 at *
        have q0 : W21.cell? ⟨gr, 0, none⟩ = some (.pointer (some ⟨g, 0, none⟩)) := row_cell HG21.out 0 rfl
        obtain ⟨c0, c1, c2, f0, f1, f2, lt⟩ := HR21.out.k.box
        simp only at c1 c2
        go_upto_region 20 with fail
        clear q0 c0 c1 c2 f0 f1 f2 lt
        have hSw : ErS2 g gr (8) W21.drew := ⟨row_cell HG21.out 0 rfl, HR21.out.k.box.c2⟩
        have l0 := fun z (h : ErS2 g gr (8) z) => h.1
        have l2 := fun z (h : ErS2 g gr (8) z) => h.2
        have HZd := Lib.hid (row_below HZ21.out (Below.refl _ _).drew)
        have HBd := Lib.hid HB21.out.drew
        clear HG21 HZ21 HB21 HR21 
        refine wp_region_lexS (ErS2 g gr (8)) (.of [(0, true), (1, true), (2, true), (3, true), (4, true), (5, false)] (.stir [(6, true)])) (by kernel_rfl) (by kernel_rfl) (fun c a d v w h => by cases d <;> exact h) ?_
        generalize W21.drew = Wd at *
        iterate 5
          refine lexS_step (fun K hK => ?_)
          simp only [lexOp, List.getElem?_toArray, List.getElem?_cons_succ, List.getElem?_cons_zero]
          rw [if_pos (by rfl)]
          apply Exists.intro
          refine ⟨fun w' hS' => ?_, hSw, ?_⟩
          · first | (go_simp <;> with_reducible rfl) | (go_simp; go_bits; with_reducible rfl)
          go_simp
          try go_bits
          refine hK _ _ ?_
          clear hK K
        have z0 := row_cell HZd.out 0 rfl
        have z1 := row_cell HZd.out 1 rfl
        have z2 := row_cell HZd.out 2 rfl
        have z3 := row_cell HZd.out 3 rfl
        have z4 := row_cell HZd.out 4 rfl
        have f0 := row_melt HZd.out 0
        have f1 := row_melt HZd.out 1
        have f2 := row_melt HZd.out 2
        have f3 := row_melt HZd.out 3
        have f4 := row_melt HZd.out 4
        have ltz := row_lt HZd.out
        refine lexS_step (fun K hK => ?_)
        simp only [lexOp, List.getElem?_toArray, List.getElem?_cons_succ, List.getElem?_cons_zero]
        rw [if_pos (by rfl)]
        go_step
        change ErS2 g gr (8) (keep5 w.heap.size Wd _ _ _ _ _) ∧ K _ (keep5 w.heap.size Wd _ _ _ _ _)
        have HBf := Lib.hid (keep5_below HBd.out (Nat.le_refl _) (.slice none 0 0) (.int .i64 0) (.int .i64 0) (.slice none 0 0) (.slice none 0 0))
        have HZf := Lib.hid (keep5_heap HZd.out (.slice none 0 0) (.int .i64 0) (.int .i64 0) (.slice none 0 0) (.slice none 0 0))
        have hSf : ErS2 g gr (8) (keep5 w.heap.size Wd (.slice none 0 0) (.int .i64 0) (.int .i64 0) (.slice none 0 0) (.slice none 0 0)) := ⟨keep5_cell (Ne.symm hzr) hSw.1, keep5_cell (Ne.symm hzg) hSw.2⟩
        refine ⟨hSf, hK _ _ ?_⟩
        clear hK K z0 z1 z2 z3 z4 f0 f1 f2 f3 f4 ltz HZd HBd hSw
        generalize keep5 w.heap.size Wd (.slice none 0 0) (.int .i64 0) (.int .i64 0) (.slice none 0 0) (.slice none 0 0) = Wf at *
        refine lexS_stir (EqW Wf) (fun y hy => by rw [show y = Wf from hy]; exact hSf) rfl ?_
        iterate 1
          refine stir_step (fun K hK => ?_)
          simp only [stirOp, List.getElem?_toArray, List.getElem?_cons_succ, List.getElem?_cons_zero]
          rw [if_pos (by rfl)]
          apply Exists.intro
          refine ⟨fun w' hS' => ?_, ?_⟩
          · first | (go_simp <;> with_reducible rfl) | (go_simp; go_bits; with_reducible rfl)
          go_simp
          try go_bits
          refine hK _ ?_
          clear hK K
        refine stir_nil (fun y hy => ?_)
        obtain rfl : y = Wf := hy
        go_wp2_with fail
        refine bodyPost_ret (results_cell_row_tmp rfl _ _ w.heap.size _ _ _ _ rfl HZf.out Try.underlying26 rfl infoFile) rfl ?_
        exact KParseRet.err HQ.out HBf.out
      | true =>
        have HQ := Lib.hid (show R = ((⟨a6, m6, c6, L, th, su, fa, fm, fc, FL, ma, mm, mc, lw⟩ : KF).p, 0) by rw [HPF.out]; exact if_neg (by decide))
        have HCK := Lib.hid (HCK.out.mono (R' := fun e w' => e = .returned (.int .i64 0) ∧ Below W19.heap.size W19 w') (fun _ _ h => h))
        clear HPF
        go_wp2_with fail
        refine HCK.out.mono ?_
        rintro e' W20 ⟨rfl, hb⟩
        have HR20 := Lib.hid (HR19.out.below hb)
        have HG20 := Lib.hid (row_below HG19.out hb)
        have HF20 := Lib.hid (row_below HF19.out hb)
        have HZ20 := Lib.hid (row_below HZ19.out hb)
        have HB20 := Lib.hid (HB19.out.trans (hb.mono HB19.out.size))
        have HP20 := Lib.hid (Ss.below HP19.out hb)
        have HO20 := Lib.hid (own_below HO19.out hb)
        have HM20 := Lib.hid (own_below HM19.out hb)
        have HW20 := Lib.hid (fun x hx => (HW19.out x hx).keep1 (Keep1.of (g := g) hb) (Nat.lt_succ_of_lt hgf))
        clear q0 c0 c1 c2 f0 f1 f2 lt HG19 HZ19 HB19 HR19 HF19 HL19 HP19 HO19 HM19 HW19 HCK hb k0 k1 k2 k3 k4
        have q0 : W20.cell? ⟨gr, 0, none⟩ = some (.pointer (some ⟨g, 0, none⟩)) := row_cell HG20.out 0 rfl
        obtain ⟨c0, c1, c2, f0', f1', f2', lt⟩ := HR20.out.k.box
        simp only at c1 c2
        have k0 := row_cell HF20.out 0 rfl
        have k1 := row_cell HF20.out 1 rfl
        have k2 := row_cell HF20.out 2 rfl
        have k3 := row_cell HF20.out 3 rfl
        have k4 := row_cell HF20.out 4 rfl
        go_upto_region 21 with fail
        have z0 := row_cell HZ20.out 0 rfl
        have z1 := row_cell HZ20.out 1 rfl
        have z2 := row_cell HZ20.out 2 rfl
        have z3 := row_cell HZ20.out 3 rfl
        have z4 := row_cell HZ20.out 4 rfl
        have f0 := row_melt HZ20.out 0
        have f1 := row_melt HZ20.out 1
        have f2 := row_melt HZ20.out 2
        have f3 := row_melt HZ20.out 3
        have f4 := row_melt HZ20.out 4
        have ltz := row_lt HZ20.out
        go_wp2_with fail
        change bodyPost _ _ _ _ _ (keep5 w.heap.size W20 _ _ _ _ _)
        refine bodyPost_ret (results_cell_row_tmp rfl _ _ w.heap.size _ _ _ _ rfl (keep5_heap HZ20.out _ _ _ _ _) Try.underlying26 rfl infoFile) rfl ?_
        have hk5 := keep5_keep1 (a := .slice a6 m6 c6) (b := .int .i64 th) (c := .int .i64 su) (d := .slice fa fm fc) (e := .slice ma mm mc) (Keep1.refl w.heap.size W20)
        refine ⟨⟨a6, m6, c6, L, th, su, fa, fm, fc, FL, ma, mm, mc, lw⟩, by rw [HQ.out], by rw [HQ.out]; rfl, ⟨Ss.keep1 HP20.out hk5 HPZ.out, ?_, ?_, fun m hm => ((HW20.out m hm).keep1 hk5 (Nat.lt_succ_of_le hfW)).rd⟩, HFIT.out, keep5_below HB20.out (Nat.le_refl _) _ _ _ _ _⟩
        · obtain ⟨a', c', e', hs', _⟩ := Ss.ofOwn KD.cells_length (by decide) (own_keep1 HO20.out hk5 (Nat.lt_succ_of_le hfW))
          cases e'
          exact hs'
        · obtain ⟨a', c', e', hs', _⟩ := Ss.ofOwn KM.cells_length (by decide) (own_keep1 HM20.out hk5 (Nat.lt_succ_of_le hfW))
          cases e'
          exact hs'
end Go.Proofs.Ytnfhiakdbakpgaa
