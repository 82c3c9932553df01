/- klass: a method is read (printed by gen/klrd11.py). No condition. -/
import Derived.Test.YtnfhiakdbakpgaaQ17KlassCuts
namespace Go.Proofs.Ytnfhiakdbakpgaa
open Go.ChangeShapes Go.WideShapes Go.ChangeAt Go.RowKit
set_option maxRecDepth 100000 in
set_option maxHeartbeats 8000000 in
theorem code3_any (w : World) (g gr gl gm : Nat) (a : Option Addr) (n cap : Nat) (bs : List UInt8) (s0 : St) (h : RdS w g a n cap bs s0) (h0n : 0 < n) (pa : Option Addr) (pn pc : Nat) (L : List KV) (hL : Ks w pa pn L) (hLg : Off1 pa pn g) (hLm : Off1 pa pn gm) (hpn : pn ≤ 65536) (fl nm ds : Int)
    (hm : w.heap[gm]? = some (.cells #[.int .i64 fl, .int .i64 nm, .int .i64 ds, .int .i64 0, .int .i64 0, .slice none 0 0, .slice none 0 0, .slice none 0 0] 48)) (hom : Off1 a n gm) (hmg : gm ≠ g)
    (hgr : w.cell? ⟨gr, 0, none⟩ = some (.pointer (some ⟨g, 0, none⟩))) (hgl : w.cell? ⟨gl, 0, none⟩ = some (.slice pa pn pc)) :
    Calls Try.prog 39 #[.pointer (some ⟨gr, 0, none⟩), .pointer (some ⟨gl, 0, none⟩), .pointer (some ⟨gm, 0, none⟩)] w (CodeRet g gm a n cap bs (kcodeS bs L fl nm ds s0) w) := by
  have HC := Lib.hid (rcode_any w g gm a n cap bs s0 h h0n pa pn pc L hL hLg hLm hpn fl nm ds hm hom hmg)
  generalize kcodeS bs L fl nm ds s0 = R at *
  clear h hL hLg hLm hm hom
  go_enter Try.func39, Try.ntmps39
  go_wp2_with fail
  refine HC.out.mono ?_
  rintro e' W1 ⟨rfl, hr⟩
  go_wp2_with fail
  go_end0
  exact ⟨rfl, hr⟩
theorem RdS.keepO {w w' : World} {g c : Nat} {a : Option Addr} {n cap : Nat} {bs : List UInt8} {s : St} (h : RdS w g a n cap bs s) (k : Keep1 c w w') (hc : g ≠ c ∧ Off1 a n c) : RdS w' g a n cap bs s :=
  ⟨k.blk h.k hc.1, h.sl.keep1 k hc.2, h.off, h.le, h.sm, h.ok⟩
theorem keep1_new {g c : Nat} {w w1 w2 : World} (a : Keep1 g w w1) (k : Keep1 c w1 w2) (hc : w.heap.size ≤ c) : Keep1 g w w2 :=
  ⟨k.os.trans a.os, k.tape.trans a.tape, k.output.trans a.output, Nat.le_trans a.size k.size, fun i hi hg => by rw [k.block i (Nat.lt_of_lt_of_le hi a.size) (by omega), a.block i hi hg]⟩
theorem set8_heap {w : World} {g : Nat} {a' b' c' d' e' f' h' i' : Value} {t : TypeId} {fr : Nat × Nat} (hg : w.heap[g]? = some (.cells #[a', b', c', d', e', f', h', i'] t fr)) (a b c d e f h i : Value) :
    ((((((((w.setCell ⟨g, 0, none⟩ a).setCell ⟨g, 1, none⟩ b).setCell ⟨g, 2, none⟩ c).setCell ⟨g, 3, none⟩ d).setCell ⟨g, 4, none⟩ e).setCell ⟨g, 5, none⟩ f).setCell ⟨g, 6, none⟩ h).setCell ⟨g, 7, none⟩ i).heap[g]? = some (.cells #[a, b, c, d, e, f, h, i] t fr) := by
  have h0 := heap_set3 hg 0 a
  rw [show (#[a', b', c', d', e', f', h', i'] : Array Value).setIfInBounds 0 a = #[a, b', c', d', e', f', h', i'] from rfl] at h0
  have h1 := heap_set3 h0 1 b
  rw [show (#[a, b', c', d', e', f', h', i'] : Array Value).setIfInBounds 1 b = #[a, b, c', d', e', f', h', i'] from rfl] at h1
  have h2 := heap_set3 h1 2 c
  rw [show (#[a, b, c', d', e', f', h', i'] : Array Value).setIfInBounds 2 c = #[a, b, c, d', e', f', h', i'] from rfl] at h2
  have h3 := heap_set3 h2 3 d
  rw [show (#[a, b, c, d', e', f', h', i'] : Array Value).setIfInBounds 3 d = #[a, b, c, d, e', f', h', i'] from rfl] at h3
  have h4 := heap_set3 h3 4 e
  rw [show (#[a, b, c, d, e', f', h', i'] : Array Value).setIfInBounds 4 e = #[a, b, c, d, e, f', h', i'] from rfl] at h4
  have h5 := heap_set3 h4 5 f
  rw [show (#[a, b, c, d, e, f', h', i'] : Array Value).setIfInBounds 5 f = #[a, b, c, d, e, f, h', i'] from rfl] at h5
  have h6 := heap_set3 h5 6 h
  rw [show (#[a, b, c, d, e, f, h', i'] : Array Value).setIfInBounds 6 h = #[a, b, c, d, e, f, h, i'] from rfl] at h6
  have h7 := heap_set3 h6 7 i
  rw [show (#[a, b, c, d, e, f, h, i'] : Array Value).setIfInBounds 7 i = #[a, b, c, d, e, f, h, i] from rfl] at h7
  exact h7
theorem enter_code3 (args : Array Value) (W : World) : (callFunc 39 args).run Try.prog W = .ok (.enter 39 args) W := rfl
theorem KM.Own.mono {m : KM} {w : World} {B B' : Nat} (h : m.Own w B) (hB : B' ≤ B) : m.Own w B' := ⟨own_mono h.code hB, own_mono h.traps hB, own_mono h.maps hB, fun p hp => (h.each p hp).mono hB⟩
theorem KM.Own.keep1 {m : KM} {w w' : World} {B g : Nat} (h : m.Own w B) (k : Keep1 g w w') (hg : g < B) : m.Own w' B := ⟨own_keep1 h.code k hg, own_keep1 h.traps k hg, own_keep1 h.maps k hg, fun p hp => (h.each p hp).keep1 k hg⟩
theorem KM.Own.keep2 {m : KM} {w w' : World} {B g c : Nat} (h : m.Own w B) (k : Keep2 g c w w') (hg : g < B) (hc : c < B) : m.Own w' B := ⟨own_keep2 h.code k hg hc, own_keep2 h.traps k hg hc, own_keep2 h.maps k hg hc, fun p hp => (h.each p hp).keep2 k hg hc⟩
theorem KM.Own.keptT {m : KM} {w w' : World} {B : Nat} {e : TypeId} (h : m.Own w B) (k : KeptT e w w') (h1 : 5 ≠ e) (h2 : 98 ≠ e) (h3 : 51 ≠ e) (h4 : 119 ≠ e) : m.Own w' B := ⟨own_keptT h.code k h1, own_keptT h.traps k h2, own_keptT h.maps k h3, fun p hp => (h.each p hp).keptT k h4⟩
theorem keep1_new2 {g c : Nat} {w w1 w2 : World} (a : Keep1 g w w1) (k : Keep2 g c w1 w2) (hc : w.heap.size ≤ c) : Keep1 g w w2 :=
  ⟨k.os.trans a.os, k.tape.trans a.tape, k.output.trans a.output, Nat.le_trans a.size k.size, fun i hi hg => by rw [k.block i (Nat.lt_of_lt_of_le hi a.size) hg (by omega), a.block i hi hg]⟩
/-- The reader's box and the pool's. -/
def GlS (gr gl g : Nat) (pv : Value) (w : World) : Prop := w.cell? ⟨gr, 0, none⟩ = some (.pointer (some ⟨g, 0, none⟩)) ∧ w.cell? ⟨gl, 0, none⟩ = some pv
theorem GlS.below {gr gl g : Nat} {pv : Value} {w w' : World} (h : GlS gr gl g pv w) (a : Below w.heap.size w w') : GlS gr gl g pv w' := ⟨cellS_below a h.1, cellS_below a h.2⟩
/-- What the code's reading leaves in the method's block. -/
def CdJ (g gm : Nat) (w0 : World) (x : KM) (W : World) : Prop := (∃ m : KM, m.p = x ∧ MBk W gm m.fl m.nm m.ds m.st m.lo m.ca m.cn m.cc m.ta m.tn m.tc m.ma m.mn m.mc ∧ m.Own W w0.heap.size) ∧ Keep2 g gm w0 W
theorem CdJ.setg {g gm : Nat} {w0 : World} {x : KM} {W : World} (h : CdJ g gm w0 x W) (hg : g < w0.heap.size) (hmg : gm ≠ g) (o : Nat) (v : Value) : CdJ g gm w0 x (W.setCell ⟨g, o, none⟩ v) := by
  obtain ⟨⟨m, h1, h2, h3⟩, h4⟩ := h
  exact ⟨⟨m, h1, heap_other h2 hmg o v, h3.keep1 ((Keep1.refl g W).set o v) hg⟩, h4.setC (.inr (.inl rfl)) o v⟩
theorem stMethK : StE 24 48 (.agg #[.int .i64 0, .int .i64 0, .int .i64 0, .int .i64 0, .int .i64 0, .slice none 0 0, .slice none 0 0, .slice none 0 0]) 8 112 := ⟨by kernel_rfl, by kernel_rfl, rfl⟩
/-- What the methods' callback has gathered. -/
def MdJ (g gr gl gf : Nat) (pv c0 c1 c2 c3 : Value) (w0 : World) (l : List KM) (W : World) : Prop :=
  W.heap[gr]? = some (.cells #[.pointer (some ⟨g, 0, none⟩)] 75) ∧ W.heap[gl]? = some (.cells #[pv] 22) ∧
  (∃ (v : Value) (m : Nat) (lw : List KM), W.heap[gf]? = some (.cells #[c0, c1, c2, c3, v] 26) ∧ W.ownsRow w0.heap.size 48 8 v m (lw.flatMap KM.cells) ∧ m = l.length ∧ lw.map KM.p = l ∧ ∀ x ∈ lw, x.Own W w0.heap.size) ∧ Keep2 g gf w0 W
set_option maxRecDepth 100000 in
set_option maxHeartbeats 16000000 in
theorem meth1_any (w0 W : World) (g gr gl gf : Nat) (z0 z1 z2 z3 : Value) (a : Option Addr) (n cap : Nat) (bs : List UInt8) (t : St) (l : List KM) (hs0 : Sl encB w0 a n bs) (h0n : 0 < n) (hom : Off1 a n gf) (pa : Option Addr) (pn pc : Nat) (L : List KV) (hL : Ks w0 pa pn L) (hLg : Off1 pa pn g) (hLf : Off1 pa pn gf) (hpn : pn ≤ 65536)
    (hg0 : g < w0.heap.size) (hf0 : gf < w0.heap.size) (hfg : gf ≠ g) (hrg : gr ≠ g) (hrf : gr ≠ gf) (hlg : gl ≠ g) (hlf : gl ≠ gf)
    (h : RdS W g a n cap bs t) (hJ : MdJ g gr gl gf (.slice pa pn pc) z0 z1 z2 z3 w0 l W) (hl : l.length ≤ 65535) :
    Calls Try.prog 37 #[.pointer (some ⟨gr, 0, none⟩), .pointer (some ⟨gl, 0, none⟩), .pointer (some ⟨gf, 0, none⟩)] W fun e W' => e = .returned (.tuple #[]) ∧ RdS W' g a n cap bs (methS bs L t).2 ∧ MdJ g gr gl gf (.slice pa pn pc) z0 z1 z2 z3 w0 (l ++ [(methS bs L t).1]) W' := by
  obtain ⟨hj1, hj2, ⟨v0, m0, lw, hj3, hj4, hmm, hlw, hown⟩, hk0⟩ := hJ
  have HS0 := Lib.hid hs0
  have HOM := Lib.hid hom
  have HLK := Lib.hid (Ss.keep2 hL hk0 hLg hLf)
  have HLG := Lib.hid hLg
  have hml : m0 ≤ 65535 := by omega
  have HMM := Lib.hid hmm
  have HLW := Lib.hid hlw
  obtain ⟨a0, c0, rfl, -, -⟩ := Ss.ofOwn KM.cells_length (by decide) hj4
  have HG := Lib.hid hj1
  have HL := Lib.hid hj2
  have HM := Lib.hid hj3
  have HO := Lib.hid hj4
  have HOW := Lib.hid hown
  have HKW := Lib.hid hk0
  have hWs := hk0.size
  have hgrW : gr < W.heap.size := row_lt hj1
  have HR0 := Lib.hid (h.below (Below.refl W.heap.size W).drew)
  have HK0 := Lib.hid ((Keep1.refl g W).drew)
  obtain ⟨x0, s1, hx0⟩ : ∃ x s, getS bs 2 t = (x, s) := ⟨_, _, rfl⟩
  obtain ⟨x1, s2, hx1⟩ : ∃ x s, getS bs 2 s1 = (x, s) := ⟨_, _, rfl⟩
  obtain ⟨x2, s3, hx2⟩ : ∃ x s, getS bs 2 s2 = (x, s) := ⟨_, _, rfl⟩
  have HSL := Lib.hid (show methS bs L t = sizedS bs (kcodeS bs L x0 x1 x2) (mustS bs 2 [1, (findT L [67, 111, 100, 101] : Int)] s3).2 by simp only [methS, bindR, pureR, hx0, hx1, hx2]; rfl)
  have HX0 := Lib.hid hx0
  have HX1 := Lib.hid hx1
  have HX2 := Lib.hid hx2
  have hSw : OneC gr 0 (.pointer (some ⟨g, 0, none⟩)) W.drew := cellS_below (Below.refl W.heap.size W).drew (row_cell HG.out 0 rfl)
  have l0 := fun z (h : OneC gr 0 (.pointer (some ⟨g, 0, none⟩)) z) => (show z.cell? ⟨gr, 0, none⟩ = some (.pointer (some ⟨g, 0, none⟩)) from h)
  obtain ⟨s0, hs0'⟩ : ∃ s0, s0 = t := ⟨_, rfl⟩
  rw [← hs0'] at HR0 HX0
  clear hs0 hom hL hLg h hl hj1 hj2 hj3 hj4 hmm hlw hown hk0 hx0 hx1 hx2 hs0'
  go_enter Try.func37, Try.ntmps37
  go_upto_region 0 with fail
  go_cut [3] (fun p wx => ∃ gm, p = .pointer (some ⟨gm, 0, none⟩) ∧ W.heap.size ≤ gm ∧ gm ≠ g ∧ Hid (wx.heap[gm]? = some (.cells #[.int .i64 x0, .int .i64 x1, .int .i64 x2, .int .i64 0, .int .i64 0, .slice none 0 0, .slice none 0 0, .slice none 0 0] 48)) ∧ Hid (Keep1 g W wx) ∧ Hid (RdS wx g a n cap bs s3))
  case first =>
    refine wp_region_lexS (OneC gr 0 (.pointer (some ⟨g, 0, none⟩))) (.of [(0, true), (2, true), (4, true)] (.fork 1 (.fork 3 (.fork 5 (.of [(6, true), (7, false), (8, false)] (.stir [])) 7 (.of [(5, false), (6, true), (8, false)] (.stir []))) 7 (.of [(3, false), (5, false), (6, true), (8, false)] (.stir []))) 7 (.of [(1, false), (3, false), (5, false), (6, true), (8, false)] (.stir [])))) (by kernel_rfl) (by kernel_rfl) (fun c a d v w h => by cases d <;> exact h) ?_
    generalize W.drew = W0 at *
    iterate 3
      refine lexS_step (fun K hK => ?_)
      simp only [lexOp, List.getElem?_toArray, List.getElem?_cons_succ, List.getElem?_cons_zero]
      rw [if_pos (by rfl)]
      apply Exists.intro
      refine ⟨fun w' hS' => ?_, hSw, ?_⟩
      · first | (go_simp <;> with_reducible rfl) | (go_simp; go_bits; with_reducible rfl)
      go_simp
      try go_bits
      refine hK _ _ ?_
      clear hK K
    refine lexS_fork ?_ ?_
    · intro K hK
      simp only [lexOp, List.getElem?_toArray, List.getElem?_cons_succ, List.getElem?_cons_zero]
      rw [if_pos (by rfl)]
      go_step
      have HU := ku2_any W0 g a n cap bs s0 HR0.out
      rw [HX0.out] at HU
      dsimp only at HU
      refine HU.mono ?_
      rintro e' W1 ⟨rfl, hr, hk⟩
      clear HU
      have HR1 := Lib.hid hr
      have HK1 := Lib.hid (HK0.out.trans hk)
      replace hSw : OneC gr 0 (.pointer (some ⟨g, 0, none⟩)) W1 := cell_keep1 hk hrg hSw
      clear hr hk HR0 HK0
      go_simp
      first | refine hK _ _ ?_ | refine ⟨hSw, hK _ _ ?_⟩
      clear hK K
      refine lexS_fork ?_ ?_
      · intro K hK
        simp only [lexOp, List.getElem?_toArray, List.getElem?_cons_succ, List.getElem?_cons_zero]
        rw [if_pos (by rfl)]
        go_step
        have HU := ku2_any W1 g a n cap bs s1 HR1.out
        rw [HX1.out] at HU
        dsimp only at HU
        refine HU.mono ?_
        rintro e' W2 ⟨rfl, hr, hk⟩
        clear HU
        have HR2 := Lib.hid hr
        have HK2 := Lib.hid (HK1.out.trans hk)
        replace hSw : OneC gr 0 (.pointer (some ⟨g, 0, none⟩)) W2 := cell_keep1 hk hrg hSw
        clear hr hk HR1 HK1
        go_simp
        first | refine hK _ _ ?_ | refine ⟨hSw, hK _ _ ?_⟩
        clear hK K
        refine lexS_fork ?_ ?_
        · intro K hK
          simp only [lexOp, List.getElem?_toArray, List.getElem?_cons_succ, List.getElem?_cons_zero]
          rw [if_pos (by rfl)]
          go_step
          have HU := ku2_any W2 g a n cap bs s2 HR2.out
          rw [HX2.out] at HU
          dsimp only at HU
          refine HU.mono ?_
          rintro e' W3 ⟨rfl, hr, hk⟩
          clear HU
          have HR3 := Lib.hid hr
          have HK3 := Lib.hid (HK2.out.trans hk)
          replace hSw : OneC gr 0 (.pointer (some ⟨g, 0, none⟩)) W3 := cell_keep1 hk hrg hSw
          clear hr hk HR2 HK2
          go_simp
          first | refine hK _ _ ?_ | refine ⟨hSw, hK _ _ ?_⟩
          clear hK K
          iterate 1
            refine lexS_step (fun K hK => ?_)
            simp only [lexOp, List.getElem?_toArray, List.getElem?_cons_succ, List.getElem?_cons_zero]
            rw [if_pos (by rfl)]
            apply Exists.intro
            refine ⟨fun w' hS' => ?_, hSw, ?_⟩
            · first | (go_simp <;> with_reducible rfl) | (go_simp; go_bits; with_reducible rfl)
            go_simp
            try go_bits
            refine hK _ _ ?_
            clear hK K
          refine lexS_step (fun K hK => ?_)
          simp only [lexOp, List.getElem?_toArray, List.getElem?_cons_succ, List.getElem?_cons_zero]
          rw [if_pos (by rfl)]
          go_step
          have hal : Below W3.heap.size W3 (W3.alloc (.cells #[.int .i64 0, .int .i64 0, .int .i64 0, .int .i64 0, .int .i64 0, .slice none 0 0, .slice none 0 0, .slice none 0 0] 48)) := below_1 _ _
          have HM4 := Lib.hid (heap_alloc_last W3 (.cells #[.int .i64 0, .int .i64 0, .int .i64 0, .int .i64 0, .int .i64 0, .slice none 0 0, .slice none 0 0, .slice none 0 0] 48))
          have HR4 := Lib.hid (HR3.out.below hal)
          have HK4 := Lib.hid (HK3.out.trans (Keep1.of hal))
          have hgm : W3.heap.size ≠ g := by have := HR3.out.lt; omega
          have hgW : W.heap.size ≤ W3.heap.size := HK3.out.size
          have hSw' : OneC gr 0 (.pointer (some ⟨g, 0, none⟩)) (W3.alloc (.cells #[.int .i64 0, .int .i64 0, .int .i64 0, .int .i64 0, .int .i64 0, .slice none 0 0, .slice none 0 0, .slice none 0 0] 48)) := cellS_below hal hSw
          refine ⟨hSw', hK _ _ ?_⟩
          clear hK K hal HR3 HK3
          replace hSw := hSw'
          clear hSw'
          generalize W3.alloc (.cells #[.int .i64 0, .int .i64 0, .int .i64 0, .int .i64 0, .int .i64 0, .slice none 0 0, .slice none 0 0, .slice none 0 0] 48) = W4 at *
          generalize W3.heap.size = gm at *
          have m0 := row_melt HM4.out 0
          have m1 := row_melt HM4.out 1
          have m2 := row_melt HM4.out 2
          have m3 := row_melt HM4.out 3
          have m4 := row_melt HM4.out 4
          have m5 := row_melt HM4.out 5
          have m6 := row_melt HM4.out 6
          have m7 := row_melt HM4.out 7
          have mlt := row_lt HM4.out
          have k0 : W4.cell? ⟨gm, 0, none⟩ = some (.int .i64 0) := row_cell HM4.out 0 rfl
          have k1 : W4.cell? ⟨gm, 1, none⟩ = some (.int .i64 0) := row_cell HM4.out 1 rfl
          have k2 : W4.cell? ⟨gm, 2, none⟩ = some (.int .i64 0) := row_cell HM4.out 2 rfl
          have k3 : W4.cell? ⟨gm, 3, none⟩ = some (.int .i64 0) := row_cell HM4.out 3 rfl
          have k4 : W4.cell? ⟨gm, 4, none⟩ = some (.int .i64 0) := row_cell HM4.out 4 rfl
          have k5 : W4.cell? ⟨gm, 5, none⟩ = some (.slice none 0 0) := row_cell HM4.out 5 rfl
          have k6 : W4.cell? ⟨gm, 6, none⟩ = some (.slice none 0 0) := row_cell HM4.out 6 rfl
          have k7 : W4.cell? ⟨gm, 7, none⟩ = some (.slice none 0 0) := row_cell HM4.out 7 rfl
          refine lexS_step (fun K hK => ?_)
          simp only [lexOp, List.getElem?_toArray, List.getElem?_cons_succ, List.getElem?_cons_zero]
          rw [if_pos (by rfl)]
          go_step
          have hkS := (((((((((Keep1.refl gm W4).set 0 (.int .i64 x0)).set 1 (.int .i64 x1)).set 2 (.int .i64 x2)).set 3 (.int .i64 0)).set 4 (.int .i64 0)).set 5 (.slice none 0 0)).set 6 (.slice none 0 0)).set 7 (.slice none 0 0))
          have hrm : gr ≠ gm := by omega
          have HMF := Lib.hid (set8_heap HM4.out (.int .i64 x0) (.int .i64 x1) (.int .i64 x2) (.int .i64 0) (.int .i64 0) (.slice none 0 0) (.slice none 0 0) (.slice none 0 0))
          have HRF := Lib.hid (HR4.out.keepO hkS ⟨Ne.symm hgm, Off1.old HS0.out (Nat.le_trans hWs hgW)⟩)
          have HKF := Lib.hid (keep1_new HK4.out hkS hgW)
          replace hSw := cell_keep1 hkS hrm hSw
          refine ⟨hSw, hK _ _ ?_⟩
          clear hK K hkS m0 m1 m2 m3 m4 m5 m6 m7 mlt k0 k1 k2 k3 k4 k5 k6 k7 HM4 HR4 HK4
          refine lexS_stir (EqW _) (fun y hy => by rw [show y = _ from hy]; exact hSw) rfl ?_
          refine stir_nil (fun y hy => ?_)
          unfold EqW at hy
          subst hy
          clear l0 hSw
          go_wp2_with fail
          go_meet
          exact ⟨gm, rfl, hgW, hgm, HMF, HKF, HRF⟩
        · intro K hK
          simp only [lexOp, List.getElem?_toArray, List.getElem?_cons_succ, List.getElem?_cons_zero]
          rw [if_pos (by rfl)]
          go_step
          have hal : Below W2.heap.size W2 (W2.alloc (.cells #[.int .i64 0, .int .i64 0, .int .i64 0, .int .i64 0, .int .i64 0, .slice none 0 0, .slice none 0 0, .slice none 0 0] 48)) := below_1 _ _
          have HM3 := Lib.hid (heap_alloc_last W2 (.cells #[.int .i64 0, .int .i64 0, .int .i64 0, .int .i64 0, .int .i64 0, .slice none 0 0, .slice none 0 0, .slice none 0 0] 48))
          have HR3 := Lib.hid (HR2.out.below hal)
          have HK3 := Lib.hid (HK2.out.trans (Keep1.of hal))
          have hgm : W2.heap.size ≠ g := by have := HR2.out.lt; omega
          have hgW : W.heap.size ≤ W2.heap.size := HK2.out.size
          have hSw' : OneC gr 0 (.pointer (some ⟨g, 0, none⟩)) (W2.alloc (.cells #[.int .i64 0, .int .i64 0, .int .i64 0, .int .i64 0, .int .i64 0, .slice none 0 0, .slice none 0 0, .slice none 0 0] 48)) := cellS_below hal hSw
          refine ⟨hSw', hK _ _ ?_⟩
          clear hK K hal HR2 HK2
          replace hSw := hSw'
          clear hSw'
          generalize W2.alloc (.cells #[.int .i64 0, .int .i64 0, .int .i64 0, .int .i64 0, .int .i64 0, .slice none 0 0, .slice none 0 0, .slice none 0 0] 48) = W3 at *
          generalize W2.heap.size = gm at *
          refine lexS_step (fun K hK => ?_)
          simp only [lexOp, List.getElem?_toArray, List.getElem?_cons_succ, List.getElem?_cons_zero]
          rw [if_pos (by rfl)]
          go_step
          have HU := ku2_any W3 g a n cap bs s2 HR3.out
          rw [HX2.out] at HU
          dsimp only at HU
          refine HU.mono ?_
          rintro e' W4 ⟨rfl, hr, hk⟩
          clear HU
          have HR4 := Lib.hid hr
          have HK4 := Lib.hid (HK3.out.trans hk)
          have HM4 := Lib.hid (hk.blk HM3.out hgm)
          replace hSw : OneC gr 0 (.pointer (some ⟨g, 0, none⟩)) W4 := cell_keep1 hk hrg hSw
          clear hr hk HR3 HK3 HM3
          go_simp
          first | refine hK _ _ ?_ | refine ⟨hSw, hK _ _ ?_⟩
          clear hK K
          iterate 1
            refine lexS_step (fun K hK => ?_)
            simp only [lexOp, List.getElem?_toArray, List.getElem?_cons_succ, List.getElem?_cons_zero]
            rw [if_pos (by rfl)]
            apply Exists.intro
            refine ⟨fun w' hS' => ?_, hSw, ?_⟩
            · first | (go_simp <;> with_reducible rfl) | (go_simp; go_bits; with_reducible rfl)
            go_simp
            try go_bits
            refine hK _ _ ?_
            clear hK K
          have m0 := row_melt HM4.out 0
          have m1 := row_melt HM4.out 1
          have m2 := row_melt HM4.out 2
          have m3 := row_melt HM4.out 3
          have m4 := row_melt HM4.out 4
          have m5 := row_melt HM4.out 5
          have m6 := row_melt HM4.out 6
          have m7 := row_melt HM4.out 7
          have mlt := row_lt HM4.out
          have k0 : W4.cell? ⟨gm, 0, none⟩ = some (.int .i64 0) := row_cell HM4.out 0 rfl
          have k1 : W4.cell? ⟨gm, 1, none⟩ = some (.int .i64 0) := row_cell HM4.out 1 rfl
          have k2 : W4.cell? ⟨gm, 2, none⟩ = some (.int .i64 0) := row_cell HM4.out 2 rfl
          have k3 : W4.cell? ⟨gm, 3, none⟩ = some (.int .i64 0) := row_cell HM4.out 3 rfl
          have k4 : W4.cell? ⟨gm, 4, none⟩ = some (.int .i64 0) := row_cell HM4.out 4 rfl
          have k5 : W4.cell? ⟨gm, 5, none⟩ = some (.slice none 0 0) := row_cell HM4.out 5 rfl
          have k6 : W4.cell? ⟨gm, 6, none⟩ = some (.slice none 0 0) := row_cell HM4.out 6 rfl
          have k7 : W4.cell? ⟨gm, 7, none⟩ = some (.slice none 0 0) := row_cell HM4.out 7 rfl
          refine lexS_step (fun K hK => ?_)
          simp only [lexOp, List.getElem?_toArray, List.getElem?_cons_succ, List.getElem?_cons_zero]
          rw [if_pos (by rfl)]
          go_step
          have hkS := (((((((((Keep1.refl gm W4).set 0 (.int .i64 x0)).set 1 (.int .i64 x1)).set 2 (.int .i64 x2)).set 3 (.int .i64 0)).set 4 (.int .i64 0)).set 5 (.slice none 0 0)).set 6 (.slice none 0 0)).set 7 (.slice none 0 0))
          have hrm : gr ≠ gm := by omega
          have HMF := Lib.hid (set8_heap HM4.out (.int .i64 x0) (.int .i64 x1) (.int .i64 x2) (.int .i64 0) (.int .i64 0) (.slice none 0 0) (.slice none 0 0) (.slice none 0 0))
          have HRF := Lib.hid (HR4.out.keepO hkS ⟨Ne.symm hgm, Off1.old HS0.out (Nat.le_trans hWs hgW)⟩)
          have HKF := Lib.hid (keep1_new HK4.out hkS hgW)
          replace hSw := cell_keep1 hkS hrm hSw
          refine ⟨hSw, hK _ _ ?_⟩
          clear hK K hkS m0 m1 m2 m3 m4 m5 m6 m7 mlt k0 k1 k2 k3 k4 k5 k6 k7 HM4 HR4 HK4
          refine lexS_stir (EqW _) (fun y hy => by rw [show y = _ from hy]; exact hSw) rfl ?_
          refine stir_nil (fun y hy => ?_)
          unfold EqW at hy
          subst hy
          clear l0 hSw
          go_wp2_with fail
          go_meet
          exact ⟨gm, rfl, hgW, hgm, HMF, HKF, HRF⟩
      · intro K hK
        simp only [lexOp, List.getElem?_toArray, List.getElem?_cons_succ, List.getElem?_cons_zero]
        rw [if_pos (by rfl)]
        go_step
        have hal : Below W1.heap.size W1 (W1.alloc (.cells #[.int .i64 0, .int .i64 0, .int .i64 0, .int .i64 0, .int .i64 0, .slice none 0 0, .slice none 0 0, .slice none 0 0] 48)) := below_1 _ _
        have HM2 := Lib.hid (heap_alloc_last W1 (.cells #[.int .i64 0, .int .i64 0, .int .i64 0, .int .i64 0, .int .i64 0, .slice none 0 0, .slice none 0 0, .slice none 0 0] 48))
        have HR2 := Lib.hid (HR1.out.below hal)
        have HK2 := Lib.hid (HK1.out.trans (Keep1.of hal))
        have hgm : W1.heap.size ≠ g := by have := HR1.out.lt; omega
        have hgW : W.heap.size ≤ W1.heap.size := HK1.out.size
        have hSw' : OneC gr 0 (.pointer (some ⟨g, 0, none⟩)) (W1.alloc (.cells #[.int .i64 0, .int .i64 0, .int .i64 0, .int .i64 0, .int .i64 0, .slice none 0 0, .slice none 0 0, .slice none 0 0] 48)) := cellS_below hal hSw
        refine ⟨hSw', hK _ _ ?_⟩
        clear hK K hal HR1 HK1
        replace hSw := hSw'
        clear hSw'
        generalize W1.alloc (.cells #[.int .i64 0, .int .i64 0, .int .i64 0, .int .i64 0, .int .i64 0, .slice none 0 0, .slice none 0 0, .slice none 0 0] 48) = W2 at *
        generalize W1.heap.size = gm at *
        refine lexS_step (fun K hK => ?_)
        simp only [lexOp, List.getElem?_toArray, List.getElem?_cons_succ, List.getElem?_cons_zero]
        rw [if_pos (by rfl)]
        go_step
        have HU := ku2_any W2 g a n cap bs s1 HR2.out
        rw [HX1.out] at HU
        dsimp only at HU
        refine HU.mono ?_
        rintro e' W3 ⟨rfl, hr, hk⟩
        clear HU
        have HR3 := Lib.hid hr
        have HK3 := Lib.hid (HK2.out.trans hk)
        have HM3 := Lib.hid (hk.blk HM2.out hgm)
        replace hSw : OneC gr 0 (.pointer (some ⟨g, 0, none⟩)) W3 := cell_keep1 hk hrg hSw
        clear hr hk HR2 HK2 HM2
        go_simp
        first | refine hK _ _ ?_ | refine ⟨hSw, hK _ _ ?_⟩
        clear hK K
        refine lexS_step (fun K hK => ?_)
        simp only [lexOp, List.getElem?_toArray, List.getElem?_cons_succ, List.getElem?_cons_zero]
        rw [if_pos (by rfl)]
        go_step
        have HU := ku2_any W3 g a n cap bs s2 HR3.out
        rw [HX2.out] at HU
        dsimp only at HU
        refine HU.mono ?_
        rintro e' W4 ⟨rfl, hr, hk⟩
        clear HU
        have HR4 := Lib.hid hr
        have HK4 := Lib.hid (HK3.out.trans hk)
        have HM4 := Lib.hid (hk.blk HM3.out hgm)
        replace hSw : OneC gr 0 (.pointer (some ⟨g, 0, none⟩)) W4 := cell_keep1 hk hrg hSw
        clear hr hk HR3 HK3 HM3
        go_simp
        first | refine hK _ _ ?_ | refine ⟨hSw, hK _ _ ?_⟩
        clear hK K
        iterate 1
          refine lexS_step (fun K hK => ?_)
          simp only [lexOp, List.getElem?_toArray, List.getElem?_cons_succ, List.getElem?_cons_zero]
          rw [if_pos (by rfl)]
          apply Exists.intro
          refine ⟨fun w' hS' => ?_, hSw, ?_⟩
          · first | (go_simp <;> with_reducible rfl) | (go_simp; go_bits; with_reducible rfl)
          go_simp
          try go_bits
          refine hK _ _ ?_
          clear hK K
        have m0 := row_melt HM4.out 0
        have m1 := row_melt HM4.out 1
        have m2 := row_melt HM4.out 2
        have m3 := row_melt HM4.out 3
        have m4 := row_melt HM4.out 4
        have m5 := row_melt HM4.out 5
        have m6 := row_melt HM4.out 6
        have m7 := row_melt HM4.out 7
        have mlt := row_lt HM4.out
        have k0 : W4.cell? ⟨gm, 0, none⟩ = some (.int .i64 0) := row_cell HM4.out 0 rfl
        have k1 : W4.cell? ⟨gm, 1, none⟩ = some (.int .i64 0) := row_cell HM4.out 1 rfl
        have k2 : W4.cell? ⟨gm, 2, none⟩ = some (.int .i64 0) := row_cell HM4.out 2 rfl
        have k3 : W4.cell? ⟨gm, 3, none⟩ = some (.int .i64 0) := row_cell HM4.out 3 rfl
        have k4 : W4.cell? ⟨gm, 4, none⟩ = some (.int .i64 0) := row_cell HM4.out 4 rfl
        have k5 : W4.cell? ⟨gm, 5, none⟩ = some (.slice none 0 0) := row_cell HM4.out 5 rfl
        have k6 : W4.cell? ⟨gm, 6, none⟩ = some (.slice none 0 0) := row_cell HM4.out 6 rfl
        have k7 : W4.cell? ⟨gm, 7, none⟩ = some (.slice none 0 0) := row_cell HM4.out 7 rfl
        refine lexS_step (fun K hK => ?_)
        simp only [lexOp, List.getElem?_toArray, List.getElem?_cons_succ, List.getElem?_cons_zero]
        rw [if_pos (by rfl)]
        go_step
        have hkS := (((((((((Keep1.refl gm W4).set 0 (.int .i64 x0)).set 1 (.int .i64 x1)).set 2 (.int .i64 x2)).set 3 (.int .i64 0)).set 4 (.int .i64 0)).set 5 (.slice none 0 0)).set 6 (.slice none 0 0)).set 7 (.slice none 0 0))
        have hrm : gr ≠ gm := by omega
        have HMF := Lib.hid (set8_heap HM4.out (.int .i64 x0) (.int .i64 x1) (.int .i64 x2) (.int .i64 0) (.int .i64 0) (.slice none 0 0) (.slice none 0 0) (.slice none 0 0))
        have HRF := Lib.hid (HR4.out.keepO hkS ⟨Ne.symm hgm, Off1.old HS0.out (Nat.le_trans hWs hgW)⟩)
        have HKF := Lib.hid (keep1_new HK4.out hkS hgW)
        replace hSw := cell_keep1 hkS hrm hSw
        refine ⟨hSw, hK _ _ ?_⟩
        clear hK K hkS m0 m1 m2 m3 m4 m5 m6 m7 mlt k0 k1 k2 k3 k4 k5 k6 k7 HM4 HR4 HK4
        refine lexS_stir (EqW _) (fun y hy => by rw [show y = _ from hy]; exact hSw) rfl ?_
        refine stir_nil (fun y hy => ?_)
        unfold EqW at hy
        subst hy
        clear l0 hSw
        go_wp2_with fail
        go_meet
        exact ⟨gm, rfl, hgW, hgm, HMF, HKF, HRF⟩
    · intro K hK
      simp only [lexOp, List.getElem?_toArray, List.getElem?_cons_succ, List.getElem?_cons_zero]
      rw [if_pos (by rfl)]
      go_step
      have hal : Below W0.heap.size W0 (W0.alloc (.cells #[.int .i64 0, .int .i64 0, .int .i64 0, .int .i64 0, .int .i64 0, .slice none 0 0, .slice none 0 0, .slice none 0 0] 48)) := below_1 _ _
      have HM1 := Lib.hid (heap_alloc_last W0 (.cells #[.int .i64 0, .int .i64 0, .int .i64 0, .int .i64 0, .int .i64 0, .slice none 0 0, .slice none 0 0, .slice none 0 0] 48))
      have HR1 := Lib.hid (HR0.out.below hal)
      have HK1 := Lib.hid (HK0.out.trans (Keep1.of hal))
      have hgm : W0.heap.size ≠ g := by have := HR0.out.lt; omega
      have hgW : W.heap.size ≤ W0.heap.size := HK0.out.size
      have hSw' : OneC gr 0 (.pointer (some ⟨g, 0, none⟩)) (W0.alloc (.cells #[.int .i64 0, .int .i64 0, .int .i64 0, .int .i64 0, .int .i64 0, .slice none 0 0, .slice none 0 0, .slice none 0 0] 48)) := cellS_below hal hSw
      refine ⟨hSw', hK _ _ ?_⟩
      clear hK K hal HR0 HK0
      replace hSw := hSw'
      clear hSw'
      generalize W0.alloc (.cells #[.int .i64 0, .int .i64 0, .int .i64 0, .int .i64 0, .int .i64 0, .slice none 0 0, .slice none 0 0, .slice none 0 0] 48) = W1 at *
      generalize W0.heap.size = gm at *
      refine lexS_step (fun K hK => ?_)
      simp only [lexOp, List.getElem?_toArray, List.getElem?_cons_succ, List.getElem?_cons_zero]
      rw [if_pos (by rfl)]
      go_step
      have HU := ku2_any W1 g a n cap bs s0 HR1.out
      rw [HX0.out] at HU
      dsimp only at HU
      refine HU.mono ?_
      rintro e' W2 ⟨rfl, hr, hk⟩
      clear HU
      have HR2 := Lib.hid hr
      have HK2 := Lib.hid (HK1.out.trans hk)
      have HM2 := Lib.hid (hk.blk HM1.out hgm)
      replace hSw : OneC gr 0 (.pointer (some ⟨g, 0, none⟩)) W2 := cell_keep1 hk hrg hSw
      clear hr hk HR1 HK1 HM1
      go_simp
      first | refine hK _ _ ?_ | refine ⟨hSw, hK _ _ ?_⟩
      clear hK K
      refine lexS_step (fun K hK => ?_)
      simp only [lexOp, List.getElem?_toArray, List.getElem?_cons_succ, List.getElem?_cons_zero]
      rw [if_pos (by rfl)]
      go_step
      have HU := ku2_any W2 g a n cap bs s1 HR2.out
      rw [HX1.out] at HU
      dsimp only at HU
      refine HU.mono ?_
      rintro e' W3 ⟨rfl, hr, hk⟩
      clear HU
      have HR3 := Lib.hid hr
      have HK3 := Lib.hid (HK2.out.trans hk)
      have HM3 := Lib.hid (hk.blk HM2.out hgm)
      replace hSw : OneC gr 0 (.pointer (some ⟨g, 0, none⟩)) W3 := cell_keep1 hk hrg hSw
      clear hr hk HR2 HK2 HM2
      go_simp
      first | refine hK _ _ ?_ | refine ⟨hSw, hK _ _ ?_⟩
      clear hK K
      refine lexS_step (fun K hK => ?_)
      simp only [lexOp, List.getElem?_toArray, List.getElem?_cons_succ, List.getElem?_cons_zero]
      rw [if_pos (by rfl)]
      go_step
      have HU := ku2_any W3 g a n cap bs s2 HR3.out
      rw [HX2.out] at HU
      dsimp only at HU
      refine HU.mono ?_
      rintro e' W4 ⟨rfl, hr, hk⟩
      clear HU
      have HR4 := Lib.hid hr
      have HK4 := Lib.hid (HK3.out.trans hk)
      have HM4 := Lib.hid (hk.blk HM3.out hgm)
      replace hSw : OneC gr 0 (.pointer (some ⟨g, 0, none⟩)) W4 := cell_keep1 hk hrg hSw
      clear hr hk HR3 HK3 HM3
      go_simp
      first | refine hK _ _ ?_ | refine ⟨hSw, hK _ _ ?_⟩
      clear hK K
      iterate 1
        refine lexS_step (fun K hK => ?_)
        simp only [lexOp, List.getElem?_toArray, List.getElem?_cons_succ, List.getElem?_cons_zero]
        rw [if_pos (by rfl)]
        apply Exists.intro
        refine ⟨fun w' hS' => ?_, hSw, ?_⟩
        · first | (go_simp <;> with_reducible rfl) | (go_simp; go_bits; with_reducible rfl)
        go_simp
        try go_bits
        refine hK _ _ ?_
        clear hK K
      have m0 := row_melt HM4.out 0
      have m1 := row_melt HM4.out 1
      have m2 := row_melt HM4.out 2
      have m3 := row_melt HM4.out 3
      have m4 := row_melt HM4.out 4
      have m5 := row_melt HM4.out 5
      have m6 := row_melt HM4.out 6
      have m7 := row_melt HM4.out 7
      have mlt := row_lt HM4.out
      have k0 : W4.cell? ⟨gm, 0, none⟩ = some (.int .i64 0) := row_cell HM4.out 0 rfl
      have k1 : W4.cell? ⟨gm, 1, none⟩ = some (.int .i64 0) := row_cell HM4.out 1 rfl
      have k2 : W4.cell? ⟨gm, 2, none⟩ = some (.int .i64 0) := row_cell HM4.out 2 rfl
      have k3 : W4.cell? ⟨gm, 3, none⟩ = some (.int .i64 0) := row_cell HM4.out 3 rfl
      have k4 : W4.cell? ⟨gm, 4, none⟩ = some (.int .i64 0) := row_cell HM4.out 4 rfl
      have k5 : W4.cell? ⟨gm, 5, none⟩ = some (.slice none 0 0) := row_cell HM4.out 5 rfl
      have k6 : W4.cell? ⟨gm, 6, none⟩ = some (.slice none 0 0) := row_cell HM4.out 6 rfl
      have k7 : W4.cell? ⟨gm, 7, none⟩ = some (.slice none 0 0) := row_cell HM4.out 7 rfl
      refine lexS_step (fun K hK => ?_)
      simp only [lexOp, List.getElem?_toArray, List.getElem?_cons_succ, List.getElem?_cons_zero]
      rw [if_pos (by rfl)]
      go_step
      have hkS := (((((((((Keep1.refl gm W4).set 0 (.int .i64 x0)).set 1 (.int .i64 x1)).set 2 (.int .i64 x2)).set 3 (.int .i64 0)).set 4 (.int .i64 0)).set 5 (.slice none 0 0)).set 6 (.slice none 0 0)).set 7 (.slice none 0 0))
      have hrm : gr ≠ gm := by omega
      have HMF := Lib.hid (set8_heap HM4.out (.int .i64 x0) (.int .i64 x1) (.int .i64 x2) (.int .i64 0) (.int .i64 0) (.slice none 0 0) (.slice none 0 0) (.slice none 0 0))
      have HRF := Lib.hid (HR4.out.keepO hkS ⟨Ne.symm hgm, Off1.old HS0.out (Nat.le_trans hWs hgW)⟩)
      have HKF := Lib.hid (keep1_new HK4.out hkS hgW)
      replace hSw := cell_keep1 hkS hrm hSw
      refine ⟨hSw, hK _ _ ?_⟩
      clear hK K hkS m0 m1 m2 m3 m4 m5 m6 m7 mlt k0 k1 k2 k3 k4 k5 k6 k7 HM4 HR4 HK4
      refine lexS_stir (EqW _) (fun y hy => by rw [show y = _ from hy]; exact hSw) rfl ?_
      refine stir_nil (fun y hy => ?_)
      unfold EqW at hy
      subst hy
      clear l0 hSw
      go_wp2_with fail
      go_meet
      exact ⟨gm, rfl, hgW, hgm, HMF, HKF, HRF⟩
  case rest =>
    obtain ⟨gm, rfl, hgW, hgm, HM1, HK1, HR1⟩ := hcut
    have hmf : gf ≠ gm := by have := row_lt HM.out; omega
    have hmr : gr ≠ gm := by omega
    have hml2 : gl ≠ gm := by have := row_lt HL.out; omega
    have HOMM := Lib.hid (show Off1 a n gm from Off1.old HS0.out (Nat.le_trans hWs hgW))
    have HLM := Lib.hid (show Off1 pa pn gm from Off1.oldS HLK.out hgW)
    have HLK1 := Lib.hid (Ss.keep1 HLK.out HK1.out HLG.out)
    have hd : Below wc.heap.size wc wc.drew := (Below.refl _ _).drew
    have hSw : GlS gr gl g (.slice pa pn pc) wc.drew := GlS.below ⟨row_cell (HK1.out.blk HG.out hrg) 0 rfl, row_cell (HK1.out.blk HL.out hlg) 0 rfl⟩ hd
    have l0 := fun z (h : GlS gr gl g (.slice pa pn pc) z) => h.1
    have l1 := fun z (h : GlS gr gl g (.slice pa pn pc) z) => h.2
    have HFI := Lib.hid (find_any wc.drew pa pn pc L sCode (HLK1.out.below hd) hpn)
    unfold sCode at HFI
    clear hd HLK1
    go_upto_region 1 with fail
    refine wp_region_lex (GlS gr gl g (.slice pa pn pc)) [(0, true), (1, true), (2, false), (3, false), (4, false)] (by kernel_rfl) (by kernel_rfl) (fun c a d v w h => by cases d <;> exact h) ?_
    iterate 2
      refine lex_step (fun K hK => ?_)
      simp only [lexOp, List.getElem?_toArray, List.getElem?_cons_succ, List.getElem?_cons_zero]
      rw [if_pos (by rfl)]
      apply Exists.intro
      refine ⟨fun w' hS' => ?_, hSw, ?_⟩
      · first | (go_simp <;> with_reducible rfl) | (go_simp; go_bits; with_reducible rfl)
      go_simp
      try go_bits
      refine hK _ _ ?_
      clear hK K
    refine lex_step (fun K hK => ?_)
    simp only [lexOp, List.getElem?_toArray, List.getElem?_cons_succ, List.getElem?_cons_zero]
    rw [if_pos (by rfl)]
    go_step
    refine HFI.out.mono ?_
    rintro e' W2 ⟨rfl, hb2⟩
    have hb := (Below.refl wc.heap.size wc).drew.trans hb2
    generalize findT L [67, 111, 100, 101] = fk at *
    have HM2 := Lib.hid (row_below HM1.out hb)
    have HK2 := Lib.hid (HK1.out.trans (Keep1.of hb))
    have HR2 := Lib.hid (HR1.out.below hb)
    replace hSw : GlS gr gl g (.slice pa pn pc) W2 := ⟨row_cell (HK2.out.blk HG.out hrg) 0 rfl, row_cell (HK2.out.blk HL.out hlg) 0 rfl⟩
    clear hb hb2 HM1 HK1 HR1 HFI
    go_simp
    first | refine hK _ _ ?_ | refine ⟨hSw, hK _ _ ?_⟩
    clear hK K
    refine lex_step (fun K hK => ?_)
    simp only [lexOp, List.getElem?_toArray, List.getElem?_cons_succ, List.getElem?_cons_zero]
    rw [if_pos (by rfl)]
    go_step
    refine ⟨GlS.below hSw (below_1 _ _), hK _ _ ?_⟩
    clear hK K
    refine lex_step (fun K hK => ?_)
    simp only [lexOp, List.getElem?_toArray, List.getElem?_cons_succ, List.getElem?_cons_zero]
    rw [if_pos (by rfl)]
    go_step
    refine (must_lit W2 g a n cap bs s3 HR2.out 2 (by decide) (by decide) 2 [1, (fk : Int)] rfl (by decide)).mono ?_
    generalize (mustS bs 2 [1, (fk : Int)] s3).2 = s4 at *
    rintro e' W3 ⟨rfl, hr, hk⟩
    have HM3 := Lib.hid (hk.blk HM2.out hgm)
    have HK3 := Lib.hid (HK2.out.trans hk)
    have HR3 := Lib.hid hr
    replace hSw : GlS gr gl g (.slice pa pn pc) W3 := ⟨row_cell (HK3.out.blk HG.out hrg) 0 rfl, row_cell (HK3.out.blk HL.out hlg) 0 rfl⟩
    clear hr hk HM2 HK2 HR2
    go_simp
    first | refine hK _ _ ?_ | refine ⟨hSw, hK _ _ ?_⟩
    clear hK K
    refine lex_nil ?_
    clear l0 l1
    obtain ⟨q0, q1⟩ := hSw
    have hg3 : g < W3.heap.size := by have := HR3.out.lt; exact this
    have HZ := Lib.hid (rsized_any (kcodeS bs L x0 x1 x2) (CdJ g gm W3) W3 g a n cap bs s4 HR3.out 39 enter_code3 #[.pointer (some ⟨gr, 0, none⟩), .pointer (some ⟨gl, 0, none⟩), .pointer (some ⟨gm, 0, none⟩)]
      (fun W' hr hk => (code3_any W' g gr gl gm a n cap bs _ hr h0n pa pn pc L (Ss.keep1 HLK.out (HK3.out.trans hk) HLG.out) HLG.out HLM.out hpn x0 x1 x2 (hk.blk HM3.out hgm) HOMM.out hgm (cell_keep1 hk hrg q0) (cell_keep1 hk hlg q1)).mono
        fun e W'' ⟨he, ⟨m, h1, h2, h3⟩, h4, h5⟩ => by
          have hj : CdJ g gm W3 (kcodeS bs L x0 x1 x2 (getS bs 4 s4).2).1 W'' := ⟨⟨m, h1, h2, h3.mono hk.size⟩, (hk.two gm).trans h5⟩
          exact ⟨he, h4, hj, hj.setg hg3 hgm 2 _⟩))
    rw [← HSL.out] at HZ
    go_wp2_with fail
    refine HZ.out.mono ?_
    rintro e' W5 ⟨rfl, hr5, ⟨⟨m, hmp, hmb, hmo⟩, hk5⟩⟩
    have HR5 := Lib.hid hr5
    have HK5 := Lib.hid (keep1_new2 HK3.out hk5 hgW)
    have HMP := Lib.hid hmp
    have HMO := Lib.hid (hmo.mono (Nat.le_trans hWs HK3.out.size))
    have HG5 := Lib.hid (HK5.out.blk HG.out hrg)
    have HL5 := Lib.hid (HK5.out.blk HL.out hlg)
    have HF5 := Lib.hid (HK5.out.blk HM.out hfg)
    have HO5 := Lib.hid (own_keep1 HO.out HK5.out hg0)
    have HOW5 := Lib.hid (fun x hx => (HOW.out x hx).keep1 HK5.out hg0)
    have HKW5 := Lib.hid (HKW.out.trans (HK5.out.two gf))
    obtain ⟨fl, nm, ds, st, lo, ca, cn, cc, code, ta, tn, tc, traps, na, nn, nc, maps⟩ := m
    have HMB := Lib.hid (show MBk W5 gm fl nm ds st lo ca cn cc ta tn tc na nn nc from hmb)
    obtain ⟨m0', m1', m2', m3', m4', m5', m6', m7'⟩ := HMB.out.box
    have q4 : W5.cell? ⟨gf, 4, none⟩ = some (.slice a0 m0 c0) := row_cell HF5.out 4 rfl
    clear hr5 hmp hmb hmo hk5 HZ q0 q1 HM3 HK3 HR3 HG HL HM HO HOW HKW
    go_wp2_with (at_builtin; refine wpList_appS_lit stMethK rfl _ _ rfl w0.heap.size _ m0 _ rfl HO5.out _ 1 _ _ rfl (by simp) rfl rfl (by omega) (by unfold maxLen; omega) HKW5.out.size ?_; intro v3 W8 hown3 hg3 hb3; have hk3 := KeptT.app HO5.out hg3; have HK8 := Lib.hid (keep2_appA HKW5.out HO5.out hg3); have HR8 := Lib.hid (HR5.out.keptT2 hk3 (by decide) HS0.out HK8.out HOM.out); have HG8 := Lib.hid (hk3.2 _ _ _ _ HG5.out (by decide)); have HL8 := Lib.hid (hk3.2 _ _ _ _ HL5.out (by decide)); have HF8 := Lib.hid (hk3.2 _ _ _ _ HF5.out (by decide)); have HMO8 := Lib.hid (HMO.out.keptT hk3 (by decide) (by decide) (by decide) (by decide)); have HOW8 := Lib.hid (fun x hx => (HOW5.out x hx).keptT hk3 (by decide) (by decide) (by decide) (by decide)); have hown4 : W8.ownsRow w0.heap.size 48 8 v3 (m0 + 1) ((lw ++ [(⟨fl, nm, ds, st, lo, ca, cn, cc, code, ta, tn, tc, traps, na, nn, nc, maps⟩ : KM)]).flatMap KM.cells) := (by rw [List.flatMap_append]; exact hown3); obtain ⟨a3, c3, rfl, -, -⟩ := Ss.ofOwn KM.cells_length (by decide) hown4; have HO8 := Lib.hid hown4; have fo := row_melt HF8.out 4; have lto := row_lt HF8.out; have co : W8.cell? ⟨gf, 4, none⟩ = some (.slice a0 m0 c0) := row_cell HF8.out 4 rfl; clear hown3 hown4 hg3 hb3 hk3)
    go_end0
    refine ⟨rfl, RdS.set HR8.out ⟨Ne.symm hfg, HOM.out⟩ 4 _, ?_⟩
    have hko := keptT_set HF8.out 4 (.slice a3 (m0 + 1) c3)
    refine ⟨heap_other HG8.out hrf 4 _, heap_other HL8.out hlf 4 _, ⟨.slice a3 (m0 + 1) c3, m0 + 1, lw ++ [(⟨fl, nm, ds, st, lo, ca, cn, cc, code, ta, tn, tc, traps, na, nn, nc, maps⟩ : KM)], by simpa using heap_set3 HF8.out 4 (.slice a3 (m0 + 1) c3), own_keptT HO8.out hko (by decide), by rw [List.length_append, ← HMM.out]; rfl, by rw [List.map_append, HLW.out, ← HMP.out]; rfl, fun x hx => ?_⟩, HK8.out.setC (.inr (.inr rfl)) 4 _⟩
    rcases List.mem_append.1 hx with hx | hx
    · exact (HOW8.out x hx).keptT hko (by decide) (by decide) (by decide) (by decide)
    · obtain rfl : x = (⟨fl, nm, ds, st, lo, ca, cn, cc, code, ta, tn, tc, traps, na, nn, nc, maps⟩ : KM) := by simpa using hx
      exact HMO8.out.keptT hko (by decide) (by decide) (by decide) (by decide)
end Go.Proofs.Ytnfhiakdbakpgaa
/- klass: what is known of all that is read. Plain. -/
namespace Go.Proofs.Ytnfhiakdbakpgaa
open Go.ChangeShapes Go.WideShapes Go.ChangeAt Go.RowKit
theorem rowS_all {α : Type} (one : RM α) (P : α → Prop) (h : ∀ s, P (one s).1) : ∀ (n : Nat) (s : St), ∀ x ∈ (rowS one n s).1, P x
  | 0, s, x, hx => by simp [rowS, pureR] at hx
  | n + 1, s, x, hx => by
    unfold rowS at hx
    split at hx
    · simp at hx
    · rcases List.mem_cons.1 hx with rfl | hx
      · exact h s
      · exact rowS_all one P h n _ x hx
theorem timesS_all {α : Type} (most : Int) (one : RM α) (P : α → Prop) (h : ∀ s, P (one s).1) (n : Int) (s : St) : ∀ x ∈ (timesS most one n s).1, P x := rowS_all one P h _ _
theorem rowS_len {α : Type} (one : RM α) : ∀ (n : Nat) (s : St), (rowS one n s).1.length ≤ n
  | 0, s => by simp [rowS, pureR]
  | n + 1, s => by
    unfold rowS
    split
    · simp
    · simp only [List.length_cons]
      have := rowS_len one n (one s).2
      omega
theorem timesS_len {α : Type} (most : Int) (one : RM α) (n : Int) (s : St) : (timesS most one n s).1.length ≤ n.toNat := rowS_len one _ _
theorem IntR_two {v : Int} (h : 0 ≤ v ∧ v < 65536) : IntR v := by unfold IntR; omega
theorem fieldS_fl (bs : List UInt8) (s : St) : IntR (fieldS bs s).1.fl := IntR_two (getS_two bs 2 (by decide) s)
theorem sizedS_fst {α : Type} (bs : List UInt8) (one : RM α) (s : St) : (sizedS bs one s).1 = (one (getS bs 4 s).2).1 := by
  unfold sizedS
  split <;> rfl
theorem methS_fl (bs : List UInt8) (L : List KV) (s : St) : IntR (methS bs L s).1.fl := by
  have h : (methS bs L s).1.fl = (getS bs 2 s).1 := by
    unfold methS bindR
    rw [sizedS_fst]
    rfl
  rw [h]
  exact IntR_two (getS_two bs 2 (by decide) s)
theorem restS_fields (bs : List UInt8) (L : List KV) (s : St) : ∀ d ∈ (restS bs L s).1.fields, IntR d.fl := by
  intro d hd
  exact timesS_all 64 (fieldS bs) (fun d => IntR d.fl) (fieldS_fl bs) _ _ d hd
theorem restS_methods (bs : List UInt8) (L : List KV) (s : St) : ∀ m ∈ (restS bs L s).1.methods, IntR m.fl := by
  intro m hm
  exact timesS_all 64 (methS bs L) (fun m => IntR m.fl) (methS_fl bs L) _ _ m hm
end Go.Proofs.Ytnfhiakdbakpgaa
