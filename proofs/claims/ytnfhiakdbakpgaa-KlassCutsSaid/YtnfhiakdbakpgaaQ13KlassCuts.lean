/- klass: a class is written. No condition. -/
import Derived.Test.YtnfhiakdbakpgaaQ12KlassCuts
import Derived.Test.YtnfhiakdbakpgaaQ00KlassCuts
namespace Go.Proofs.Ytnfhiakdbakpgaa
open Go.ChangeShapes Go.WideShapes Go.ChangeAt Go.RowKit
def fieldB (d : KD) : List UInt8 := z2 [d.fl, d.nm, d.ds, 0]
def methB (L : List KV) (m : KM) : List UInt8 := z2 [m.fl, m.nm, m.ds, 1, (findT L sCode : Int)] ++ z4 (codeB L m).length ++ codeB L m
def classB (f : KF) : List UInt8 := z4 3405691582 ++ z2 [0, 45] ++ bytesK f.pool ++ z2 [33, f.th, f.su, 0, (f.fields.length : Int)] ++ f.fields.flatMap fieldB ++ z2 [(f.methods.length : Int)] ++ f.methods.flatMap (methB f.pool) ++ z2 [0]
theorem fieldB_len (d : KD) : (fieldB d).length = 8 := by unfold fieldB; rw [z2_len]; rfl
theorem fields_len (l : List KD) : (l.flatMap fieldB).length = l.length * 8 := by
  induction l with
  | nil => simp
  | cons x l ih => rw [List.flatMap_cons, List.length_append, List.length_cons, ih, fieldB_len]; omega
theorem methB_len (L : List KV) (m : KM) : (methB L m).length = 14 + (codeB L m).length := by
  unfold methB
  simp only [List.length_append, z2_len, z4_len, List.length_cons, List.length_nil]
theorem classB_len (f : KF) : (classB f).length = 22 + (bytesK f.pool).length + f.fields.length * 8 + (f.methods.flatMap (methB f.pool)).length := by
  unfold classB
  simp only [List.length_append, z2_len, z4_len, fields_len, List.length_cons, List.length_nil]
  omega
theorem enter_meth (args : Array Value) (W : World) : (callFunc 21 args).run Try.prog W = .ok (.enter 21 args) W := rfl
def FBk (w : World) (b : Nat) (pa : Option Addr) (pn pc : Nat) (th su : Int) (fa : Option Addr) (fn fc : Nat) (ma : Option Addr) (mn mc : Nat) : Prop := w.heap[b]? = some (.cells #[.slice pa pn pc, .int .i64 th, .int .i64 su, .slice fa fn fc, .slice ma mn mc] 26)
set_option maxRecDepth 100000 in
set_option maxHeartbeats 8000000 in
theorem wmeth_any (W0 w : World) (gi gf gm : Nat) (pa : Option Addr) (pn pc : Nat) (L : List KV) (th su : Int) (fa : Option Addr) (fn fc : Nat) (ma : Option Addr) (mn mc : Nat) (m : KM) (hF : FBk w gf pa pn pc th su fa fn fc ma mn mc) (hM : MBk w gm m.fl m.nm m.ds m.st m.lo m.ca m.cn m.cc m.ta m.tn m.tc m.ma m.mn m.mc)
    (hL : Ks W0 pa pn L) (hpn : pn ≤ 65536) (hm : m.Rd W0) (hb : Below W0.heap.size W0 w) (hg : W0.heap.size ≤ gi) (h : WrB (gi + 1) w gi []) (hlen : (codeB L m).length ≤ 1048576) :
    Calls Try.prog 21 #[.pointer (some ⟨gi, 0, none⟩), .pointer (some ⟨gf, 0, none⟩), .pointer (some ⟨gm, 0, none⟩)] w (WRet gi (codeB L m) w) := by
  have HC := Lib.hid (wcode_any W0 w gi [] h pa pn pc L hL hpn m hm hb hg (by simpa using hlen))
  rw [List.nil_append] at HC
  obtain ⟨fl, nm, ds, st, lo, ca, cn, cc, code, ta, tn, tc, traps, na, nn, nc, maps⟩ := m
  dsimp only at HC hM
  generalize codeB L ⟨fl, nm, ds, st, lo, ca, cn, cc, code, ta, tn, tc, traps, na, nn, nc, maps⟩ = T at *
  obtain ⟨c0, c1, c2, c3, c4, c5, c6, c7⟩ := hM.box
  have d0 : w.cell? ⟨gf, 0, none⟩ = some (.slice pa pn pc) := row_cell hF 0 rfl
  clear hF hM hL hm hb hg h hlen
  go_enter Try.func21, Try.ntmps21
  go_wp2_with fail
  refine HC.out.mono ?_
  rintro e' W9 ⟨rfl, hw9, hk9⟩
  go_wp2_with fail
  go_end0
  exact ⟨rfl, hw9, hk9⟩
/-- The cells that the method's first numbers come from. -/
def MFS (bm bf : Nat) (fl nm ds : Int) (pa : Option Addr) (pn pc : Nat) (w : World) : Prop := w.cell? ⟨bm, 0, none⟩ = some (.int .i64 fl) ∧ w.cell? ⟨bm, 1, none⟩ = some (.int .i64 nm) ∧ w.cell? ⟨bm, 2, none⟩ = some (.int .i64 ds) ∧ w.cell? ⟨bf, 0, none⟩ = some (.slice pa pn pc)
theorem MFS.below {bm bf : Nat} {fl nm ds : Int} {pa : Option Addr} {pn pc : Nat} {w w' : World} (h : MFS bm bf fl nm ds pa pn pc w) (hb : Below w.heap.size w w') : MFS bm bf fl nm ds pa pn pc w' := ⟨cellS_below hb h.1, cellS_below hb h.2.1, cellS_below hb h.2.2.1, cellS_below hb h.2.2.2⟩
theorem cell_keep1 {g b o : Nat} {w w' : World} {v : Value} (k : Keep1 g w w') (hne : b ≠ g) (h : w.cell? ⟨b, o, none⟩ = some v) : w'.cell? ⟨b, o, none⟩ = some v := by
  have hlt : b < w.heap.size := by
    unfold World.cell? at h
    cases hb : w.heap[b]? with
    | none => rw [hb] at h; simp at h
    | some o => exact (Array.getElem?_eq_some_iff.1 hb).1
  rw [← h]
  unfold World.cell?
  rw [k.block b hlt hne]
theorem MFS.keep1 {g bm bf : Nat} {fl nm ds : Int} {pa : Option Addr} {pn pc : Nat} {w w' : World} (h : MFS bm bf fl nm ds pa pn pc w) (k : Keep1 g w w') (h1 : bm ≠ g) (h2 : bf ≠ g) : MFS bm bf fl nm ds pa pn pc w' := ⟨cell_keep1 k h1 h.1, cell_keep1 k h1 h.2.1, cell_keep1 k h1 h.2.2.1, cell_keep1 k h2 h.2.2.2⟩
def KBytesRet (f : KF) (w : World) (e : Ending) (w' : World) : Prop :=
  (classOk f = false ∧ e = .returned (.tuple #[.slice none 0 0, .int .i64 8]) ∧ Below w.heap.size w w') ∨
  (classOk f = true ∧ ∃ v m, e = .returned (.tuple #[v, .int .i64 0]) ∧ w'.ownsRow w.heap.size 5 1 v m ((classB f).map encB) ∧ Below w.heap.size w w')
set_option maxRecDepth 100000 in
set_option maxHeartbeats 16000000 in
theorem KBytes_any (w : World) (f : KF) (h : f.Rd w) (hfit : f.Fit) (hlen : classOk f = true → (classB f).length ≤ 1000000) :
    Calls Try.prog 9 #[.agg #[.slice f.pa f.pn f.pc, .int .i64 f.th, .int .i64 f.su, .slice f.fa f.fn f.fc, .slice f.ma f.mn f.mc]] w (KBytesRet f w) := by
  have HCK := Lib.hid (fun w' (hb : Below w.heap.size w w') => KCheck_any w' f (h.below hb) hfit)
  unfold KCheckRet at HCK
  have HPB := Lib.hid (fun w' (hb : Below w.heap.size w w') (hq : classOk f = true) => Bytes_any w' f.pa f.pn f.pc f.pool (h.pool.below hb) hfit.pn hfit.ps (fun _ => by have h1 := hlen hq; rw [classB_len] at h1; omega))
  cases hck : classOk f
  · have HR := Lib.hid hck
    rw [hck] at HCK
    simp only [Bool.false_eq_true, if_false] at HCK
    obtain ⟨pa, pn, pc, pool, th, su, fa, fn, fc, fields, ma, mn, mc, methods⟩ := f
    dsimp only at HCK ⊢
    have hal : Below w.heap.size w (w.alloc (.cells #[.slice pa pn pc, .int .i64 th, .int .i64 su, .slice fa fn fc, .slice ma mn mc] 26)) := below_1 _ _
    have HA := Lib.hid hal
    have HF1 := Lib.hid (heap_alloc_last w (.cells #[.slice pa pn pc, .int .i64 th, .int .i64 su, .slice fa fn fc, .slice ma mn mc] 26))
    clear h hfit hlen hck HPB hal
    go_enter Try.func9, Try.ntmps9
    go_upto_region 1 with fail
    generalize w.alloc (.cells #[.slice pa pn pc, .int .i64 th, .int .i64 su, .slice fa fn fc, .slice ma mn mc] 26) = W1 at *
    have d0 : W1.cell? ⟨w.heap.size, 0, none⟩ = some (.slice pa pn pc) := row_cell HF1.out 0 rfl
    have d1 : W1.cell? ⟨w.heap.size, 1, none⟩ = some (.int .i64 th) := row_cell HF1.out 1 rfl
    have d2 : W1.cell? ⟨w.heap.size, 2, none⟩ = some (.int .i64 su) := row_cell HF1.out 2 rfl
    have d3 : W1.cell? ⟨w.heap.size, 3, none⟩ = some (.slice fa fn fc) := row_cell HF1.out 3 rfl
    have d4 : W1.cell? ⟨w.heap.size, 4, none⟩ = some (.slice ma mn mc) := row_cell HF1.out 4 rfl
    go_wp2_with fail
    refine (HCK.out W1 HA.out).mono ?_
    rintro e W2 ⟨rfl, hb2⟩
    have HB2 := Lib.hid (HA.out.trans (hb2.mono HA.out.size))
    clear hb2
    go_wp2_with fail
    go_ret2
    exact .inl ⟨HR.out, rfl, HB2.out⟩
  · have HR := Lib.hid hck
    have hlq := hlen hck
    rw [classB_len] at hlq
    replace HPB := Lib.hid (fun w' hb => HPB.out w' hb hck)
    have hpo : poolOk f.pool = true := by
      unfold classOk at hck
      simp only [Bool.and_eq_true] at hck
      exact hck.1.1.1.1.1
    unfold BytesRet at HPB
    rw [hck] at HCK
    simp only [if_true] at HCK
    have HCB := Lib.hid (show classB f = z4 3405691582 ++ z2 [0, 45] ++ bytesK f.pool ++ z2 [33, f.th, f.su, 0, (f.fields.length : Int)] ++ f.fields.flatMap fieldB ++ z2 [(f.methods.length : Int)] ++ f.methods.flatMap (methB f.pool) ++ z2 [0] from rfl)
    unfold KBytesRet
    obtain ⟨T, hT⟩ : ∃ T, T = classB f := ⟨_, rfl⟩
    rw [← hT]
    rw [HCB.out] at hT
    obtain ⟨pa, pn, pc, pool, th, su, fa, fn, fc, fields, ma, mn, mc, methods⟩ := f
    clear hlen
    dsimp only at HCK HPB hpo hlq hT ⊢
    have HPO := Lib.hid hpo
    have hfl : fields.length = fn := h.fields.1
    have hml : methods.length = mn := h.methods.1
    rw [hfl] at hlq
    rw [hfl, hml] at hT
    have HT := Lib.hid hT
    have HFn := Lib.hid hfl
    have HMn := Lib.hid hml
    have HLK := Lib.hid (show Ks w pa pn pool from h.pool)
    have hpn : pn ≤ 65536 := hfit.pn
    have hmn : mn ≤ 1000000000000 := hfit.mn
    have HFD := Lib.hid (show Ss 3 KD.cells w fa fn fields from h.fields)
    have HMD := Lib.hid (show Ss 8 KM.cells w ma mn methods from h.methods)
    have HE := Lib.hid (show ∀ m ∈ methods, m.Rd w from h.each)
    have HFB := Lib.hid (fun w' (hl : Ks w' pa pn pool) => find_any w' pa pn pc pool sCode hl hpn)
    unfold sCode at HFB
    have hal : Below w.heap.size w (w.alloc (.cells #[.slice pa pn pc, .int .i64 th, .int .i64 su, .slice fa fn fc, .slice ma mn mc] 26)) := below_1 _ _
    have HA := Lib.hid hal
    have HF1 := Lib.hid (show FBk (w.alloc (.cells #[.slice pa pn pc, .int .i64 th, .int .i64 su, .slice fa fn fc, .slice ma mn mc] 26)) w.heap.size pa pn pc th su fa fn fc ma mn mc from heap_alloc_last w _)
    generalize hcf : classOk ⟨pa, pn, pc, pool, th, su, fa, fn, fc, fields, ma, mn, mc, methods⟩ = R at *
    have HRT := Lib.hid hck
    have HBC := HPB
    clear h hfit hck hal hfl hml hT hpo hcf HCB HR HPB
    go_enter Try.func9, Try.ntmps9
    go_upto_region 1 with fail
    generalize w.alloc (.cells #[.slice pa pn pc, .int .i64 th, .int .i64 su, .slice fa fn fc, .slice ma mn mc] 26) = W1 at *
    have d0 : W1.cell? ⟨w.heap.size, 0, none⟩ = some (.slice pa pn pc) := row_cell HF1.out 0 rfl
    have d1 : W1.cell? ⟨w.heap.size, 1, none⟩ = some (.int .i64 th) := row_cell HF1.out 1 rfl
    have d2 : W1.cell? ⟨w.heap.size, 2, none⟩ = some (.int .i64 su) := row_cell HF1.out 2 rfl
    have d3 : W1.cell? ⟨w.heap.size, 3, none⟩ = some (.slice fa fn fc) := row_cell HF1.out 3 rfl
    have d4 : W1.cell? ⟨w.heap.size, 4, none⟩ = some (.slice ma mn mc) := row_cell HF1.out 4 rfl
    go_wp2_with fail
    refine (HCK.out W1 HA.out).mono ?_
    rintro e W2 ⟨rfl, hb2⟩
    have HB2 := Lib.hid (HA.out.trans (hb2.mono HA.out.size))
    have HF2 := Lib.hid (show FBk W2 w.heap.size pa pn pc th su fa fn fc ma mn mc from row_below HF1.out hb2)
    clear hb2 HA HF1 HCK d0 d1 d2 d3 d4
    go_upto_region 5 with fail
    have hal : Below W2.heap.size W2 (W2.alloc (.cells #[.slice none 0 0] 54)) := below_1 _ _
    have HW3 := Lib.hid (WrB.new W2)
    have HF3 := Lib.hid (show FBk (W2.alloc (.cells #[.slice none 0 0] 54)) w.heap.size pa pn pc th su fa fn fc ma mn mc from row_below HF2.out hal)
    have HB3 := Lib.hid (HB2.out.trans (hal.mono HB2.out.size))
    have hbg : w.heap.size ≠ W2.heap.size := Nat.ne_of_lt (row_lt HF2.out)
    have HWg := Lib.hid (show w.heap.size ≤ W2.heap.size from HB2.out.size)
    clear hal HF2 HB2
    generalize W2.alloc (.cells #[.slice none 0 0] 54) = W3 at *
    generalize W2.heap.size = g at *
    have HK3 := Lib.hid (Keep1.refl g W3)
    have HU := Lib.hid (u4_any W3 g [] HW3.out 3405691582 (by simp))
    rw [List.nil_append] at HU
    go_wp2_with fail
    refine HU.out.mono ?_
    rintro e W4 ⟨rfl, hw4, hk4⟩
    have HW4 := Lib.hid hw4
    have HF4 := Lib.hid (show FBk W4 w.heap.size pa pn pc th su fa fn fc ma mn mc from hk4.blk HF3.out hbg)
    have HK4 := Lib.hid hk4
    have HGL := Lib.hid (show g + 1 ≤ W3.heap.size from HW3.out.lt)
    clear hw4 hk4 HW3 HF3 HK3 HU
    have HU := Lib.hid (u2_lit W4 g (z4 3405691582) HW4.out 2 [0, 45] rfl (by decide) (by rw [z4_len]; omega))
    go_wp2_with fail
    refine HU.out.mono ?_
    rintro e W5 ⟨rfl, hw5, hk5⟩
    have HW5 := Lib.hid (hw5.mono HK4.out.size HGL.out)
    have HF5 := Lib.hid (show FBk W5 w.heap.size pa pn pc th su fa fn fc ma mn mc from hk5.blk HF4.out hbg)
    have HK5 := Lib.hid (HK4.out.trans hk5)
    clear hw5 hk5 HW4 HF4 HK4 HU
    have HB5 := Lib.hid (HK5.out.below HB3.out (Nat.le_refl _) HWg.out)
    have d0 : W5.cell? ⟨w.heap.size, 0, none⟩ = some (.slice pa pn pc) := row_cell HF5.out 0 rfl
    go_wp2_with fail
    refine (HBC.out W5 HB5.out).mono ?_
    rintro e W6 (⟨hno, -, -⟩ | ⟨-, v6, m6, rfl, ho6, hb6⟩)
    · rw [HPO.out] at hno; cases hno
    obtain ⟨a6, c6, rfl, hs6, hc6⟩ := Sl.ofOwn ho6
    have HS6 := Lib.hid hs6
    have hm6 : 22 + m6 + fn * 8 + (methods.flatMap (methB pool)).length ≤ 1000000 := by rw [hs6.1] at hlq; exact hlq
    have HL6 := Lib.hid (show (bytesK pool).length = m6 from hs6.1)
    have HW6 := Lib.hid (HW5.out.below hb6)
    have HF6 := Lib.hid (show FBk W6 w.heap.size pa pn pc th su fa fn fc ma mn mc from row_below HF5.out hb6)
    have HK6 := Lib.hid (HK5.out.trans (Keep1.of hb6))
    clear ho6 hs6 hb6 hlq HW5 HF5 HK5 d0 HBC HB5
    obtain ⟨a7, n7, c7, hr7, hs7, hc7, hg7, ho7⟩ := HW6.out
    have hn7 : n7 = 8 := by have := hs7.1; simp only [List.length_append, z2_len, z4_len, List.length_cons, List.length_nil] at this; omega
    have HO7 := Lib.hid ho7
    have HG7 := Lib.hid hr7
    have c0 : W6.cell? ⟨g, 0, none⟩ = some (.slice a7 n7 c7) := row_cell HG7.out 0 rfl
    have hn76 : n7 + m6 ≤ 1000000 := by omega
    have HN7 := Lib.hid hn7
    clear hr7 hs7 ho7 hn7 HW6
    go_upto_region 8 with fail
    have HE0 := Lib.hid (show (z4 3405691582 ++ z2 [0, 45]).length = 8 by rw [List.length_append, z4_len, z2_len]; rfl)
    generalize z4 3405691582 ++ z2 [0, 45] = e0 at *
    go_upto_region 9 with (at_builtin; refine wpList_app1 oneBu rfl _ _ _ rfl W3.heap.size _ n7 _ rfl HO7.out _ m6 _ rfl (HS6.out.src encB_cell Try.underlying29 _) (by omega) (by unfold maxLen; omega) HK6.out.size ?_; intro v8 W8 hown8 hg8 hb8; rw [← List.map_append] at hown8; obtain ⟨a8, c8, rfl, -, -⟩ := Sl.ofOwn hown8; have hkt := KeptT.app0 HO7.out hg8; have HG8 := Lib.hid (hkt.2 _ _ _ _ HG7.out (by decide)); have HF8 := Lib.hid (show FBk W8 w.heap.size pa pn pc th su fa fn fc ma mn mc from hkt.2 _ _ _ _ HF6.out (by decide)); have HK8 := Lib.hid (keep1_app HK6.out HO7.out hg8); have HO8 := Lib.hid hown8; have fg := row_melt HG8.out 0; have cg : W8.cell? ⟨g, 0, none⟩ = some (.slice a7 n7 c7) := row_cell HG8.out 0 rfl; have ltg := row_lt HG8.out; clear hkt hown8 hg8 hb8 HG7 HF6 HK6 HO7 HS6 c0)
    have HW9 := Lib.hid (show WrB W3.heap.size (W8.setCell ⟨g, 0, none⟩ (.slice a8 (n7 + m6) c8)) g (e0 ++ bytesK pool) from WrB.set HG8.out HO8.out hg7 rfl)
    have HK9 := Lib.hid (HK8.out.set 0 (.slice a8 (n7 + m6) c8))
    have HF9 := Lib.hid (show FBk (W8.setCell ⟨g, 0, none⟩ (.slice a8 (n7 + m6) c8)) w.heap.size pa pn pc th su fa fn fc ma mn mc from heap_other HF8.out hbg 0 (.slice a8 (n7 + m6) c8))
    have HE1 := Lib.hid (show (e0 ++ bytesK pool).length = 8 + m6 by rw [List.length_append, HE0.out, HL6.out])
    clear fg cg ltg HG8 HO8 HK8 HF8 HN7 HE0 hn76 hc7
    generalize W8.setCell ⟨g, 0, none⟩ (.slice a8 (n7 + m6) c8) = W9 at *
    generalize e0 ++ bytesK pool = e1 at *
    have d1 : W9.cell? ⟨w.heap.size, 1, none⟩ = some (.int .i64 th) := row_cell HF9.out 1 rfl
    have d2 : W9.cell? ⟨w.heap.size, 2, none⟩ = some (.int .i64 su) := row_cell HF9.out 2 rfl
    have d3 : W9.cell? ⟨w.heap.size, 3, none⟩ = some (.slice fa fn fc) := row_cell HF9.out 3 rfl
    have HU := Lib.hid (u2_lit W9 g e1 HW9.out 5 [33, th, su, 0, (fn : Int)] rfl (by decide) (by rw [HE1.out]; omega))
    go_wp2_with fail
    refine HU.out.mono ?_
    rintro e W10 ⟨rfl, hw10, hk10⟩
    have HW10 := Lib.hid (hw10.mono HK9.out.size HGL.out)
    have HF10 := Lib.hid (show FBk W10 w.heap.size pa pn pc th su fa fn fc ma mn mc from hk10.blk HF9.out hbg)
    have HK10 := Lib.hid (HK9.out.trans hk10)
    have HE2 := Lib.hid (show (e1 ++ z2 [33, th, su, 0, (fn : Int)]).length = 18 + m6 by rw [List.length_append, HE1.out, z2_len]; simp only [List.length_cons, List.length_nil]; omega)
    clear hw10 hk10 HW9 HF9 HK9 HU d1 d2 d3 HE1
    generalize e1 ++ z2 [33, th, su, 0, (fn : Int)] = e2 at *
    have d3 : W10.cell? ⟨w.heap.size, 3, none⟩ = some (.slice fa fn fc) := row_cell HF10.out 3 rfl
    go_wp2_with fail
    clear d3
    go_loopg [52] fn (fun gn i wr => ∃ j : Nat, j ≤ fn ∧ gn = fn - j ∧ i = .int .i64 j ∧ Hid (WrB W3.heap.size wr g (e2 ++ (fields.take j).flatMap fieldB)) ∧ Hid (FBk wr w.heap.size pa pn pc th su fa fn fc ma mn mc) ∧ Hid (Keep1 g W3 wr))
    case atStart => exact ⟨0, by omega, by omega, by go_num, Lib.hid (by simpa using HW10.out), HF10, HK10⟩
    case round =>
      clear HW10 HF10 HK10
      obtain ⟨j, hj, rfl, rfl, HWR, HF, HK⟩ := hrel
      by_cases hlt : j < fn
      · obtain ⟨b, off, t, rfl, _, hv, q⟩ := (HFD.out.below (HK.out.below HB3.out (Nat.le_refl _) HWg.out)).getC j hlt
        have HFT := Lib.hid (show e2 ++ (fields.take (j + 1)).flatMap fieldB = e2 ++ (fields.take j).flatMap fieldB ++ fieldB t by rw [flat_take fieldB fields j t hv, List.append_assoc])
        have hll : (e2 ++ (fields.take j).flatMap fieldB).length + 4 * 2 ≤ 1048576 := by
          rw [List.length_append, fields_len, HE2.out, List.length_take, HFn.out]
          omega
        have HTB' := Lib.hid (show fieldB t = z2 [t.fl, t.nm, t.ds, 0] from rfl)
        obtain ⟨fl, nm, ds⟩ := t
        rw [HTB'.out] at HFT
        dsimp only at HFT
        have q0 : wr.cell? ⟨b, off + j * 3, none⟩ = some (.int .i64 fl) := q 0 (by omega)
        have q1 : wr.cell? ⟨b, off + j * 3 + 1, none⟩ = some (.int .i64 nm) := q 1 (by omega)
        have q2 : wr.cell? ⟨b, off + j * 3 + 2, none⟩ = some (.int .i64 ds) := q 2 (by omega)
        clear q hv HTB'
        generalize e2 ++ (fields.take j).flatMap fieldB = d at *
        have hj1 : (j : Int) < fn := by omega
        have hb : Below wr.heap.size wr (wr.alloc (.cells #[.int .i64 fl, .int .i64 nm, .int .i64 ds] 59)) := below_1 _ _
        have HW14 := Lib.hid (HWR.out.below hb)
        have HF14 := Lib.hid (show FBk (wr.alloc (.cells #[.int .i64 fl, .int .i64 nm, .int .i64 ds] 59)) w.heap.size pa pn pc th su _ fn fc ma mn mc from row_below HF.out hb)
        have HK14 := Lib.hid (HK.out.trans (Keep1.of hb))
        have HT4 := Lib.hid (heap_alloc_last wr (.cells #[.int .i64 fl, .int .i64 nm, .int .i64 ds] 59))
        clear hb HWR HF HK
        go_upto_region 13 with fail
        clear q0 q1 q2
        generalize wr.alloc (.cells #[.int .i64 fl, .int .i64 nm, .int .i64 ds] 59) = W14 at *
        generalize wr.heap.size = bt at *
        have p0 : W14.cell? ⟨bt, 0, none⟩ = some (.int .i64 fl) := row_cell HT4.out 0 rfl
        have p1 : W14.cell? ⟨bt, 1, none⟩ = some (.int .i64 nm) := row_cell HT4.out 1 rfl
        have p2 : W14.cell? ⟨bt, 2, none⟩ = some (.int .i64 ds) := row_cell HT4.out 2 rfl
        have HU := Lib.hid (u2_lit W14 g d HW14.out 4 [fl, nm, ds, 0] rfl (by decide) hll)
        go_wp2_with fail
        refine HU.out.mono ?_
        rintro e' W15 ⟨rfl, hw5, hk5⟩
        go_wp2_with fail
        go_roundg (fn - (j + 1))
        case measure => omega
        case rel => exact ⟨j + 1, by omega, rfl, by go_num, Lib.hid (by rw [HFT.out]; exact hw5.mono HK14.out.size HGL.out), Lib.hid (hk5.blk HF14.out hbg), Lib.hid (HK14.out.trans hk5)⟩
      · obtain rfl : j = fn := by omega
        have HLE := Lib.hid (show fields.take j = fields by rw [List.take_of_length_le (by rw [HFn.out]; exact Nat.le_refl _)])
        rw [HLE.out] at HWR
        have HE3 := Lib.hid (show (e2 ++ fields.flatMap fieldB).length = 18 + m6 + j * 8 by rw [List.length_append, HE2.out, fields_len, HFn.out])
        generalize e2 ++ fields.flatMap fieldB = e3 at *
        have d4 : wr.cell? ⟨w.heap.size, 4, none⟩ = some (.slice ma mn mc) := row_cell HF.out 4 rfl
        have HU := Lib.hid (u2_lit wr g e3 HWR.out 1 [(mn : Int)] rfl (by decide) (by rw [HE3.out]; omega))
        go_wp2_with fail
        refine HU.out.mono ?_
        rintro e W16 ⟨rfl, hw16, hk16⟩
        have HW16 := Lib.hid (hw16.mono HK.out.size HGL.out)
        have HF16 := Lib.hid (show FBk W16 w.heap.size pa pn pc th su fa j fc ma mn mc from hk16.blk HF.out hbg)
        have HK16 := Lib.hid (HK.out.trans hk16)
        have HE4 := Lib.hid (show (e3 ++ z2 [(mn : Int)]).length = 20 + m6 + j * 8 by rw [List.length_append, HE3.out, z2_len]; simp only [List.length_cons, List.length_nil]; omega)
        clear hw16 hk16 HWR HF HK HU d4 HE3
        generalize e3 ++ z2 [(mn : Int)] = e4 at *
        have d4 : W16.cell? ⟨w.heap.size, 4, none⟩ = some (.slice ma mn mc) := row_cell HF16.out 4 rfl
        go_wp2_with fail
        clear d4
        go_loopg [75] mn (fun gn iv wr => ∃ i : Nat, i ≤ mn ∧ gn = mn - i ∧ iv = .int .i64 i ∧ Hid (WrB W3.heap.size wr g (e4 ++ (methods.take i).flatMap (methB pool))) ∧ Hid (FBk wr w.heap.size pa pn pc th su fa j fc ma mn mc) ∧ Hid (Keep1 g W3 wr))
        case atStart => exact ⟨0, by omega, by omega, by go_num, Lib.hid (by simpa using HW16.out), HF16, HK16⟩
        case round =>
          clear HW16 HF16 HK16
          obtain ⟨i, hi, rfl, rfl, HWR, HF, HK⟩ := hrel
          by_cases hli : i < mn
          · have HBW := Lib.hid (HK.out.below HB3.out (Nat.le_refl _) HWg.out)
            obtain ⟨b, off, m, rfl, _, hv, q⟩ := (HMD.out.below HBW.out).getC i hli
            have HFT := Lib.hid (show e4 ++ (methods.take (i + 1)).flatMap (methB pool) = e4 ++ (methods.take i).flatMap (methB pool) ++ methB pool m by rw [flat_take (methB pool) methods i m hv, List.append_assoc])
            have hll : (e4 ++ (methods.take i).flatMap (methB pool)).length + (14 + (codeB pool m).length) ≤ 1000000 := by
              have h1 := flat_le (methB pool) methods (i + 1)
              rw [flat_take (methB pool) methods i m hv, List.length_append, methB_len] at h1
              rw [List.length_append, HE4.out]
              omega
            have HMB := Lib.hid (show methB pool m = z2 [m.fl, m.nm, m.ds, 1, (findT pool [67, 111, 100, 101] : Int)] ++ z4 (codeB pool m).length ++ codeB pool m from rfl)
            have hR := HE.out m (List.mem_of_getElem? hv)
            have HCM := Lib.hid (fun (W : World) (gi bm : Nat) (hf : FBk W w.heap.size pa pn pc th su fa j fc (some ⟨b, off, none⟩) mn mc) (hm : MBk W bm m.fl m.nm m.ds m.st m.lo m.ca m.cn m.cc m.ta m.tn m.tc m.ma m.mn m.mc) (hb : Below w.heap.size w W) (hg : w.heap.size ≤ gi) (hwr : WrB (gi + 1) W gi []) =>
              wmeth_any w W gi w.heap.size bm pa pn pc pool th su fa j fc (some ⟨b, off, none⟩) mn mc m hf hm HLK.out hpn hR hb hg hwr (by omega))
            rw [HMB.out] at HFT
            obtain ⟨fl, nm, ds, st, lo, ca, cn, cc, code, ta, tn, tc, traps, na, nn, nc, maps⟩ := m
            dsimp only at HCM HFT hll
            generalize codeB pool ⟨fl, nm, ds, st, lo, ca, cn, cc, code, ta, tn, tc, traps, na, nn, nc, maps⟩ = cb at *
            generalize e4 ++ (methods.take i).flatMap (methB pool) = d at *
            have q0 : wr.cell? ⟨b, off + i * 8, none⟩ = some (.int .i64 fl) := q 0 (by omega)
            have q1 : wr.cell? ⟨b, off + i * 8 + 1, none⟩ = some (.int .i64 nm) := q 1 (by omega)
            have q2 : wr.cell? ⟨b, off + i * 8 + 2, none⟩ = some (.int .i64 ds) := q 2 (by omega)
            have q3 : wr.cell? ⟨b, off + i * 8 + 3, none⟩ = some (.int .i64 st) := q 3 (by omega)
            have q4 : wr.cell? ⟨b, off + i * 8 + 4, none⟩ = some (.int .i64 lo) := q 4 (by omega)
            have q5 : wr.cell? ⟨b, off + i * 8 + 5, none⟩ = some (.slice ca cn cc) := q 5 (by omega)
            have q6 : wr.cell? ⟨b, off + i * 8 + 6, none⟩ = some (.slice ta tn tc) := q 6 (by omega)
            have q7 : wr.cell? ⟨b, off + i * 8 + 7, none⟩ = some (.slice na nn nc) := q 7 (by omega)
            clear q hv HMB hR
            have hi1 : (i : Int) < mn := by omega
            have hb : Below wr.heap.size wr (wr.alloc (.cells #[.int .i64 fl, .int .i64 nm, .int .i64 ds, .int .i64 st, .int .i64 lo, .slice ca cn cc, .slice ta tn tc, .slice na nn nc] 48)) := below_1 _ _
            have HW19 := Lib.hid (HWR.out.below hb)
            have HF19 := Lib.hid (show FBk (wr.alloc (.cells #[.int .i64 fl, .int .i64 nm, .int .i64 ds, .int .i64 st, .int .i64 lo, .slice ca cn cc, .slice ta tn tc, .slice na nn nc] 48)) w.heap.size pa pn pc th su fa j fc (some ⟨b, off, none⟩) mn mc from row_below HF.out hb)
            have HK19 := Lib.hid (HK.out.trans (Keep1.of hb))
            have HM19 := Lib.hid (show MBk (wr.alloc (.cells #[.int .i64 fl, .int .i64 nm, .int .i64 ds, .int .i64 st, .int .i64 lo, .slice ca cn cc, .slice ta tn tc, .slice na nn nc] 48)) wr.heap.size fl nm ds st lo ca cn cc ta tn tc na nn nc from heap_alloc_last wr (.cells #[.int .i64 fl, .int .i64 nm, .int .i64 ds, .int .i64 st, .int .i64 lo, .slice ca cn cc, .slice ta tn tc, .slice na nn nc] 48))
            have htg : wr.heap.size ≠ g := by have := HWR.out.lt; omega
            have HB19 := Lib.hid (HBW.out.trans (hb.mono HBW.out.size))
            clear hb HWR HF HK HBW
            go_upto_region 19 with fail
            clear q0 q1 q2 q3 q4 q5 q6 q7
            generalize wr.alloc (.cells #[.int .i64 fl, .int .i64 nm, .int .i64 ds, .int .i64 st, .int .i64 lo, .slice ca cn cc, .slice ta tn tc, .slice na nn nc] 48) = W19 at *
            generalize wr.heap.size = bm at *
            have hSw : MFS bm w.heap.size fl nm ds pa pn pc W19.drew := MFS.below ⟨row_cell HM19.out 0 rfl, row_cell HM19.out 1 rfl, row_cell HM19.out 2 rfl, row_cell HF19.out 0 rfl⟩ (Below.refl _ _).drew
            have l0 := fun z (h : MFS bm w.heap.size fl nm ds pa pn pc z) => h.1
            have l1 := fun z (h : MFS bm w.heap.size fl nm ds pa pn pc z) => h.2.1
            have l2 := fun z (h : MFS bm w.heap.size fl nm ds pa pn pc z) => h.2.2.1
            have l3 := fun z (h : MFS bm w.heap.size fl nm ds pa pn pc z) => h.2.2.2
            refine wp_region_lex (MFS bm w.heap.size fl nm ds pa pn pc) [(0, true), (1, true), (2, true), (3, true), (4, true), (5, true), (6, true), (7, true), (8, true), (9, false), (10, false), (11, false)] (by kernel_rfl) (by kernel_rfl) (fun c a d v w h => by cases d <;> exact h) ?_
            iterate 9
              refine lex_step (fun K hK => ?_)
              simp only [lexOp, List.getElem?_toArray, List.getElem?_cons_succ, List.getElem?_cons_zero]
              rw [if_pos (by rfl)]
              apply Exists.intro
              refine ⟨fun w' hS' => ?_, hSw, ?_⟩
              · first | (go_simp <;> with_reducible rfl) | (go_simp; go_bits; with_reducible rfl)
              go_simp
              try go_bits
              refine hK _ _ ?_
              clear hK K
            refine lex_step (fun K hK => ?_)
            simp only [lexOp, List.getElem?_toArray, List.getElem?_cons_succ, List.getElem?_cons_zero]
            rw [if_pos (by rfl)]
            go_step
            have hbd : Below W19.heap.size W19 W19.drew := (Below.refl _ _).drew
            refine (HFB.out W19.drew (HLK.out.below (HB19.out.trans (hbd.mono HB19.out.size)))).mono ?_
            rintro e' W20 ⟨rfl, hb20⟩
            have hb20 := hbd.trans hb20
            have HW20 := Lib.hid (HW19.out.below hb20)
            have HF20 := Lib.hid (show FBk W20 w.heap.size pa pn pc th su fa j fc (some ⟨b, off, none⟩) mn mc from row_below HF19.out hb20)
            have HM20 := Lib.hid (show MBk W20 bm fl nm ds st lo ca cn cc ta tn tc na nn nc from row_below HM19.out hb20)
            have HK20 := Lib.hid (HK19.out.trans (Keep1.of hb20))
            clear hbd hb20 HW19 HF19 HM19 HK19 HB19 hSw l0 l1 l2 l3
            generalize findT pool [67, 111, 100, 101] = k at *
            go_simp
            refine ⟨⟨row_cell HM20.out 0 rfl, row_cell HM20.out 1 rfl, row_cell HM20.out 2 rfl, row_cell HF20.out 0 rfl⟩, hK _ _ ?_⟩
            clear hK K
            refine lex_step (fun K hK => ?_)
            simp only [lexOp, List.getElem?_toArray, List.getElem?_cons_succ, List.getElem?_cons_zero]
            rw [if_pos (by rfl)]
            go_step
            refine ⟨MFS.below ⟨row_cell HM20.out 0 rfl, row_cell HM20.out 1 rfl, row_cell HM20.out 2 rfl, row_cell HF20.out 0 rfl⟩ (below_1 _ _), hK _ _ ?_⟩
            clear hK K
            refine lex_step (fun K hK => ?_)
            simp only [lexOp, List.getElem?_toArray, List.getElem?_cons_succ, List.getElem?_cons_zero]
            rw [if_pos (by rfl)]
            go_step
            have HU := Lib.hid (u2_lit W20 g d HW20.out 5 [fl, nm, ds, 1, (k : Int)] rfl (by decide) (by omega))
            refine HU.out.mono ?_
            rintro e' W21 ⟨rfl, hw21, hk21⟩
            have HW21 := Lib.hid (hw21.mono HK20.out.size HGL.out)
            have HF21 := Lib.hid (show FBk W21 w.heap.size pa pn pc th su fa j fc (some ⟨b, off, none⟩) mn mc from hk21.blk HF20.out hbg)
            have HM21 := Lib.hid (show MBk W21 bm fl nm ds st lo ca cn cc ta tn tc na nn nc from hk21.blk HM20.out htg)
            have HK21 := Lib.hid (HK20.out.trans hk21)
            clear hw21 hk21 HW20 HF20 HM20 HK20 HU
            go_simp
            refine ⟨⟨row_cell HM21.out 0 rfl, row_cell HM21.out 1 rfl, row_cell HM21.out 2 rfl, row_cell HF21.out 0 rfl⟩, hK _ _ ?_⟩
            clear hK K
            refine lex_nil ?_
            have HB21 := Lib.hid (HK21.out.below HB3.out (Nat.le_refl _) HWg.out)
            have HLM := Lib.hid (show bm < W21.heap.size from row_lt HM21.out)
            have HZ := Lib.hid (sized_any W21 g (d ++ z2 [fl, nm, ds, 1, (k : Int)]) HW21.out 21 enter_meth #[.pointer (some ⟨w.heap.size, 0, none⟩), .pointer (some ⟨bm, 0, none⟩)] cb (by rw [List.length_append, z2_len]; simp only [List.length_cons, List.length_nil]; omega)
              (fun W gi hb hgi hwi => HCM.out W gi bm (row_below HF21.out hb) (row_below HM21.out hb) (HB21.out.trans (hb.mono HB21.out.size)) (Nat.le_trans HB21.out.size hgi) hwi))
            go_wp2_with fail
            refine HZ.out.mono ?_
            rintro e' W22 ⟨rfl, hw22, hk22⟩
            go_wp2_with fail
            go_roundg (mn - (i + 1))
            case measure => omega
            case rel => exact ⟨i + 1, by omega, rfl, by go_num, Lib.hid (by rw [HFT.out]; have h9 := hw22.mono HK21.out.size HGL.out; simp only [List.append_assoc] at h9 ⊢; exact h9), Lib.hid (hk22.blk HF21.out hbg), Lib.hid (HK21.out.trans hk22)⟩
          · obtain rfl : i = mn := by omega
            have HLY := Lib.hid (show methods.take i = methods by rw [List.take_of_length_le (by rw [HMn.out]; exact Nat.le_refl _)])
            rw [HLY.out] at HWR
            have HE5 := Lib.hid (show (e4 ++ methods.flatMap (methB pool)).length + 2 ≤ 1048576 by rw [List.length_append, HE4.out]; omega)
            generalize e4 ++ methods.flatMap (methB pool) = e5 at *
            have HU := Lib.hid (u2_lit wr g e5 HWR.out 1 [0] rfl (by decide) HE5.out)
            go_wp2_with fail
            refine HU.out.mono ?_
            rintro e W23 ⟨rfl, hw23, hk23⟩
            have HK23 := Lib.hid (HK.out.trans hk23)
            have HB23 := Lib.hid (HK23.out.below HB3.out (Nat.le_refl _) HWg.out)
            have HT := Lib.hid (show T = e5 ++ z2 [0] from HT.out)
            rw [← HT.out] at hw23
            obtain ⟨a9, n9, c9, hr9, hs9, hc9, hg9, ho9⟩ := hw23
            have HO9 := Lib.hid (own_mono (own_mono ho9 HK.out.size) HB3.out.size)
            have hcell : W23.cell? ⟨g, 0, none⟩ = some (.slice a9 n9 c9) := row_cell hr9 0 rfl
            clear hr9 hs9 ho9 hk23
            go_wp2_with fail
            go_ret2
            exact .inr ⟨HRT.out, _, _, rfl, HO9.out, HB23.out⟩
end Go.Proofs.Ytnfhiakdbakpgaa
/- klass: reading, in plain Lean. No condition. -/
namespace Go.Proofs.Ytnfhiakdbakpgaa
open Go.ChangeShapes Go.WideShapes Go.ChangeAt Go.RowKit
/-- Where a reader stands, and what is wrong. -/
abbrev St : Type := Nat × Int
abbrev RM (α : Type) : Type := St → α × St
def bindR {α β : Type} (f : RM α) (g : α → RM β) : RM β := fun s => g (f s).1 (f s).2
def pureR {α : Type} (a : α) : RM α := fun s => (a, s)
def getS (bs : List UInt8) (n : Nat) : RM Int := fun s => if s.2 ≠ 0 then (0, s) else ((getR bs s.1 n).1, (s.1 + n, (getR bs s.1 n).2))
def rowS {α : Type} (one : RM α) : Nat → RM (List α)
  | 0 => pureR []
  | n + 1 => fun s => if s.2 ≠ 0 then ([], s) else ((one s).1 :: (rowS one n (one s).2).1, (rowS one n (one s).2).2)
/-- Where something is wrong. -/
def badS (b : St → Bool) : RM Unit := fun s => if s.2 = 0 ∧ b s = true then ((), (s.1, 8)) else ((), s)
/-- So often, at most so many times. -/
def timesS {α : Type} (most : Int) (one : RM α) (n : Int) : RM (List α) := bindR (badS fun _ => decide (most < n)) fun _ => rowS one n.toNat
/-- What the next number is. -/
def mustOne (bs : List UInt8) (m : Nat) (s : St) (x : Int) : St := if (getS bs m s).2.2 = 0 ∧ (getS bs m s).1 ≠ x then ((getS bs m s).2.1, 8) else (getS bs m s).2
def mustS (bs : List UInt8) (m : Nat) (l : List Int) : RM Unit := fun s => ((), l.foldl (mustOne bs m) s)
def bytesS (bs : List UInt8) (n : Int) : RM (List UInt8) := fun s =>
  if s.2 ≠ 0 then ([], s) else if (bs.length : Int) - s.1 < n then ([], (s.1, 6)) else ((bs.drop s.1).take n.toNat, (s.1 + n.toNat, 0))
/-- Ahead of which its length stands. -/
def sizedS {α : Type} (bs : List UInt8) (one : RM α) : RM α := fun s =>
  if (one (getS bs 4 s).2).2.2 = 0 ∧ (((one (getS bs 4 s).2).2.1 : Int) - ((getS bs 4 s).2.1 : Int)) ≠ (getS bs 4 s).1 then ((one (getS bs 4 s).2).1, ((one (getS bs 4 s).2).2.1, 8)) else one (getS bs 4 s).2
def slotS (bs : List UInt8) : RM KS := bindR (getS bs 1) fun tg => if tg = 7 then bindR (getS bs 2) fun a => pureR ⟨tg, a⟩ else pureR ⟨tg, 0⟩
def slotsS (bs : List UInt8) (most : Int) : RM (List KS) := bindR (getS bs 2) fun n => timesS most (slotS bs) n
def kmapS (bs : List UInt8) : RM KP := bindR (getS bs 2) fun pl => bindR (slotsS bs 64) fun loc => bindR (slotsS bs 64) fun stk => pureR ⟨pl, none, 0, 0, loc, none, 0, 0, stk⟩
def trapS (bs : List UInt8) : RM KT := bindR (getS bs 2) fun a => bindR (getS bs 2) fun b => bindR (getS bs 2) fun c => bindR (getS bs 2) fun d => pureR ⟨a, b, c, d⟩
def mapsS (bs : List UInt8) : RM (List KP) := bindR (getS bs 2) fun n => bindR (badS fun _ => decide (n = 0)) fun _ => timesS 255 (kmapS bs) n
def tailS (bs : List UInt8) (L : List KV) (k : Int) : RM (List KP) :=
  if k = 0 then pureR [] else if k = 1 then bindR (mustS bs 2 [(findT L sMap : Int)]) fun _ => sizedS bs (mapsS bs) else fun s => ([], (s.1, 8))
def kcodeS (bs : List UInt8) (L : List KV) (fl nm ds : Int) : RM KM := bindR (getS bs 2) fun st => bindR (getS bs 2) fun lo => bindR (getS bs 4) fun cn => bindR (bytesS bs cn) fun code =>
  bindR (getS bs 2) fun tn => bindR (timesS 255 (trapS bs) tn) fun traps => bindR (getS bs 2) fun k => bindR (tailS bs L k) fun maps => pureR ⟨fl, nm, ds, st, lo, none, 0, 0, code, none, 0, 0, traps, none, 0, 0, maps⟩
def fieldS (bs : List UInt8) : RM KD := bindR (getS bs 2) fun a => bindR (getS bs 2) fun b => bindR (getS bs 2) fun c => bindR (mustS bs 2 [0]) fun _ => pureR ⟨a, b, c⟩
def methS (bs : List UInt8) (L : List KV) : RM KM := bindR (getS bs 2) fun a => bindR (getS bs 2) fun b => bindR (getS bs 2) fun c => bindR (mustS bs 2 [1, (findT L sCode : Int)]) fun _ => sizedS bs (kcodeS bs L a b c)
/-- A class behind its pool. -/
def restS (bs : List UInt8) (L : List KV) : RM KF := bindR (mustS bs 2 [33]) fun _ => bindR (getS bs 2) fun th => bindR (getS bs 2) fun su => bindR (mustS bs 2 [0]) fun _ => bindR (getS bs 2) fun fn => bindR (timesS 64 (fieldS bs) fn) fun fields =>
  bindR (getS bs 2) fun mn => bindR (timesS 64 (methS bs L) mn) fun methods => bindR (mustS bs 2 [0]) fun _ => pureR ⟨none, 0, 0, L, th, su, none, 0, 0, fields, none, 0, 0, methods⟩
def kf0 : KF := ⟨none, 0, 0, [], 0, 0, none, 0, 0, [], none, 0, 0, []⟩
def headS (bs : List UInt8) : St := (mustS bs 2 [0, 45] (mustS bs 4 [3405691582] (0, 0)).2).2
def parseF (bs : List UInt8) : KF × Int :=
  if (headS bs).2 ≠ 0 then (kf0, (headS bs).2)
  else if (parseK (bs.drop (headS bs).1)).1 ≠ 0 then (kf0, (parseK (bs.drop (headS bs).1)).1)
  else
    let R := restS bs (parseK (bs.drop (headS bs).1)).2.2 ((headS bs).1 + (parseK (bs.drop (headS bs).1)).2.1, 0)
    if R.2.2 ≠ 0 then (kf0, R.2.2) else if R.2.1 ≠ bs.length ∨ classOk R.1 = false then (kf0, 8) else (R.1, 0)
/-- Without the places of its rows. -/
def KP.p (p : KP) : KP := ⟨p.pl, none, 0, 0, p.loc, none, 0, 0, p.stk⟩
def KM.p (m : KM) : KM := ⟨m.fl, m.nm, m.ds, m.st, m.lo, none, 0, 0, m.code, none, 0, 0, m.traps, none, 0, 0, m.maps.map KP.p⟩
def KF.p (f : KF) : KF := ⟨none, 0, 0, f.pool, f.th, f.su, none, 0, 0, f.fields, none, 0, 0, f.methods.map KM.p⟩
/-- A state that may be, over so many bytes. -/
def StOk (n : Nat) (s : St) : Prop := (s.2 = 0 → s.1 ≤ n) ∧ s.1 ≤ n + 8
theorem getR_val (bs : List UInt8) (p n : Nat) (hn : n ≤ 4) : 0 ≤ (getR bs p n).1 ∧ (getR bs p n).1 < 4294967296 := by
  have h0 : (0 : Int) ≤ 0 ∧ (0 : Int) < 4294967296 := by omega
  unfold getR
  split
  · exact h0
  · split
    · exact h0
    · have h1 := getN_lt ((bs.drop ((p : Int)).toNat).take ((n : Int)).toNat)
      have h2 : ((bs.drop ((p : Int)).toNat).take ((n : Int)).toNat).length ≤ 4 := by rw [List.length_take]; omega
      have h3 : 256 ^ ((bs.drop ((p : Int)).toNat).take ((n : Int)).toNat).length ≤ 256 ^ 4 := Nat.pow_le_pow_right (by omega) h2
      have h4 : (256 ^ 4 : Nat) = 4294967296 := by decide
      constructor
      · show (0 : Int) ≤ ((getN _ : Nat) : Int)
        omega
      · show ((getN _ : Nat) : Int) < 4294967296
        omega
theorem getR_two (bs : List UInt8) (p n : Nat) (hn : n ≤ 2) : 0 ≤ (getR bs p n).1 ∧ (getR bs p n).1 < 65536 := by
  have h0 : (0 : Int) ≤ 0 ∧ (0 : Int) < 65536 := by omega
  unfold getR
  split
  · exact h0
  · split
    · exact h0
    · have h1 := getN_lt ((bs.drop ((p : Int)).toNat).take ((n : Int)).toNat)
      have h2 : ((bs.drop ((p : Int)).toNat).take ((n : Int)).toNat).length ≤ 2 := by rw [List.length_take]; omega
      have h3 : 256 ^ ((bs.drop ((p : Int)).toNat).take ((n : Int)).toNat).length ≤ 256 ^ 2 := Nat.pow_le_pow_right (by omega) h2
      have h4 : (256 ^ 2 : Nat) = 65536 := by decide
      constructor
      · show (0 : Int) ≤ ((getN _ : Nat) : Int)
        omega
      · show ((getN _ : Nat) : Int) < 65536
        omega
theorem getR_err (bs : List UInt8) (p n : Nat) (h1 : 1 ≤ n) (hn : n ≤ 8) : ((getR bs p n).2 = 0 ∧ p + n ≤ bs.length) ∨ ((getR bs p n).2 = 6 ∧ bs.length < p + n) := by
  unfold getR
  rw [if_neg (by omega)]
  split
  · exact .inr ⟨rfl, by omega⟩
  · exact .inl ⟨rfl, by omega⟩
theorem getS_ok (bs : List UInt8) (n : Nat) (h1 : 1 ≤ n) (hn : n ≤ 8) (s : St) (h : StOk bs.length s) : StOk bs.length (getS bs n s).2 := by
  unfold getS
  split
  · exact h
  · rename_i h0
    have h2 := h.1 (by omega)
    rcases getR_err bs s.1 n h1 hn with ⟨e, hp⟩ | ⟨e, hp⟩
    · exact ⟨fun _ => hp, by show s.1 + n ≤ _; omega⟩
    · exact ⟨fun h => by simp only [e] at h; omega, by show s.1 + n ≤ _; omega⟩
theorem getS_val (bs : List UInt8) (n : Nat) (hn : n ≤ 4) (s : St) : 0 ≤ (getS bs n s).1 ∧ (getS bs n s).1 < 4294967296 := by
  unfold getS
  split
  · exact ⟨by show (0 : Int) ≤ 0; omega, by show (0 : Int) < _; omega⟩
  · exact getR_val bs s.1 n hn
theorem getS_two (bs : List UInt8) (n : Nat) (hn : n ≤ 2) (s : St) : 0 ≤ (getS bs n s).1 ∧ (getS bs n s).1 < 65536 := by
  unfold getS
  split
  · exact ⟨by show (0 : Int) ≤ 0; omega, by show (0 : Int) < _; omega⟩
  · exact getR_two bs s.1 n hn
theorem badS_ok (n : Nat) (b : St → Bool) (s : St) (h : StOk n s) : StOk n (badS b s).2 := by
  unfold badS
  split
  · exact ⟨fun h => by simp at h, h.2⟩
  · exact h
theorem mustOne_ok (bs : List UInt8) (m : Nat) (h1 : 1 ≤ m) (h8 : m ≤ 8) (s : St) (x : Int) (h : StOk bs.length s) : StOk bs.length (mustOne bs m s x) := by
  have h2 := getS_ok bs m h1 h8 s h
  unfold mustOne
  split
  · exact ⟨fun h => by simp at h, h2.2⟩
  · exact h2
end Go.Proofs.Ytnfhiakdbakpgaa
/- slices.Clone of bytes. No condition. -/
namespace Go.Proofs.Ytnfhiakdbakpgaa
open Go.ChangeShapes Go.WideShapes Go.ChangeAt Go.RowKit
theorem oneB : OneE 29 5 (.int .u8 0) 1 := ⟨by kernel_rfl, by kernel_rfl, rfl⟩
theorem run_eqlInNil {P : Program} (w : World) (d : Nat) (t e : TypeId) (a : Option Addr) (l c : Nat) (h : P.underlying t = some (.slice e)) : (Op.equalIn (d + 1) t (.slice a l c) (.slice none 0 0)).run P w = .ok a.isNone w := by
  cases a <;> simp [Op.equalIn, run_underlying h]
theorem run_equalNil {P : Program} (w : World) (t e : TypeId) (a : Option Addr) (l c : Nat) (h : P.underlying t = some (.slice e)) : (Op.equal t (.slice a l c) (.slice none 0 0)).run P w = .ok a.isNone w := run_eqlInNil w 9999 t e a l c h
theorem run_eqlNil {P : Program} (w : World) (t e : TypeId) (a : Option Addr) (l c : Nat) (h : P.underlying t = some (.slice e)) : (binOp .eql t (.slice a l c) (.slice none 0 0)).run P w = .ok (.bool a.isNone) w := by
  simp [binOp, run_equalNil w t e a l c h]
set_option maxRecDepth 100000 in
set_option maxHeartbeats 1000000 in
theorem Clone_any (w : World) (a : Option Addr) (n cap : Nat) (bs : List UInt8) (hs : Sl encB w a n bs) (hn : n ≤ 16777216) :
    Calls Try.prog 85 #[.slice a n cap] w (OwnRet encB 5 w.heap.size w bs) := by
  have HS := Lib.hid hs
  cases a with
  | none =>
    have h0 : bs = [] := by
      obtain ⟨hl, hc⟩ := hs
      rcases Nat.eq_zero_or_pos n with h | h
      · exact List.eq_nil_of_length_eq_zero (by omega)
      · obtain ⟨b, off, ha, _⟩ := hc h; cases ha
    subst h0
    clear hs
    have hq := fun w' : World => run_eqlNil (P := Try.prog) w' 29 5 none n cap Try.underlying29
    go_enter Try.func85, Try.ntmps85
    go_wp2_with fail
    go_ret
    exact ⟨_, 0, rfl, World.ownsRow_nil _ _ _ _, Below.refl _ _⟩
  | some x =>
    clear hs
    have hq := fun w' : World => run_eqlNil (P := Try.prog) w' 29 5 (some x) n cap Try.underlying29
    have HO0 := Lib.hid (own_empty w w.heap.size 5 (Nat.le_refl _))
    have HB0 := Lib.hid ((Below.refl w.heap.size w).alloc (Nat.le_refl _) (.cells #[] 5))
    go_enter Try.func85, Try.ntmps85
    go_wp2_with (at_builtin; first
      | (refine wpList_app1 oneB rfl _ _ _ rfl w.heap.size _ _ _ rfl HO0.out _ _ _ rfl ((HS.out.below HB0.out).src encB_cell Try.underlying29 _) (by omega) (by unfold maxLen; omega) HB0.out.size ?_; intro v2 w2 hown2 hg2 hb2; have HO2 := Lib.hid hown2; have HB2 := Lib.hid (HB0.out.trans hb2); clear hown2 hg2 hb2))
    go_ret
    exact ⟨_, _, rfl, by simpa using HO2.out, HB2.out⟩
end Go.Proofs.Ytnfhiakdbakpgaa
