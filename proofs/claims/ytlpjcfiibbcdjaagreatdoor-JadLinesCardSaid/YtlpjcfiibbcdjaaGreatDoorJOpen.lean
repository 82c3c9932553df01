/- jad: what came in, opened; what the laid variables give. No condition. -/
import Derived.Test.YtlpjcfiibbcdjaaGreatDoorJLawP
import Derived.Test.YtlpjcfiibbcdjaaGreatDoorJLawV
import Derived.Test.YtlpjcfiibbcdjaaGreatDoorRows
import Derived.SizedLaws
import Derived.Stop.LaidErr
import Derived.Shelf.Vars
import Derived.Lib.LaidTab
import Derived.LaidHandle
import Derived.OpenShut
import Derived.Lib.SmallJoins
import Derived.WideShapes
import Derived.ProofKit
namespace Go.Proofs.YtlpjcfiibbcdjaaGreatDoor
open Go.ChangeShapes Go.WideShapes Go.ChangeAt Go.RowKit Go.Joins Go.Deep
theorem reach_eqJ : reachBytes = 140737488351232 := rfl
section
variable {H : Type} {enc : TypeId × Value → H} {w : World} {r : Reach} {b0 : Nat} {v : Value} {d : DataW H} {p : List MemPlace}
set_option maxRecDepth 100000 in
theorem str_ofJ {fuel : Nat} {v : Value} {x : DataW H × List MemPlace} (hf : DataW.trod enc Tryz.prog w 0 (fun _ => true) true fuel 9 [v] = some x) (hw : ∀ m ∈ x.1.weights Tryz.prog 9, m ≤ reachBytes) : ∃ s : List UInt8, v = .string ⟨s.toArray⟩ ∧ s.length ≤ 281474976710656 := by
  obtain ⟨s, hcs, hx, h2⟩ := DataW.trod_string Tryz.underlying9 hf
  simp at hcs
  subst hcs hx
  have h1 := hw _ (by simp [DataW.weights]; rfl)
  rw [reach_eqJ] at h1
  refine ⟨s.data.toList, by simp [bytes_str], by simpa using (by omega : s.size ≤ 281474976710656)⟩
set_option maxRecDepth 100000 in
theorem int_ofJ {fuel : Nat} {v : Value} {x : DataW H × List MemPlace} (hf : DataW.trod enc Tryz.prog w 0 (fun _ => true) true fuel 3 [v] = some x) : ∃ k : Int, v = .int .i64 k := by
  obtain ⟨a, e, _, _⟩ := DataW.trod_int Tryz.underlying3 hf
  simp at e
  exact ⟨a, e⟩
set_option maxRecDepth 100000 in
theorem ver_ofJ {fuel : Nat} {c0 c1 c2 : Value} {x : DataW H × List MemPlace} (hf : DataW.trod enc Tryz.prog w 0 (fun _ => true) true fuel 23 [c0, c1, c2] = some x) : ∃ a b c : Int, c0 = .int .i64 a ∧ c1 = .int .i64 b ∧ c2 = .int .i64 c := by
  obtain ⟨xs, m, _, _, hcl, hl, hg⟩ := DataW.trod_array Tryz.underlying23 hf
  have hc1 : Tryz.prog.cellsOf 3 = 1 := by kernel_rfl
  have g0 := hg 0 (by omega)
  have g1 := hg 1 (by omega)
  have g2 := hg 2 (by omega)
  rw [hc1] at g0 g1 g2
  simp only [List.getElem?_eq_getElem (show 0 < xs.length by omega), List.getElem?_eq_getElem (show 1 < xs.length by omega), List.getElem?_eq_getElem (show 2 < xs.length by omega)] at g0 g1 g2
  obtain ⟨a, ha⟩ := int_ofJ (v := c0) (by simpa using g0)
  obtain ⟨b, hb⟩ := int_ofJ (v := c1) (by simpa using g1)
  obtain ⟨c, hc⟩ := int_ofJ (v := c2) (by simpa using g2)
  exact ⟨a, b, c, ha, hb, hc⟩
set_option maxRecDepth 100000 in
theorem hash_ofJ {fuel : Nat} {cl : List Value} {x : DataW H × List MemPlace} (hcl : cl.length = 32) (hf : DataW.trod enc Tryz.prog w 0 (fun _ => true) true fuel 24 cl = some x) : ∃ bs : List UInt8, bs.length = 32 ∧ cl = bs.map encB := by
  obtain ⟨xs, m, _, _, _, hl, hg⟩ := DataW.trod_array Tryz.underlying24 hf
  have hc1 : Tryz.prog.cellsOf 5 = 1 := by kernel_rfl
  have key : ∀ i, i < 32 → ∃ c : UInt8, cl[i]? = some (encB c) := by
    intro i hi
    have h1 := hg i hi
    rw [hc1, Nat.mul_one, List.getElem?_eq_getElem (by omega)] at h1
    have hi2 : i < cl.length := by omega
    have e : (List.drop i cl).take 1 = [cl[i]] := by
      rw [List.drop_eq_getElem_cons hi2]; rfl
    rw [e] at h1
    obtain ⟨a, ea, _, wa⟩ := DataW.trod_int Tryz.underlying5 h1
    have hb : 0 ≤ a ∧ a < 256 := by
      simp [Lit.wf, IntKind.min, IntKind.max, IntKind.signed, IntKind.bits] at wa
      omega
    refine ⟨UInt8.ofNat a.toNat, ?_⟩
    rw [← encB_of hb.1 hb.2, List.getElem?_eq_getElem hi2]
    simpa using ea
  clear hg
  have all : ∀ n, n ≤ 32 → ∃ bs : List UInt8, bs.length = n ∧ cl.take n = bs.map encB := by
    intro n
    induction n with
    | zero => exact fun _ => ⟨[], rfl, by simp⟩
    | succ n ih =>
      intro hn
      obtain ⟨bs, h1, h2⟩ := ih (by omega)
      obtain ⟨c, hc⟩ := key n (by omega)
      have hlt : n < cl.length := by omega
      rw [List.getElem?_eq_getElem hlt] at hc
      refine ⟨bs ++ [c], by simp [h1], ?_⟩
      rw [List.take_succ_eq_append_getElem hlt, h2, List.map_append, Option.some.inj hc]
      rfl
  obtain ⟨bs, h1, h2⟩ := all 32 (Nat.le_refl _)
  exact ⟨bs, h1, by rw [← h2, List.take_of_length_le (by omega)]⟩
theorem cells_jad : Tryz.prog.cellsOf JadT = 38 := by kernel_rfl
theorem cells_ver : Tryz.prog.cellsOf 23 = 3 := by kernel_rfl
set_option maxRecDepth 100000 in
theorem open_jad (hv : Value.okWide Tryz.prog w r b0 26 v) (h : DataW.Trod enc Tryz.prog w 0 (fun _ => true) true 26 v d p) (hw : ∀ m ∈ d.weights Tryz.prog 26, m ≤ reachBytes) :
    ∃ j : JD, v = j.val ∧ j.hash.length = 32 ∧ j.name.length ≤ 281474976710656 ∧ j.main.length ≤ 281474976710656 := by
  obtain ⟨cs, rfl, hsz⟩ := okWide_struct Tryz.underlying26 hv
  obtain ⟨fuel, hf⟩ := h
  obtain ⟨cl⟩ := cs
  have hl : cl.length = 38 := hsz.trans cells_jad
  match cl, hl with
  | c0 :: c1 :: c2 :: c3 :: c4 :: c5 :: tl, hl =>
    have htl : tl.length = 32 := by simpa using hl
    have hf : DataW.trod enc Tryz.prog w 0 (fun _ => true) true fuel 26 (c0 :: c1 :: c2 :: c3 :: c4 :: c5 :: tl) = some (d, p) := hf
    obtain ⟨xs, k, _, hxe, _, hlen, hg⟩ := DataW.trod_struct Tryz.underlying26 hf
    match xs, hlen with
    | [y0, y1, y2, y3, y4], _ =>
      have g0 : DataW.trod enc Tryz.prog w 0 (fun _ => true) true k 9 [c0] = some y0 := hg 0 _ rfl
      have g1 : DataW.trod enc Tryz.prog w 0 (fun _ => true) true k 23 [c1, c2, c3] = some y1 := hg 1 _ rfl
      have g2 : DataW.trod enc Tryz.prog w 0 (fun _ => true) true k 9 [c4] = some y2 := hg 2 _ rfl
      have g3 : DataW.trod enc Tryz.prog w 0 (fun _ => true) true k 3 [c5] = some y3 := hg 3 _ rfl
      have g4 : DataW.trod enc Tryz.prog w 0 (fun _ => true) true k 24 (tl.take 32) = some y4 := hg 4 _ rfl
      rw [List.take_of_length_le (by omega)] at g4
      have hd : d = .agg [y0.1, y1.1, y2.1, y3.1, y4.1] := congrArg Prod.fst hxe
      subst hd
      have hx' : ∀ m ∈ DataW.weightsEach Tryz.prog [9, 23, 9, 3, 24] [y0.1, y1.1, y2.1, y3.1, y4.1], m ≤ reachBytes := fun m hm => hw m (by
        simp only [DataW.weights, Tryz.underlying26]
        exact hm)
      obtain ⟨nm, rfl, hn⟩ := str_ofJ g0 fun m hm => hx' m (DataW.weights_mem_each (j := 0) rfl rfl m hm)
      obtain ⟨a, b, c, rfl, rfl, rfl⟩ := ver_ofJ g1
      obtain ⟨mn, rfl, hm⟩ := str_ofJ g2 fun m hm => hx' m (DataW.weights_mem_each (j := 2) rfl rfl m hm)
      obtain ⟨sz, rfl⟩ := int_ofJ g3
      obtain ⟨bs, hb, rfl⟩ := hash_ofJ htl g4
      exact ⟨⟨nm, a, b, c, mn, sz, bs⟩, rfl, hb, hn, hm⟩
set_option maxRecDepth 100000 in
theorem open_ver (hv : Value.okWide Tryz.prog w r b0 23 v) (h : DataW.Trod enc Tryz.prog w 0 (fun _ => true) true 23 v d p) :
    ∃ a b c : Int, v = .agg #[.int .i64 a, .int .i64 b, .int .i64 c] := by
  have hu := Tryz.underlying23
  simp only [Value.okWide, hu] at hv
  obtain ⟨A, rfl, _, _⟩ := hv
  obtain ⟨fuel, hf⟩ := h
  obtain ⟨xs, m, _, _, hcl, hl, hg⟩ := DataW.trod_array hu hf
  rw [cells_ver] at hcl
  obtain ⟨cl⟩ := A
  have hl3 : cl.length = 3 := by simpa [Value.cells] using hcl
  match cl, hl3 with
  | [c0, c1, c2], _ =>
    obtain ⟨a, b, c, rfl, rfl, rfl⟩ := ver_ofJ (by exact hf)
    exact ⟨a, b, c, rfl⟩
set_option maxRecDepth 100000 in
theorem open_strJ (hv : Value.okWide Tryz.prog w r b0 9 v) (h : DataW.Trod enc Tryz.prog w 0 (fun _ => true) true 9 v d p) (hw : ∀ m ∈ d.weights Tryz.prog 9, m ≤ reachBytes) :
    ∃ s : List UInt8, v = .string ⟨s.toArray⟩ ∧ s.length ≤ 281474976710656 := by
  obtain ⟨s, rfl, rfl, _, _⟩ := Go.ChangeMaps.open_string Tryz.underlying9 hv h
  have h1 := hw _ (by simp [DataW.weights]; rfl)
  rw [reach_eqJ] at h1
  refine ⟨s.data.toList, by simp [bytes_str], by simpa using (by omega : s.size ≤ 281474976710656)⟩
end
/-! ### What the condition gives the walks -/
theorem gMax : Tryz.prog.globalNamed "internal/bytealg.MaxLen" = some 0 := by kernel_rfl
theorem starE : "*" ++ "errors.errorString" = "*errors.errorString" := by decide
theorem rowE (u : TypeId) (h : Tryz.prog.typeName? 3 u = some "*errors.errorString") : u = 141 :=
  typeName_ptr_named (nm := "errors.errorString") (by rw [starE]; kernel_rfl) (by kernel_rfl) (by decide) u (by rw [starE]; exact h)
theorem cellsE : Tryz.prog.cellsOf 143 = 1 := by kernel_rfl
theorem cellsS : Tryz.prog.cellsOf 9 = 1 := by kernel_rfl
theorem any_of {α : Type} {o : Option α} (h : o.isSome = true) : ∃ x, o = some x := Option.isSome_iff_exists.1 h
theorem pow_tab {H : Type} : (Rows.laid_internal_strconv_uint64pow10 : DataW H) = Lib.tabData .u64 Lib.pow10Tab := by
  unfold Rows.laid_internal_strconv_uint64pow10 Lib.tabData Lib.pow10Tab
  rfl
theorem vw_of {W : World} {r : List (String × DataW Unit)} (hsh : W.ShapedOpen Tryz.prog)
    (hL : laidMet Tryz.prog (("math/bits.deBruijn32tab", Rows.laid_math_bits_deBruijn32tab) :: ("math/bits.deBruijn64tab", Rows.laid_math_bits_deBruijn64tab) :: ("internal/strconv.uint64pow10", Rows.laid_internal_strconv_uint64pow10) :: ("unicode/utf8.acceptRanges", Rows.laid_unicode_utf8_acceptRanges) :: ("strconv.ErrRange", Rows.laid_strconv_ErrRange) :: ("strconv.ErrSyntax", Rows.laid_strconv_ErrSyntax) :: r) W) : VW W := by
  have h3 := hL.tail.tail
  have h5 := h3.tail.tail
  have h6 := h5.tail
  refine ⟨?_, ?_, ?_, ?_⟩
  · exact cell_of_shapedOpen_int (t := 3) (k := .i64) hsh (g := 0) (of_decide_eq_true (by kernel_rfl)) (zero := #[.int .i64 0]) (by kernel_rfl) rfl (by kernel_rfl) (by kernel_rfl) Tryz.underlying3
  · rw [pow_tab] at h3
    exact Lib.tabIs_of_head (t := 123) (e := 108) (g := 1) (by kernel_rfl) (by kernel_rfl) Tryz.underlying123 Tryz.underlying108 (by kernel_rfl) (by kernel_rfl) h3
  · obtain ⟨a, s, hv, _, _, _⟩ := laid_sentinel (g := 4) (ti := 69) h6 (by kernel_rfl) (by kernel_rfl) Tryz.underlying69 rowE Tryz.underlying141 Tryz.underlying143 rfl rfl Tryz.underlying9 cellsE cellsS
    exact ⟨_, _, hv⟩
  · obtain ⟨a, s, hv, _, _, _⟩ := laid_sentinel (g := 5) (ti := 69) h5 (by kernel_rfl) (by kernel_rfl) Tryz.underlying69 rowE Tryz.underlying141 Tryz.underlying143 rfl rfl Tryz.underlying9 cellsE cellsS
    exact ⟨_, _, hv⟩
/-- The wrap that keeps both the condition and the world's shape. -/
theorem handed_and_shaped {H : Type} {enc : TypeId × Value → H} {a : Assume} {C : Checked} {os : Os} {f : FuncId} {fn : Func} {s : ChangeSpec} {conds : List PathCond} {apart fresh handsOn again : Bool} {X : World → Array Value → Prop}
    (hX : ∀ (w w' : World) (args : Array Value), w.heap = w'.heap → X w args → X w' args)
    (own : ownKnob C.prog.godebug = none) (started : os.Started) (noInit : C.prog.inits.idxOf? f = none) (hfn : C.prog.funcs[f]? = some fn)
    (witness : ∃ (w : World) (tape : Tape) (i : Input), w.os = os ∧ (w.forCall tape i).Shaped C.prog ∧ i.vars = [] ∧ Input.okWide C.prog (w.forCall tape i) .any w.heap.size f i ∧
      ((s.pre enc C.prog fn conds apart (w.forCall tape i).memory i.args ∧ X (w.forCall tape i).memory i.args) ∧ sizedMet enc C.prog fn (OpenSpec.ofChange s) apart (w.forCall tape i).memory i.args) ∧ a.holds C.prog (lone (Frame.enter C.prog f i.args .normal) [] (w.forCall tape i)))
    (contract : ∀ (W : World) (base : Nat) (args : Array Value) (ds gs : List (DataW H)) (before : List MemPlace),
      (∀ (j : Nat) t v, fn.params[j]? = some t → args[j]? = some v → Value.okWide C.prog W .any base t v) →
      DataW.Whole enc C.prog fn.params.toList s.vars apart W args.toList ds gs before →
      conds.all (PathCond.test C.prog ⟨fn.params.toList, ds, s.plain.varTypes C.prog, gs⟩) = true →
      (DataW.weightsEach C.prog (fn.params.toList ++ s.plain.varTypes C.prog) (ds ++ gs)).all (· ≤ reachBytes) = true → X W args → W.ShapedOpen C.prog →
      a.holds C.prog (lone (Frame.enter C.prog f args .normal) [] W) →
      Calls C.prog f args W fun e W' => ∃ v, e = .returned v ∧ s.post enc C.prog fn apart fresh handsOn again W args v W') :
    ReturnsInHanded a C os f .any (fun w args => (s.pre enc C.prog fn conds apart w args ∧ X w args) ∧ sizedMet enc C.prog fn (OpenSpec.ofChange s) apart w args) (s.post enc C.prog fn apart fresh handsOn again) := by
  refine returnsInHanded_of_calls own started noInit witness ?_
  intro w tape i _ hsh _ hok hpre hholds
  obtain ⟨_, _, _, fn', hfn', _, _, _, _, hval⟩ := hok
  have e : fn' = fn := Option.some.inj (hfn'.symm.trans hfn)
  subst e
  obtain ⟨⟨⟨ds, gs, before, hw, hc⟩, hx⟩, hz⟩ := hpre
  have hw' := DataW.Whole.of_heap (w' := w.forCall tape i) (by rfl) hw
  refine (contract (w.forCall tape i) w.heap.size i.args ds gs before hval hw' hc (hz.weights hw) (hX _ _ _ (by rfl) hx) hsh hholds).mono fun e W' ⟨v, he, hp⟩ => ?_
  subst he
  exact ChangeSpec.post_blind hp
end Go.Proofs.YtlpjcfiibbcdjaaGreatDoor
