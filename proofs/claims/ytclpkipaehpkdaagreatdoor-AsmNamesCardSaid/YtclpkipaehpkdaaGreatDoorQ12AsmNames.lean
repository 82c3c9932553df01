/- asm: own texts, merged (wip/merge2.py). No condition. -/
import Derived.Test.YtclpkipaehpkdaaGreatDoorQ11AsmNames
set_option linter.unusedVariables false
set_option linter.unusedSimpArgs false
namespace Go.Proofs.YtclpkipaehpkdaaGreatDoor
open Go.ChangeShapes Go.WideShapes Go.ChangeAt Go.RowKit
def insX (r : RW) : IN := ⟨r.op, 0, 0, [], [], [], []⟩
def memOp (op : Nat) : Bool := decide (op = 178) || (decide (op = 179) || (decide (op = 180) || decide (op = 181)))
def invOp (op : Nat) : Bool := decide (op = 182) || decide (op = 184)
def insV (K : List KV) (L : List RW) (r : RW) : IN :=
  if formN r.op = 7 then { insX r with n := (((ixOf L r.a).getD 0 : Nat) : Int) }
  else if formN r.op = 8 then { insX r with n := r.a, m := r.b }
  else if formN r.op = 5 then conX K (insX r) r.a.toNat
  else if formN r.op = 6 then
    (if r.op = 20 then conX K (insX r) r.a.toNat
     else if memOp r.op then memX K (insX r) r.a 9
     else if invOp r.op then memX K (insX r) r.a 10
     else { insX r with cl := (classAt K r.a).1 })
  else { insX r with n := r.a }
def insC (K : List KV) (r : RW) : Bool :=
  if formN r.op = 7 then true
  else if formN r.op = 8 then true
  else if formN r.op = 5 then conC (conX K (insX r) r.a.toNat)
  else if formN r.op = 6 then
    (if r.op = 20 then conC (conX K (insX r) r.a.toNat)
     else if memOp r.op then memC typeB K r.a 9
     else if invOp r.op then memC methB K r.a 10
     else aclsB K r.a (decide (r.op ≠ 187)))
  else true
theorem infoIns : (Tryz.prog.info? InsT).map (·.size) = some 7 := by kernel_rfl
theorem oneI (x : IN) : x.cells.toArray.all (·.oneCell') = true := by
  simp [IN.cells, Value.oneCell']
structure InS (w0 w : World) (g : Nat) (a : Option Addr) (n cap : Nat) (K : List KV) (er : Int) (gr gz gx : Nat) (r : RW) (x : IN) (C : Bool) (er0 : Int) : Prop where
  k : LfI w g a n cap K er gx x
  raw : w.heap[gr]? = some (.cells r.cells.toArray 118 (0, 0))
  zero : ∃ z : IN, BlkI gz z w
  keep : KeepP (fun k => k = g) w0 w
  e : er = 0 ↔ er0 = 0 ∧ C = true
  hr : w0.heap.size ≤ gr
  hz : w0.heap.size ≤ gz
  hx : w0.heap.size ≤ gx
  nzx : gz ≠ gx
  nrx : gr ≠ gx
  nrz : gr ≠ gz
theorem InS.put {w0 w : World} {g : Nat} {a : Option Addr} {n cap : Nat} {K : List KV} {er : Int} {gr gz gx : Nat} {r : RW} {x x' : IN} {C : Bool} {er0 : Int} (h : InS w0 w g a n cap K er gr gz gx r x C er0) (o : Nat) (v : Value) (hi : BlkI gx x' (w.setCell ⟨gx, o, none⟩ v)) :
    InS w0 (w.setCell ⟨gx, o, none⟩ v) g a n cap K er gr gz gx r x' C er0 := by
  obtain ⟨z, hz⟩ := h.zero
  exact ⟨h.k.put o v hi, heap_other h.raw h.nrx _ _, ⟨z, heap_other hz h.nzx _ _⟩, h.keep.set (.inr h.hx) o v, h.e, h.hr, h.hz, h.hx, h.nzx, h.nrx, h.nrz⟩
theorem InS.call {w0 w w' : World} {g : Nat} {a : Option Addr} {n cap : Nat} {K : List KV} {er er' : Int} {gr gz gx : Nat} {r : RW} {x x' : IN} {er0 : Int} {C : Bool} (h : InS w0 w g a n cap K er gr gz gx r x true er0) (hk : LfI w' g a n cap K er' gx x') (hp : KeepP (fun k => k = g ∨ k = gx) w w') (he : er' = 0 ↔ er = 0 ∧ C = true) (hg : g < w0.heap.size) :
    InS w0 w' g a n cap K er' gr gz gx r x' C er0 := by
  obtain ⟨z, hz⟩ := h.zero
  have h1 := h.hr
  have h2 := h.hz
  refine ⟨hk, hp.row h.raw (fun e => ?_), ⟨z, hp.row hz (fun e => ?_)⟩, ?_, by rw [he, h.e]; simp, h.hr, h.hz, h.hx, h.nzx, h.nrx, h.nrz⟩
  · rcases e with e | e
    · omega
    · exact h.nrx e
  · rcases e with e | e
    · omega
    · exact h.nzx e
  · have h3 := h.hx
    exact ⟨hp.os.trans h.keep.os, hp.tape.trans h.keep.tape, hp.output.trans h.keep.output, Nat.le_trans h.keep.size hp.size, fun i hi hgi => by
      rw [hp.block i (Nat.lt_of_lt_of_le hi h.keep.size) (fun e => by rcases e with e | e; exact hgi e; omega), h.keep.block i hi hgi]⟩
theorem InS.calln {w0 w w' : World} {g : Nat} {a : Option Addr} {n cap : Nat} {K : List KV} {er er' : Int} {gr gz gx : Nat} {r : RW} {x : IN} {er0 : Int} {C : Bool} (h : InS w0 w g a n cap K er gr gz gx r x true er0) (hk : LfS w' g a n cap K er') (hp : KeepP (fun k => k = g) w w') (he : er' = 0 ↔ er = 0 ∧ C = true) (hg : g < w0.heap.size) :
    InS w0 w' g a n cap K er' gr gz gx r x C er0 :=
  h.call ⟨hk, h.k.i.keep hp (fun e => h.k.ne e), h.k.ne, h.k.z, h.k.off⟩ (hp.weak fun k _ e => .inl e) he hg
theorem wpList_load_rowH {P : Program} {ops : Array Oper} {rest : List Oper} {o : Oper} {a : Act} {w : World} {Q : Exit → Act → World → Prop} (hgd : Region.wanted o (yielded ops a.tmps) = true) (ty : TypeId) (x : Operand) (ho : o.op = .load ty x)
    (g : Nat) (hx : a.eval x = .pointer (some ⟨g, 0, none⟩)) (t : TypeId) (cs : Array Value) (fr : Nat × Nat) (d : TypeDesc) (hg : w.heap[g]? = some (.cells cs t fr))
    (hu : P.underlying ty = some d) (hd : (match d with | .struct _ | .array _ _ => true | _ => false) = true) (hi : (P.info? ty).map (·.size) = some cs.size)
    (h : wpList P ops Q rest (a.put o.dst (.agg cs)) w) : wpList P ops Q (o :: rest) a w := by
  refine wpList_step fun K hK => ?_
  rw [if_pos hgd]
  exact wp_load_row ty x ho g hx t cs fr d hg hu hd hi (hK _ _ h)
theorem KeepP.setrow {p : Nat → Prop} {w w1 : World} (h : KeepP p w w1) {g : Nat} (hg : p g ∨ w.heap.size ≤ g) (cs : Array Value) : KeepP p w (w1.setRow g cs) :=
  ⟨h.os, h.tape, h.output, by have := h.size; simpa [World.setRow] using this, fun k hk hq => by
    rw [← h.block k hk hq]
    refine setRow_other w1 g k cs ?_
    rintro rfl
    rcases hg with h1 | h1
    · exact hq h1
    · omega⟩
theorem InS.done {w0 w : World} {g : Nat} {a : Option Addr} {n cap : Nat} {K : List KV} {er : Int} {gr gz gx : Nat} {r : RW} {x : IN} {C : Bool} {er0 : Int} (h : InS w0 w g a n cap K er gr gz gx r x C er0) (h0 : LfS w0 g a n cap K er0) (cs : Array Value) :
    LfR (.agg x.cells.toArray) g a n cap K er0 C w0 (.returned (.agg x.cells.toArray)) (w.setRow gz cs) :=
  ⟨rfl, ⟨er, h.e, h0.newer h.k.k (Nat.le_refl _) ((KeepP.refl _ _).setrow (.inl h.hz) cs)⟩, h.keep.setrow (.inr h.hz) cs⟩
theorem InS.turn {w0 w w' : World} {g : Nat} {a : Option Addr} {n cap : Nat} {K : List KV} {er : Int} {gr gz gx : Nat} {r : RW} {x : IN} {C : Bool} {er0 : Int} (h : InS w0 w g a n cap K er gr gz gx r x C er0) (hb : Below w.heap.size w w') : InS w0 w' g a n cap K er gr gz gx r x C er0 := by
  obtain ⟨z, hz⟩ := h.zero
  exact ⟨h.k.below hb, row_below h.raw hb, ⟨z, row_below hz hb⟩, h.keep.trans (KeepP.of hb), h.e, h.hr, h.hz, h.hx, h.nzx, h.nrx, h.nrz⟩
set_option maxRecDepth 100000 in
set_option maxHeartbeats 8000000 in
theorem ains_any (w : World) (g : Nat) (a : Option Addr) (n cap : Nat) (K : List KV) (er : Int) (r : RW) (L : List RW) (b : Nat) (h : LfS w g a n cap K er) (hp : PlacesI w b L) (hb : b ≠ g) (hop : r.op < 256) (hra : IntRo r.a) (hc : formN r.op = 5 ∨ formN r.op = 6 → 0 ≤ r.a ∧ r.a < 1048576) :
    Calls Tryz.prog 55 #[.pointer (some ⟨g, 0, none⟩), .agg #[.int .i64 r.pos, .int .u8 (r.op : Nat), .int .i64 r.a, .int .i64 r.b], .map (some b)] w (LfR (.agg (insV K L r).cells.toArray) g a n cap K er (insC K r) w) := by
  have H := Lib.hid h
  have HP := Lib.hid hp
  have hHF := fun w => Form_any w r.op hop
  have hbl := hp.lt
  obtain ⟨V, hV⟩ : ∃ V, V = insV K L r := ⟨_, rfl⟩
  obtain ⟨C, hC⟩ : ∃ C, C = insC K r := ⟨_, rfl⟩
  have HV := hV
  have HC := hC
  unfold insV at HV
  unfold insC at HC
  rw [← hV, ← hC]
  clear hV hC
  obtain ⟨f, hf⟩ : ∃ f, f = formN r.op := ⟨_, rfl⟩
  rw [← hf] at HV HC hc
  have hHF2 : ∀ w, Calls Tryz.prog 102 #[.int .u8 (r.op : Nat)] w (QuietRet (.int .i64 (f : Nat)) w) := fun w => by rw [hf]; exact hHF w
  have HF := Lib.hid hHF2
  have HI0 : InS w (((w.alloc (.cells r.cells.toArray 118)).alloc (.cells (⟨0, 0, 0, [], [], [], []⟩ : IN).cells.toArray InsT)).alloc (.cells (insX r).cells.toArray InsT)) g a n cap K er w.heap.size (w.heap.size + 1) (w.heap.size + 1 + 1) r (insX r) true er := by
    have b1 := (((Below.refl w.heap.size w).alloc (Nat.le_refl _) (.cells r.cells.toArray 118)).alloc (by simp) (.cells (⟨0, 0, 0, [], [], [], []⟩ : IN).cells.toArray InsT)).alloc (by simp; omega) (.cells (insX r).cells.toArray InsT)
    have h9 := h.lt
    have h8 := h.g0
    have hof : Off1 a n (w.heap.size + 1 + 1) := fun hn b off e hh => by
      obtain ⟨b', off', e2, hlt, _⟩ := h.ks.2 hn
      rw [e] at e2
      cases e2
      omega
    refine ⟨⟨h.below b1, ?_, by omega, by omega, hof⟩, ?_, ⟨⟨0, 0, 0, [], [], [], []⟩, ?_⟩, KeepP.of b1, by simp, by omega, by omega, by omega, by omega, by omega, by omega⟩
    · unfold BlkI
      have := heap_alloc_last ((w.alloc (.cells r.cells.toArray 118)).alloc (.cells (⟨0, 0, 0, [], [], [], []⟩ : IN).cells.toArray InsT)) (.cells (insX r).cells.toArray InsT)
      simpa using this
    · rw [Below.heap_alloc _ _ _ (by simp; omega), Below.heap_alloc _ _ _ (by simp)]
      exact heap_alloc_last w _
    · unfold BlkI
      rw [Below.heap_alloc _ _ _ (by simp)]
      have := heap_alloc_last (w.alloc (.cells r.cells.toArray 118)) (.cells (⟨0, 0, 0, [], [], [], []⟩ : IN).cells.toArray InsT)
      simpa using this
  have HI := Lib.hid HI0
  have HVV := Lib.hid HV
  have HCC := Lib.hid HC
  have HHC := Lib.hid hc
  have HRA := Lib.hid hra
  clear h hp hHF hHF2 HV HC hc hra hf HI0
  go_enter Tryz.func55, Tryz.ntmps55
  go_upto_region 2 with fail
  change Hid (InS w (((w.alloc (.cells #[.int .i64 r.pos, .int .u8 (r.op : Nat), .int .i64 r.a, .int .i64 r.b] 118)).alloc (.cells #[.int .u8 0, .int .i64 0, .int .i64 0, .string ⟨#[]⟩, .string ⟨#[]⟩, .string ⟨#[]⟩, .string ⟨#[]⟩] 54)).alloc (.cells #[.int .u8 (r.op : Nat), .int .i64 0, .int .i64 0, .string ⟨#[]⟩, .string ⟨#[]⟩, .string ⟨#[]⟩, .string ⟨#[]⟩] 54)) g a n cap K er w.heap.size (w.heap.size + 1) (w.heap.size + 1 + 1) r (insX r) true er) at HI
  generalize ((w.alloc (.cells #[.int .i64 r.pos, .int .u8 (r.op : Nat), .int .i64 r.a, .int .i64 r.b] 118)).alloc (.cells #[.int .u8 0, .int .i64 0, .int .i64 0, .string ⟨#[]⟩, .string ⟨#[]⟩, .string ⟨#[]⟩, .string ⟨#[]⟩] 54)).alloc (.cells #[.int .u8 (r.op : Nat), .int .i64 0, .int .i64 0, .string ⟨#[]⟩, .string ⟨#[]⟩, .string ⟨#[]⟩, .string ⟨#[]⟩] 54) = W at HI ⊢
  have r1 := row_cell HI.out.raw 1 rfl
  dsimp [RW.cells] at r1
  go_wp2_with fail
  refine (HF.out W).mono ?_
  rintro e w1 ⟨rfl, hb1⟩
  have HI1 := Lib.hid (HI.out.turn hb1)
  have HP1 := Lib.hid (HP.out.keep HI1.out.keep hb)
  have hs1 : w.heap.size ≤ w1.heap.size := HI1.out.keep.size
  have hgl : g < w.heap.size := H.out.lt
  have i0 := row_cell HI1.out.k.i 0 rfl
  have i1 := row_cell HI1.out.k.i 1 rfl
  have i2 := row_cell HI1.out.k.i 2 rfl
  have i3 := row_cell HI1.out.k.i 3 rfl
  have q1 := row_cell HI1.out.raw 1 rfl
  have q2 := row_cell HI1.out.raw 2 rfl
  have q3 := row_cell HI1.out.raw 3 rfl
  dsimp [RW.cells, IN.cells, insX] at i0 i1 i2 i3 q1 q2 q3
  clear HI r1 hb1 HP HF hop
  obtain ⟨-, -, -, -, -, -, -, f1, f2, f3, -, -, -⟩ := HI1.out.k.i.box
  by_cases f7 : f = 7
  · have e7 : ((f : Int) == 7) = true := by subst f7; rfl
    have HV2 := Lib.hid (HVV.out.trans (if_pos f7))
    have HC2 := Lib.hid (HCC.out.trans (if_pos f7))
    have hlk := look_ix HP1.out r.a HRA.out
    obtain rfl : C = true := HC2.out
    clear f7 HVV HCC HC2 HHC
    go_upto_region 23 with fail
    have HI2 := Lib.hid (HI1.out.put 1 _ (HI1.out.k.i.set1 (((ixOf L r.a).getD 0 : Nat) : Int)))
    obtain ⟨z, hz⟩ := HI2.out.zero
    have HZ := Lib.hid hz
    clear hz
    refine wp_region_lit ?_
    refine wpList_load_rowH rfl _ _ rfl _ rfl _ _ _ _ HI2.out.k.i Tryz.underlying54 rfl infoIns ?_
    refine wpList_store_row rfl _ _ _ rfl _ _ rfl rfl _ _ HZ.out infoIns rfl (oneI _) ?_
    go_wp2_with fail
    refine bodyPost_ret (results_cell_row rfl _ _ (w.heap.size + 1) InsT (IN.cells _).toArray (0, 0) _ rfl (setRow_heap _ _ _ _ _ _ HZ.out) Tryz.underlying54 rfl infoIns) rfl ?_
    rw [HV2.out]
    exact HI2.out.done H.out _
  have e7 : ((f : Int) == 7) = false := by rw [beq_eq_false_iff_ne]; omega
  replace HVV := Lib.hid (HVV.out.trans (if_neg f7))
  replace HCC := Lib.hid (HCC.out.trans (if_neg f7))
  by_cases f8 : f = 8
  · have e8 : ((f : Int) == 8) = true := by subst f8; rfl
    have HV2 := Lib.hid (HVV.out.trans (if_pos f8))
    have HC2 := Lib.hid (HCC.out.trans (if_pos f8))
    obtain rfl : C = true := HC2.out
    clear f7 f8 HVV HCC HC2 HHC HP1 i0 i3 q1
    go_upto_region 7 with fail
    have ld2 : ∀ w' : World, w'.heap[w.heap.size]? = some (.cells r.cells.toArray 118 (0, 0)) → w'.cell? ⟨w.heap.size, 2, none⟩ = some (.int .i64 r.a) := fun w' h => row_cell h 2 rfl
    have ld3 : ∀ w' : World, w'.heap[w.heap.size]? = some (.cells r.cells.toArray 118 (0, 0)) → w'.cell? ⟨w.heap.size, 3, none⟩ = some (.int .i64 r.b) := fun w' h => row_cell h 3 rfl
    have HID := Lib.hid (HI1.out.turn ((Below.refl _ _).drew))
    have hSw : w1.drew.heap[w.heap.size]? = some (.cells r.cells.toArray 118 (0, 0)) := HID.out.raw
    have fd1 : w1.drew.frozen? ⟨w.heap.size + 1 + 1, 1, none⟩ = false := HID.out.k.i.box.f1
    refine wp_region_lexS (fun wx => wx.heap[w.heap.size]? = some (.cells r.cells.toArray 118 (0, 0))) (.of [(0, true), (1, true), (2, true), (3, true), (4, true), (5, false), (6, true), (7, false)] (.stir [])) (by kernel_rfl) (by kernel_rfl) (fun c a d v w h => by cases d <;> exact h) ?_
    iterate 5
      refine lexS_step (fun K hK => ?_)
      simp only [lexOp, List.getElem?_toArray, List.getElem?_cons_succ, List.getElem?_cons_zero]
      rw [if_pos (by rfl)]
      apply Exists.intro
      refine ⟨fun w' hS' => ?_, hSw, ?_⟩
      · first | (go_simp <;> with_reducible rfl) | (go_simp; go_bits; with_reducible rfl)
      go_simp
      try go_bits
      refine hK _ _ ?_
      clear hK K
    have HI2 := Lib.hid (HID.out.put 1 _ (HID.out.k.i.set1 r.a))
    refine lexS_step (fun K hK => ?_)
    simp only [lexOp, List.getElem?_toArray, List.getElem?_cons_succ, List.getElem?_cons_zero]
    rw [if_pos (by rfl)]
    go_step
    have hS2 : (w1.drew.setCell ⟨w.heap.size + 1 + 1, 1, none⟩ (.int .i64 r.a)).heap[w.heap.size]? = some (.cells r.cells.toArray 118 (0, 0)) := HI2.out.raw
    refine ⟨hS2, hK _ _ ?_⟩
    clear hK K hSw fd1 HID HI1
    have hSw := hS2
    clear hS2
    have fd2 : (w1.drew.setCell ⟨w.heap.size + 1 + 1, 1, none⟩ (.int .i64 r.a)).frozen? ⟨w.heap.size + 1 + 1, 2, none⟩ = false := HI2.out.k.i.box.f2
    iterate 1
      refine lexS_step (fun K hK => ?_)
      simp only [lexOp, List.getElem?_toArray, List.getElem?_cons_succ, List.getElem?_cons_zero]
      rw [if_pos (by rfl)]
      apply Exists.intro
      refine ⟨fun w' hS' => ?_, hSw, ?_⟩
      · first | (go_simp <;> with_reducible rfl) | (go_simp; go_bits; with_reducible rfl)
      go_simp
      try go_bits
      refine hK _ _ ?_
      clear hK K
    have HI3 := Lib.hid (HI2.out.put 2 _ (HI2.out.k.i.set2 r.b))
    refine lexS_step (fun K hK => ?_)
    simp only [lexOp, List.getElem?_toArray, List.getElem?_cons_succ, List.getElem?_cons_zero]
    rw [if_pos (by rfl)]
    go_step
    have hS3 : ((w1.drew.setCell ⟨w.heap.size + 1 + 1, 1, none⟩ (.int .i64 r.a)).setCell ⟨w.heap.size + 1 + 1, 2, none⟩ (.int .i64 r.b)).heap[w.heap.size]? = some (.cells r.cells.toArray 118 (0, 0)) := HI3.out.raw
    refine ⟨hS3, hK _ _ ?_⟩
    clear hK K hSw fd2 HI2
    refine lexS_stir (fun y => y = (w1.drew.setCell ⟨w.heap.size + 1 + 1, 1, none⟩ (.int .i64 r.a)).setCell ⟨w.heap.size + 1 + 1, 2, none⟩ (.int .i64 r.b)) (fun y hy => hy ▸ hS3) rfl ?_
    refine stir_nil (fun y hy => ?_)
    subst hy
    clear hS3 ld2 ld3 f1 f2 f3
    go_upto_region 23 with fail
    obtain ⟨z, hz⟩ := HI3.out.zero
    have HZ := Lib.hid hz
    clear hz
    refine wp_region_lit ?_
    refine wpList_load_rowH rfl _ _ rfl _ rfl _ _ _ _ HI3.out.k.i Tryz.underlying54 rfl infoIns ?_
    refine wpList_store_row rfl _ _ _ rfl _ _ rfl rfl _ _ HZ.out infoIns rfl (oneI _) ?_
    go_wp2_with fail
    refine bodyPost_ret (results_cell_row rfl _ _ (w.heap.size + 1) InsT (IN.cells _).toArray (0, 0) _ rfl (setRow_heap _ _ _ _ _ _ HZ.out) Tryz.underlying54 rfl infoIns) rfl ?_
    rw [HV2.out]
    exact HI3.out.done H.out _
  have e8 : ((f : Int) == 8) = false := by rw [beq_eq_false_iff_ne]; omega
  replace HVV := Lib.hid (HVV.out.trans (if_neg f8))
  replace HCC := Lib.hid (HCC.out.trans (if_neg f8))
  by_cases f5 : f = 5 ∨ f = 6
  · obtain ⟨a0, a1⟩ := HHC.out f5
    obtain ⟨at_, hat⟩ : ∃ at_, at_ = r.a.toNat := ⟨_, rfl⟩
    have hra : r.a = (at_ : Int) := by omega
    have hat2 : at_ < 1048576 := by omega
    have HCON := Lib.hid (aconst_any w1 g a n cap K er (w.heap.size + 1 + 1) (insX r) at_ hat2 HI1.out.k)
    have HRAT := Lib.hid hra
    rw [← hat] at HVV HCC
    rw [← hra] at HCON
    clear hra hat hat2 a0 a1
    by_cases f6 : f = 5
    · have e5 : ((f : Int) == 5) = true := by subst f6; rfl
      have HV2 := Lib.hid (HVV.out.trans (if_pos f6))
      have HC2 := Lib.hid (HCC.out.trans (if_pos f6))
      obtain rfl : C = conC (conX K (insX r) at_) := HC2.out
      clear f7 f8 f5 f6 HVV HCC HC2 HHC HP1 i0 i1 i2 i3 q1 f1 f2 f3
      go_wp2_with fail
      refine HCON.out.mono ?_
      rintro e w2 ⟨rfl, hI2, k2⟩
      have HI2 := Lib.hid (HI1.out.call hI2 k2 (needE_zero (by decide)) hgl)
      clear hI2 k2 HCON HI1 q2 q3
      go_upto_region 23 with fail
      obtain ⟨z, hz⟩ := HI2.out.zero
      have HZ := Lib.hid hz
      clear hz
      refine wp_region_lit ?_
      refine wpList_load_rowH rfl _ _ rfl _ rfl _ _ _ _ HI2.out.k.i Tryz.underlying54 rfl infoIns ?_
      refine wpList_store_row rfl _ _ _ rfl _ _ rfl rfl _ _ HZ.out infoIns rfl (oneI _) ?_
      go_wp2_with fail
      refine bodyPost_ret (results_cell_row rfl _ _ (w.heap.size + 1) InsT (IN.cells _).toArray (0, 0) _ rfl (setRow_heap _ _ _ _ _ _ HZ.out) Tryz.underlying54 rfl infoIns) rfl ?_
      rw [HV2.out]
      exact HI2.out.done H.out _
    have e5 : ((f : Int) == 5) = false := by rw [beq_eq_false_iff_ne]; omega
    have e6 : ((f : Int) == 6) = true := by rw [beq_iff_eq]; omega
    replace HVV := Lib.hid (HVV.out.trans ((if_neg f6).trans (if_pos (show f = 6 by omega))))
    replace HCC := Lib.hid (HCC.out.trans ((if_neg f6).trans (if_pos (show f = 6 by omega))))
    clear f7 f8 f5 f6 HHC HP1 i0 i1 i2 i3
    by_cases o20 : r.op = 20
    · have e20 : ((r.op : Int) == 20) = true := by rw [o20]; rfl
      have HV2 := Lib.hid (HVV.out.trans (if_pos o20))
      have HC2 := Lib.hid (HCC.out.trans (if_pos o20))
      obtain rfl : C = conC (conX K (insX r) at_) := HC2.out
      clear o20 HVV HCC HC2 f1 f2 f3
      go_wp2_with fail
      refine HCON.out.mono ?_
      rintro e w2 ⟨rfl, hI2, k2⟩
      have HI2 := Lib.hid (HI1.out.call hI2 k2 (needE_zero (by decide)) hgl)
      clear hI2 k2 HCON HI1 q2 q3 q1
      go_upto_region 23 with fail
      obtain ⟨z, hz⟩ := HI2.out.zero
      have HZ := Lib.hid hz
      clear hz
      refine wp_region_lit ?_
      refine wpList_load_rowH rfl _ _ rfl _ rfl _ _ _ _ HI2.out.k.i Tryz.underlying54 rfl infoIns ?_
      refine wpList_store_row rfl _ _ _ rfl _ _ rfl rfl _ _ HZ.out infoIns rfl (oneI _) ?_
      go_wp2_with fail
      refine bodyPost_ret (results_cell_row rfl _ _ (w.heap.size + 1) InsT (IN.cells _).toArray (0, 0) _ rfl (setRow_heap _ _ _ _ _ _ HZ.out) Tryz.underlying54 rfl infoIns) rfl ?_
      rw [HV2.out]
      exact HI2.out.done H.out _
    have e20 : ((r.op : Int) == 20) = false := by rw [beq_eq_false_iff_ne]; omega
    replace HVV := Lib.hid (HVV.out.trans (if_neg o20))
    replace HCC := Lib.hid (HCC.out.trans (if_neg o20))
    clear HCON o20
    have HMB := Lib.hid (fun t fis p hen hp => amember_any w1 g a n cap K er (w.heap.size + 1 + 1) (insX r) r.a t fis p hen hp HI1.out.k)
    by_cases o178 : r.op = 178
    · have e178 : ((r.op : Int) == 178) = true := by rw [o178]; rfl
      have hM : memOp r.op = true := by rw [o178]; rfl
      have HV2 := Lib.hid (HVV.out.trans (if_pos hM))
      have HC2 := Lib.hid (HCC.out.trans (if_pos hM))
      obtain rfl : C = memC typeB K r.a 9 := HC2.out
      have HM2 := Lib.hid (HMB.out 9 23 typeB (fun _ _ => rfl) (fun W s hs hv => IsType_any W s hs hv))
      clear hM HVV HCC HC2 HMB f1 f2 f3 o178
      go_wp2_with fail
      refine HM2.out.mono ?_
      rintro e w2 ⟨rfl, hI2, k2⟩
      have HI2 := Lib.hid (HI1.out.call hI2 k2 (needE_zero (by decide)) hgl)
      clear hI2 k2 HM2 HI1 q2 q3 q1
      go_upto_region 23 with fail
      obtain ⟨z, hz⟩ := HI2.out.zero
      have HZ := Lib.hid hz
      clear hz
      refine wp_region_lit ?_
      refine wpList_load_rowH rfl _ _ rfl _ rfl _ _ _ _ HI2.out.k.i Tryz.underlying54 rfl infoIns ?_
      refine wpList_store_row rfl _ _ _ rfl _ _ rfl rfl _ _ HZ.out infoIns rfl (oneI _) ?_
      go_wp2_with fail
      refine bodyPost_ret (results_cell_row rfl _ _ (w.heap.size + 1) InsT (IN.cells _).toArray (0, 0) _ rfl (setRow_heap _ _ _ _ _ _ HZ.out) Tryz.underlying54 rfl infoIns) rfl ?_
      rw [HV2.out]
      exact HI2.out.done H.out _
    have e178 : ((r.op : Int) == 178) = false := by rw [beq_eq_false_iff_ne]; omega
    by_cases o179 : r.op = 179
    · have e179 : ((r.op : Int) == 179) = true := by rw [o179]; rfl
      have hM : memOp r.op = true := by rw [o179]; rfl
      have HV2 := Lib.hid (HVV.out.trans (if_pos hM))
      have HC2 := Lib.hid (HCC.out.trans (if_pos hM))
      obtain rfl : C = memC typeB K r.a 9 := HC2.out
      have HM2 := Lib.hid (HMB.out 9 23 typeB (fun _ _ => rfl) (fun W s hs hv => IsType_any W s hs hv))
      clear hM HVV HCC HC2 HMB f1 f2 f3 o178 o179
      go_wp2_with fail
      refine HM2.out.mono ?_
      rintro e w2 ⟨rfl, hI2, k2⟩
      have HI2 := Lib.hid (HI1.out.call hI2 k2 (needE_zero (by decide)) hgl)
      clear hI2 k2 HM2 HI1 q2 q3 q1
      go_upto_region 23 with fail
      obtain ⟨z, hz⟩ := HI2.out.zero
      have HZ := Lib.hid hz
      clear hz
      refine wp_region_lit ?_
      refine wpList_load_rowH rfl _ _ rfl _ rfl _ _ _ _ HI2.out.k.i Tryz.underlying54 rfl infoIns ?_
      refine wpList_store_row rfl _ _ _ rfl _ _ rfl rfl _ _ HZ.out infoIns rfl (oneI _) ?_
      go_wp2_with fail
      refine bodyPost_ret (results_cell_row rfl _ _ (w.heap.size + 1) InsT (IN.cells _).toArray (0, 0) _ rfl (setRow_heap _ _ _ _ _ _ HZ.out) Tryz.underlying54 rfl infoIns) rfl ?_
      rw [HV2.out]
      exact HI2.out.done H.out _
    have e179 : ((r.op : Int) == 179) = false := by rw [beq_eq_false_iff_ne]; omega
    by_cases o180 : r.op = 180
    · have e180 : ((r.op : Int) == 180) = true := by rw [o180]; rfl
      have hM : memOp r.op = true := by rw [o180]; rfl
      have HV2 := Lib.hid (HVV.out.trans (if_pos hM))
      have HC2 := Lib.hid (HCC.out.trans (if_pos hM))
      obtain rfl : C = memC typeB K r.a 9 := HC2.out
      have HM2 := Lib.hid (HMB.out 9 23 typeB (fun _ _ => rfl) (fun W s hs hv => IsType_any W s hs hv))
      clear hM HVV HCC HC2 HMB f1 f2 f3 o178 o179 o180
      go_wp2_with fail
      refine HM2.out.mono ?_
      rintro e w2 ⟨rfl, hI2, k2⟩
      have HI2 := Lib.hid (HI1.out.call hI2 k2 (needE_zero (by decide)) hgl)
      clear hI2 k2 HM2 HI1 q2 q3 q1
      go_upto_region 23 with fail
      obtain ⟨z, hz⟩ := HI2.out.zero
      have HZ := Lib.hid hz
      clear hz
      refine wp_region_lit ?_
      refine wpList_load_rowH rfl _ _ rfl _ rfl _ _ _ _ HI2.out.k.i Tryz.underlying54 rfl infoIns ?_
      refine wpList_store_row rfl _ _ _ rfl _ _ rfl rfl _ _ HZ.out infoIns rfl (oneI _) ?_
      go_wp2_with fail
      refine bodyPost_ret (results_cell_row rfl _ _ (w.heap.size + 1) InsT (IN.cells _).toArray (0, 0) _ rfl (setRow_heap _ _ _ _ _ _ HZ.out) Tryz.underlying54 rfl infoIns) rfl ?_
      rw [HV2.out]
      exact HI2.out.done H.out _
    have e180 : ((r.op : Int) == 180) = false := by rw [beq_eq_false_iff_ne]; omega
    by_cases o181 : r.op = 181
    · have e181 : ((r.op : Int) == 181) = true := by rw [o181]; rfl
      have hM : memOp r.op = true := by rw [o181]; rfl
      have HV2 := Lib.hid (HVV.out.trans (if_pos hM))
      have HC2 := Lib.hid (HCC.out.trans (if_pos hM))
      obtain rfl : C = memC typeB K r.a 9 := HC2.out
      have HM2 := Lib.hid (HMB.out 9 23 typeB (fun _ _ => rfl) (fun W s hs hv => IsType_any W s hs hv))
      clear hM HVV HCC HC2 HMB f1 f2 f3 o178 o179 o180 o181
      go_wp2_with fail
      refine HM2.out.mono ?_
      rintro e w2 ⟨rfl, hI2, k2⟩
      have HI2 := Lib.hid (HI1.out.call hI2 k2 (needE_zero (by decide)) hgl)
      clear hI2 k2 HM2 HI1 q2 q3 q1
      go_upto_region 23 with fail
      obtain ⟨z, hz⟩ := HI2.out.zero
      have HZ := Lib.hid hz
      clear hz
      refine wp_region_lit ?_
      refine wpList_load_rowH rfl _ _ rfl _ rfl _ _ _ _ HI2.out.k.i Tryz.underlying54 rfl infoIns ?_
      refine wpList_store_row rfl _ _ _ rfl _ _ rfl rfl _ _ HZ.out infoIns rfl (oneI _) ?_
      go_wp2_with fail
      refine bodyPost_ret (results_cell_row rfl _ _ (w.heap.size + 1) InsT (IN.cells _).toArray (0, 0) _ rfl (setRow_heap _ _ _ _ _ _ HZ.out) Tryz.underlying54 rfl infoIns) rfl ?_
      rw [HV2.out]
      exact HI2.out.done H.out _
    have e181 : ((r.op : Int) == 181) = false := by rw [beq_eq_false_iff_ne]; omega
    have hM : memOp r.op = false := by simp [memOp, o178, o179, o180, o181]
    replace HVV := Lib.hid (HVV.out.trans (if_neg (by rw [hM]; decide)))
    replace HCC := Lib.hid (HCC.out.trans (if_neg (by rw [hM]; decide)))
    clear hM o178 o179 o180 o181
    by_cases o182 : r.op = 182
    · have e182 : ((r.op : Int) == 182) = true := by rw [o182]; rfl
      have hM : invOp r.op = true := by rw [o182]; rfl
      have HV2 := Lib.hid (HVV.out.trans (if_pos hM))
      have HC2 := Lib.hid (HCC.out.trans (if_pos hM))
      obtain rfl : C = memC methB K r.a 10 := HC2.out
      have HM2 := Lib.hid (HMB.out 10 52 methB (fun _ _ => rfl) (fun W s hs hv => isMethod_any W s hs hv))
      clear hM HVV HCC HC2 HMB f1 f2 f3 o182
      go_wp2_with fail
      refine HM2.out.mono ?_
      rintro e w2 ⟨rfl, hI2, k2⟩
      have HI2 := Lib.hid (HI1.out.call hI2 k2 (needE_zero (by decide)) hgl)
      clear hI2 k2 HM2 HI1 q2 q3 q1
      go_upto_region 23 with fail
      obtain ⟨z, hz⟩ := HI2.out.zero
      have HZ := Lib.hid hz
      clear hz
      refine wp_region_lit ?_
      refine wpList_load_rowH rfl _ _ rfl _ rfl _ _ _ _ HI2.out.k.i Tryz.underlying54 rfl infoIns ?_
      refine wpList_store_row rfl _ _ _ rfl _ _ rfl rfl _ _ HZ.out infoIns rfl (oneI _) ?_
      go_wp2_with fail
      refine bodyPost_ret (results_cell_row rfl _ _ (w.heap.size + 1) InsT (IN.cells _).toArray (0, 0) _ rfl (setRow_heap _ _ _ _ _ _ HZ.out) Tryz.underlying54 rfl infoIns) rfl ?_
      rw [HV2.out]
      exact HI2.out.done H.out _
    have e182 : ((r.op : Int) == 182) = false := by rw [beq_eq_false_iff_ne]; omega
    by_cases o184 : r.op = 184
    · have e184 : ((r.op : Int) == 184) = true := by rw [o184]; rfl
      have hM : invOp r.op = true := by rw [o184]; rfl
      have HV2 := Lib.hid (HVV.out.trans (if_pos hM))
      have HC2 := Lib.hid (HCC.out.trans (if_pos hM))
      obtain rfl : C = memC methB K r.a 10 := HC2.out
      have HM2 := Lib.hid (HMB.out 10 52 methB (fun _ _ => rfl) (fun W s hs hv => isMethod_any W s hs hv))
      clear hM HVV HCC HC2 HMB f1 f2 f3 o182 o184
      go_wp2_with fail
      refine HM2.out.mono ?_
      rintro e w2 ⟨rfl, hI2, k2⟩
      have HI2 := Lib.hid (HI1.out.call hI2 k2 (needE_zero (by decide)) hgl)
      clear hI2 k2 HM2 HI1 q2 q3 q1
      go_upto_region 23 with fail
      obtain ⟨z, hz⟩ := HI2.out.zero
      have HZ := Lib.hid hz
      clear hz
      refine wp_region_lit ?_
      refine wpList_load_rowH rfl _ _ rfl _ rfl _ _ _ _ HI2.out.k.i Tryz.underlying54 rfl infoIns ?_
      refine wpList_store_row rfl _ _ _ rfl _ _ rfl rfl _ _ HZ.out infoIns rfl (oneI _) ?_
      go_wp2_with fail
      refine bodyPost_ret (results_cell_row rfl _ _ (w.heap.size + 1) InsT (IN.cells _).toArray (0, 0) _ rfl (setRow_heap _ _ _ _ _ _ HZ.out) Tryz.underlying54 rfl infoIns) rfl ?_
      rw [HV2.out]
      exact HI2.out.done H.out _
    have e184 : ((r.op : Int) == 184) = false := by rw [beq_eq_false_iff_ne]; omega
    have hM : invOp r.op = false := by simp [invOp, o182, o184]
    replace HVV := Lib.hid (HVV.out.trans (if_neg (by rw [hM]; decide)))
    replace HCC := Lib.hid (HCC.out.trans (if_neg (by rw [hM]; decide)))
    clear hM o182 o184
    have e187 : ((r.op : Int) != 187) = decide (r.op ≠ 187) := by
      rw [Bool.eq_iff_iff]
      simp
      omega
    have HCL := Lib.hid (aclass_any w1 g a n cap K er r.a (decide (r.op ≠ 187)) HI1.out.k.k)
    obtain rfl : C = aclsB K r.a (decide (r.op ≠ 187)) := HCC.out
    generalize decide (r.op ≠ 187) = dc at *
    clear HCC HMB f1 f2 f3
    go_wp2_with fail
    refine HCL.out.mono ?_
    rintro e w2 ⟨rfl, hI2, k2⟩
    have HI2 := Lib.hid (HI1.out.calln hI2 k2 (needE_zero (by decide)) hgl)
    have f3 := HI2.out.k.i.box.f3
    have c3 := HI2.out.k.i.box.c3
    clear hI2 k2 HCL HI1 q2 q3 q1
    go_upto_region 23 with fail
    have HI3 := Lib.hid (HI2.out.put 3 _ (HI2.out.k.i.set3 (classAt K r.a).1))
    obtain ⟨z, hz⟩ := HI3.out.zero
    have HZ := Lib.hid hz
    clear hz
    refine wp_region_lit ?_
    refine wpList_load_rowH rfl _ _ rfl _ rfl _ _ _ _ HI3.out.k.i Tryz.underlying54 rfl infoIns ?_
    refine wpList_store_row rfl _ _ _ rfl _ _ rfl rfl _ _ HZ.out infoIns rfl (oneI _) ?_
    go_wp2_with fail
    refine bodyPost_ret (results_cell_row rfl _ _ (w.heap.size + 1) InsT (IN.cells _).toArray (0, 0) _ rfl (setRow_heap _ _ _ _ _ _ HZ.out) Tryz.underlying54 rfl infoIns) rfl ?_
    rw [HVV.out]
    exact HI3.out.done H.out _
  have e5 : ((f : Int) == 5) = false := by rw [beq_eq_false_iff_ne]; omega
  have e6 : ((f : Int) == 6) = false := by rw [beq_eq_false_iff_ne]; omega
  replace HVV := Lib.hid (HVV.out.trans ((if_neg (show ¬ f = 5 by omega)).trans (if_neg (show ¬ f = 6 by omega))))
  replace HCC := Lib.hid (HCC.out.trans ((if_neg (show ¬ f = 5 by omega)).trans (if_neg (show ¬ f = 6 by omega))))
  obtain rfl : C = true := HCC.out
  clear f7 f8 f5 HCC HHC HP1
  go_upto_region 23 with fail
  have HI2 := Lib.hid (HI1.out.put 1 _ (HI1.out.k.i.set1 r.a))
  obtain ⟨z, hz⟩ := HI2.out.zero
  have HZ := Lib.hid hz
  clear hz
  refine wp_region_lit ?_
  refine wpList_load_rowH rfl _ _ rfl _ rfl _ _ _ _ HI2.out.k.i Tryz.underlying54 rfl infoIns ?_
  refine wpList_store_row rfl _ _ _ rfl _ _ rfl rfl _ _ HZ.out infoIns rfl (oneI _) ?_
  go_wp2_with fail
  refine bodyPost_ret (results_cell_row rfl _ _ (w.heap.size + 1) InsT (IN.cells _).toArray (0, 0) _ rfl (setRow_heap _ _ _ _ _ _ HZ.out) Tryz.underlying54 rfl infoIns) rfl ?_
  rw [HVV.out]
  exact HI2.out.done H.out _
end Go.Proofs.YtclpkipaehpkdaaGreatDoor

namespace Go.Proofs.YtclpkipaehpkdaaGreatDoor
open Go.ChangeShapes Go.WideShapes Go.ChangeAt Go.RowKit
structure UT where
  fr : Int
  tt : Int
  pl : Int
  cl : List UInt8
def UT.cells (t : UT) : List Value := [.int .i64 t.fr, .int .i64 t.tt, .int .i64 t.pl, .string ⟨t.cl.toArray⟩]
theorem UT.cells_length (t : UT) : t.cells.length = 4 := rfl
structure UP where
  pl : Int
  la : Option Addr
  ln : Nat
  lc : Nat
  loc : List (List UInt8)
  sa : Option Addr
  sn : Nat
  sc : Nat
  stk : List (List UInt8)
def UP.cells (p : UP) : List Value := [.int .i64 p.pl, .slice p.la p.ln p.lc, .slice p.sa p.sn p.sc]
theorem UP.cells_length (p : UP) : p.cells.length = 3 := rfl
def UP.p (p : UP) : UP := ⟨p.pl, none, 0, 0, p.loc, none, 0, 0, p.stk⟩
structure UP.Rd (p : UP) (w : World) : Prop where
  loc : Sl encS w p.la p.ln p.loc
  stk : Sl encS w p.sa p.sn p.stk
theorem UP.Rd.below {p : UP} {w w' : World} (h : p.Rd w) (hb : Below w.heap.size w w') : p.Rd w' := ⟨h.loc.below hb, h.stk.below hb⟩
structure UP.Own (p : UP) (w : World) (B : Nat) : Prop where
  loc : w.ownsRow B 9 1 (.slice p.la p.ln p.lc) p.ln (p.loc.map encS)
  stk : w.ownsRow B 9 1 (.slice p.sa p.sn p.sc) p.sn (p.stk.map encS)
theorem UP.Own.mono {p : UP} {w : World} {B B' : Nat} (h : p.Own w B) (hB : B' ≤ B) : p.Own w B' := ⟨own_mono h.loc hB, own_mono h.stk hB⟩
theorem UP.Own.keepP {p : UP} {q : Nat → Prop} {w w' : World} {B : Nat} (h : p.Own w B) (k : KeepP q w w') (hq : ∀ x, q x → x < B ∨ w.heap.size ≤ x) : p.Own w' B := ⟨own_keepP h.loc k hq, own_keepP h.stk k hq⟩
theorem UP.Own.keptT {p : UP} {w w' : World} {B : Nat} {e : TypeId} (h : p.Own w B) (k : KeptT e w w') (hne : 9 ≠ e) : p.Own w' B := ⟨own_keptT h.loc k hne, own_keptT h.stk k hne⟩
theorem UP.Own.rd {p : UP} {w : World} {B : Nat} (h : p.Own w B) : p.Rd w := by
  obtain ⟨a, c, e, hs, _⟩ := Sl.ofOwn h.loc
  obtain ⟨a', c', e', hs', _⟩ := Sl.ofOwn h.stk
  cases e
  cases e'
  exact ⟨hs, hs'⟩
structure UM where
  st : Bool
  nm : List UInt8
  ds : List UInt8
  sk : Int
  lo : Int
  ca : Option Addr
  cn : Nat
  cc : Nat
  code : List IN
  ta : Option Addr
  tn : Nat
  tc : Nat
  traps : List UT
  ma : Option Addr
  mn : Nat
  mc : Nat
  maps : List UP
def UM.cells (m : UM) : List Value := [.bool m.st, .string ⟨m.nm.toArray⟩, .string ⟨m.ds.toArray⟩, .int .i64 m.sk, .int .i64 m.lo, .slice m.ca m.cn m.cc, .slice m.ta m.tn m.tc, .slice m.ma m.mn m.mc]
theorem UM.cells_length (m : UM) : m.cells.length = 8 := rfl
def UM.p (m : UM) : UM := ⟨m.st, m.nm, m.ds, m.sk, m.lo, none, 0, 0, m.code, none, 0, 0, m.traps, none, 0, 0, m.maps.map UP.p⟩
structure UM.Rd (m : UM) (w : World) : Prop where
  code : Ss 7 IN.cells w m.ca m.cn m.code
  traps : Ss 4 UT.cells w m.ta m.tn m.traps
  maps : Ss 3 UP.cells w m.ma m.mn m.maps
  each : ∀ p ∈ m.maps, p.Rd w
theorem UM.Rd.below {m : UM} {w w' : World} (h : m.Rd w) (hb : Below w.heap.size w w') : m.Rd w' := ⟨h.code.below hb, h.traps.below hb, h.maps.below hb, fun p hp => (h.each p hp).below hb⟩
structure UM.Own (m : UM) (w : World) (B : Nat) : Prop where
  code : w.ownsRow B 54 7 (.slice m.ca m.cn m.cc) m.cn (m.code.flatMap IN.cells)
  traps : w.ownsRow B 85 4 (.slice m.ta m.tn m.tc) m.tn (m.traps.flatMap UT.cells)
  maps : w.ownsRow B 88 3 (.slice m.ma m.mn m.mc) m.mn (m.maps.flatMap UP.cells)
  each : ∀ p ∈ m.maps, p.Own w B
theorem UM.Own.mono {m : UM} {w : World} {B B' : Nat} (h : m.Own w B) (hB : B' ≤ B) : m.Own w B' := ⟨own_mono h.code hB, own_mono h.traps hB, own_mono h.maps hB, fun p hp => (h.each p hp).mono hB⟩
theorem UM.Own.keepP {m : UM} {q : Nat → Prop} {w w' : World} {B : Nat} (h : m.Own w B) (k : KeepP q w w') (hq : ∀ x, q x → x < B ∨ w.heap.size ≤ x) : m.Own w' B := ⟨own_keepP h.code k hq, own_keepP h.traps k hq, own_keepP h.maps k hq, fun p hp => (h.each p hp).keepP k hq⟩
theorem UM.Own.keptT {m : UM} {w w' : World} {B : Nat} {e : TypeId} (h : m.Own w B) (k : KeptT e w w') (h1 : 54 ≠ e) (h2 : 85 ≠ e) (h3 : 88 ≠ e) (h4 : 9 ≠ e) : m.Own w' B := ⟨own_keptT h.code k h1, own_keptT h.traps k h2, own_keptT h.maps k h3, fun p hp => (h.each p hp).keptT k h4⟩
theorem UM.Own.rd {m : UM} {w : World} {B : Nat} (h : m.Own w B) : m.Rd w := by
  obtain ⟨a, c, e, hs, _⟩ := Ss.ofOwn IN.cells_length (by decide) h.code
  obtain ⟨a', c', e', hs', _⟩ := Ss.ofOwn UT.cells_length (by decide) h.traps
  obtain ⟨a'', c'', e'', hs'', _⟩ := Ss.ofOwn UP.cells_length (by decide) h.maps
  cases e
  cases e'
  cases e''
  exact ⟨hs, hs', hs'', fun p hp => (h.each p hp).rd⟩
structure UF where
  st : Bool
  nm : List UInt8
  ds : List UInt8
def UF.cells (f : UF) : List Value := [.bool f.st, .string ⟨f.nm.toArray⟩, .string ⟨f.ds.toArray⟩]
theorem UF.cells_length (f : UF) : f.cells.length = 3 := rfl
structure UU where
  nm : List UInt8
  su : List UInt8
  fa : Option Addr
  fn : Nat
  fc : Nat
  fields : List UF
  ma : Option Addr
  mn : Nat
  mc : Nat
  methods : List UM
def UU.cells (u : UU) : List Value := [.string ⟨u.nm.toArray⟩, .string ⟨u.su.toArray⟩, .slice u.fa u.fn u.fc, .slice u.ma u.mn u.mc]
def UU.p (u : UU) : UU := ⟨u.nm, u.su, none, 0, 0, u.fields, none, 0, 0, u.methods.map UM.p⟩
structure UU.Rd (u : UU) (w : World) : Prop where
  fields : Ss 3 UF.cells w u.fa u.fn u.fields
  methods : Ss 8 UM.cells w u.ma u.mn u.methods
  each : ∀ m ∈ u.methods, m.Rd w
theorem UU.Rd.below {u : UU} {w w' : World} (h : u.Rd w) (hb : Below w.heap.size w w') : u.Rd w' := ⟨h.fields.below hb, h.methods.below hb, fun m hm => (h.each m hm).below hb⟩
structure UU.Own (u : UU) (w : World) (B : Nat) : Prop where
  fields : w.ownsRow B 52 3 (.slice u.fa u.fn u.fc) u.fn (u.fields.flatMap UF.cells)
  methods : w.ownsRow B 59 8 (.slice u.ma u.mn u.mc) u.mn (u.methods.flatMap UM.cells)
  each : ∀ m ∈ u.methods, m.Own w B
theorem UU.Own.rd {u : UU} {w : World} {B : Nat} (h : u.Own w B) : u.Rd w := by
  obtain ⟨a, c, e, hs, _⟩ := Ss.ofOwn UF.cells_length (by decide) h.fields
  obtain ⟨a', c', e', hs', _⟩ := Ss.ofOwn UM.cells_length (by decide) h.methods
  cases e
  cases e'
  exact ⟨hs, hs', fun p hp => (h.each p hp).rd⟩
theorem stIns : StE 55 54 (.agg #[.int .u8 0, .int .i64 0, .int .i64 0, .string ⟨#[]⟩, .string ⟨#[]⟩, .string ⟨#[]⟩, .string ⟨#[]⟩]) 7 88 := ⟨by kernel_rfl, by kernel_rfl, rfl⟩
theorem stTrap : StE 56 85 (.agg #[.int .i64 0, .int .i64 0, .int .i64 0, .string ⟨#[]⟩]) 4 40 := ⟨by kernel_rfl, by kernel_rfl, rfl⟩
theorem stMap : StE 57 88 (.agg #[.int .i64 0, .slice none 0 0, .slice none 0 0]) 3 56 := ⟨by kernel_rfl, by kernel_rfl, rfl⟩
theorem stMeth : StE 30 59 (.agg #[.bool false, .string ⟨#[]⟩, .string ⟨#[]⟩, .int .i64 0, .int .i64 0, .slice none 0 0, .slice none 0 0, .slice none 0 0]) 8 128 := ⟨by kernel_rfl, by kernel_rfl, rfl⟩
theorem stField : StE 29 52 (.agg #[.bool false, .string ⟨#[]⟩, .string ⟨#[]⟩]) 3 40 := ⟨by kernel_rfl, by kernel_rfl, rfl⟩
def trapV (K : List KV) (L : List RW) (cn : Nat) (t : KT) : UT := ⟨(plV L cn t.fr false : Nat), (plV L cn t.tt true : Nat), (plV L cn t.pl false : Nat), if t.cl = 0 then [] else (classAt K t.cl).1⟩
def trapC (K : List KV) (L : List RW) (cn : Nat) (t : KT) : Bool := plC L cn t.fr false && (plC L cn t.tt true && (plC L cn t.pl false && (decide (t.cl = 0) || aclsB K t.cl false)))
def mapV (K : List KV) (L : List RW) (cn : Nat) (p : KP) : UP := ⟨(plV L cn p.pl false : Nat), none, 0, 0, p.loc.map (slotV K), none, 0, 0, p.stk.map (slotV K)⟩
def mapC (K : List KV) (L : List RW) (cn : Nat) (p : KP) : Bool := plC L cn p.pl false && (p.loc.all (slotC K) && p.stk.all (slotC K))
def methV (K : List KV) (m : KM) : UM :=
  ⟨decide (m.fl = 8), textAt K m.nm, textAt K m.ds, m.st, m.lo, none, 0, 0, (decodeR m.code).2.map (insV K (decodeR m.code).2), none, 0, 0, m.traps.map (trapV K (decodeR m.code).2 m.cn), none, 0, 0, m.maps.map (mapV K (decodeR m.code).2 m.cn)⟩
def methC (K : List KV) (m : KM) : Bool :=
  (memB (textAt K m.nm) && methB (textAt K m.ds)) && (decide ((decodeR m.code).1 = 0) && ((decodeR m.code).2.all (insC K) && (m.traps.all (trapC K (decodeR m.code).2 m.cn) && m.maps.all (mapC K (decodeR m.code).2 m.cn))))
end Go.Proofs.YtclpkipaehpkdaaGreatDoor

