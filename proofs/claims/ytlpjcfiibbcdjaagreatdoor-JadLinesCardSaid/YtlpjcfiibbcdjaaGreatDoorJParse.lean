/- jad.Parse at texts whose lines all go well. No condition. -/
import Derived.Test.YtlpjcfiibbcdjaaGreatDoorJFields
import Derived.Laws.Strings3
namespace Go.Proofs.YtlpjcfiibbcdjaaGreatDoor
open Go.ChangeShapes Go.WideShapes Go.ChangeAt Go.RowKit
def Evt := Option (Nat × List UInt8)
def runE : List (Option (Nat × List UInt8)) → List Nat × JD → Option (List Nat × JD)
  | [], st => some st
  | none :: es, st => runE es st
  | some (i, v) :: es, (L, j) => if i ∈ L ∧ setOk i v = true then runE es (L.erase i, setJ i v j) else none
def lineIs (x : List UInt8) : Option (Nat × List UInt8) → Prop
  | none => Lib.trimB x 32 = []
  | some (i, v) => Lib.trimB x 32 = keyT i ++ v ∧ i < 5
def zeroJ : JD := ⟨[], 0, 0, 0, [], 0, List.replicate 32 0⟩
theorem setJ_hash {i : Nat} {v : List UInt8} {j : JD} (h : j.hash.length = 32) : (setJ i v j).hash.length = 32 := by
  unfold setJ
  (repeat' split) <;> first | exact h | exact unhexV_len v
theorem rowLt {w : World} {g : Nat} {o : Obj} (h : w.heap[g]? = some o) : g < w.heap.size := (Array.getElem?_eq_some_iff.1 h).1
theorem cellLt {w : World} {g : Nat} {v : Value} (h : w.cell? ⟨g, 0, none⟩ = some v) : g < w.heap.size := World.block_lt_of_cell? w ⟨g, 0, none⟩ h
theorem RowJ.grown {w w' : World} {g : Nat} {j : JD} {row : Option Nat} (h : RowJ w g j) (hg : w.grownBy w' row) (hne : some g ≠ row) : RowJ w' g j := by
  unfold RowJ at h ⊢
  rw [hg.block g (rowLt h) hne]; exact h
theorem ZB.grown {w w' : World} {g n : Nat} {t : TypeId} {row : Option Nat} (h : ZB w g n t) (hg : w.grownBy w' row) (hne : some g ≠ row) : ZB w' g n t := by
  obtain ⟨old, h1, h2⟩ := h
  exact ⟨old, h1, by rw [hg.block g (rowLt h2) hne]; exact h2⟩
theorem index_app (p v : List UInt8) (h : (32 : UInt8) ∉ p) : Lib.index (p ++ 32 :: v) [32] = (p.length : Nat) := by
  induction p with
  | nil => rw [List.nil_append, index_one_cons, if_pos rfl]; rfl
  | cons b p ih =>
    rw [List.cons_append, index_one_cons]
    have hb : ¬ b = 32 := fun e => h (by rw [e]; simp)
    have := ih (fun e => h (by simp [e]))
    rw [if_neg hb, this, if_neg (by omega)]
    simp
def nameT (i : Nat) : List UInt8 := (keyT i).take ((keyT i).length - 1)
theorem keyT_name (i : Nat) (h : i < 5) : keyT i = nameT i ++ [32] ∧ (32 : UInt8) ∉ nameT i ∧ (nameT i).length ≤ 8 := by
  have : i = 0 ∨ i = 1 ∨ i = 2 ∨ i = 3 ∨ i = 4 := by omega
  rcases this with rfl | rfl | rfl | rfl | rfl <;> decide
theorem cut_key (i : Nat) (h : i < 5) (v : List UInt8) : Lib.cut (keyT i ++ v) [32] = (nameT i, v, true) := by
  obtain ⟨e, hno, _⟩ := keyT_name i h
  rw [e, List.append_assoc]
  show Lib.cut (nameT i ++ 32 :: v) [32] = _
  rw [cut_hit 32 _ _ (index_app _ v hno)]
  simp
theorem trimB_len (x : List UInt8) : (Lib.trimB x 32).length ≤ x.length := by
  unfold Lib.trimB Lib.trimLeftB Lib.trimRightB
  refine Nat.le_trans ((List.dropWhile_sublist _).length_le) ?_
  rw [List.length_reverse]
  refine Nat.le_trans ((List.dropWhile_sublist _).length_le) ?_
  rw [List.length_reverse]
  exact Nat.le_refl _
set_option maxRecDepth 100000 in
theorem fun_nil (w : World) (f : Nat) (gp : Nat) : (binOp .eql 48 (.func (.func f) #[] #[.pointer (some ⟨gp, 0, none⟩)]) .nilFunc).run Tryz.prog w = .ok (.bool false) w := by
  have he : (Op.equal 48 (.func (.func f) #[] #[.pointer (some ⟨gp, 0, none⟩)]) .nilFunc).run Tryz.prog w = .ok false w := by
    unfold Op.equal
    rw [show Op.maxDepth = 9999 + 1 from rfl]
    unfold Op.equalIn
    simp [Sem.run_bind, run_underlying Tryz.underlying48]
  simp [binOp, go_sem, Tryz.underlying48, he]
theorem cut_from (w : World) (nm v : List UInt8) (hs : (nm ++ 32 :: v).length ≤ 4294967000) :
    (Instr.slice 9 (.string ⟨(nm ++ 32 :: v).toArray⟩) (some (.int .i64 ((nm.length : Nat) + 1))) none none).run Tryz.prog w = .ok (.string ⟨v.toArray⟩) w := by
  have hz : (⟨(nm ++ 32 :: v).toArray⟩ : ByteArray).size = nm.length + 1 + v.length := by simp [ByteArray.size]; omega
  rw [run_slice_string_from_if w 9 _ .i64 _ Tryz.underlying9, if_pos (by rw [hz]; omega)]
  congr 2
  apply ByteArray.ext
  have e : ((nm.length : Int) + 1).toNat = nm.length + 1 := by omega
  rw [e]
  apply Array.toList_inj.1
  rw [Lib.extract_data]
  simp
  rw [hz, List.take_of_length_le (by omega)]
theorem oneJ (j : JD) : j.cells.toArray.all (·.oneCell') = true := by unfold JD.cells; simp [encB, Value.oneCell']
def StrB (w : World) (gs : Nat) (xs : List (List UInt8)) : Prop := w.heap[gs]? = some (.cells (xs.map fun x => Value.string ⟨x.toArray⟩).toArray 9 (0, 0))
theorem StrB.of {w w' : World} {gs : Nat} {xs : List (List UInt8)} (h : StrB w gs xs) (e : w'.heap[gs]? = w.heap[gs]?) : StrB w' gs xs := e.trans h
theorem wpList_load_rowH {P : Program} {ops : Array Oper} {rest : List Oper} {o : Oper} {a : Act} {w : World} {Q : Exit → Act → World → Prop} (hgd : Region.wanted o (yielded ops a.tmps) = true) (ty : TypeId) (x : Operand) (ho : o.op = .load ty x)
    (g : Nat) (hx : a.eval x = .pointer (some ⟨g, 0, none⟩)) (t : TypeId) (cs : Array Value) (fr : Nat × Nat) (d : TypeDesc) (hg : w.heap[g]? = some (.cells cs t fr))
    (hu : P.underlying ty = some d) (hd : (match d with | .struct _ | .array _ _ => true | _ => false) = true) (hi : (P.info? ty).map (·.size) = some cs.size)
    (h : wpList P ops Q rest (a.put o.dst (.agg cs)) w) : wpList P ops Q (o :: rest) a w := by
  refine wpList_step fun K hK => ?_
  rw [if_pos hgd]
  exact wp_load_row ty x ho g hx t cs fr d hg hu hd hi (hK _ _ h)
set_option maxHeartbeats 8000000 in
set_option maxRecDepth 100000 in
theorem Parse_any (w : World) (s : List UInt8) (evs : List (Option (Nat × List UInt8))) (L' : List Nat) (j' rj : JD) (re : Int) (hs : s.length ≤ 4294967000) (hl : (sp 10 s).length = evs.length) (hev : ∀ (k : Nat) (x : List UInt8) (e : Option (Nat × List UInt8)), (sp 10 s)[k]? = some x → evs[k]? = some e → lineIs x e)
    (hrun : runE evs ([4, 3, 2, 1, 0], zeroJ) = some (L', j')) (hn : j'.name.length ≤ 4294967000) (hm : j'.main.length ≤ 4294967000)
    (hres : (L' = [] ∧ okJ j' = true ∧ rj = j' ∧ re = 0) ∨ ((L' ≠ [] ∨ okJ j' = false) ∧ rj = zeroJ ∧ re = 8)) (hv : VW w) :
    Calls Tryz.prog 10 #[.string ⟨s.toArray⟩] w fun e w' => e = .returned (.tuple #[rj.val, .int .i64 re]) ∧ Below w.heap.size w w' := by
  have h1 : Below w.heap.size w (w.alloc (.cells zeroJ.cells.toArray JadT)) := (Below.refl _ _).alloc (Nat.le_refl _) _
  have h2 : ZB (w.alloc (.cells zeroJ.cells.toArray JadT)) w.heap.size 38 JadT := ⟨_, rfl, heap_alloc_last w _⟩
  have h2z : (w.alloc (.cells zeroJ.cells.toArray JadT)).heap.size = w.heap.size + 1 := by simp
  have HB1 := Lib.hid h1
  have HZ1 := Lib.hid h2
  have HZS1 := Lib.hid h2z
  have HV0 := Lib.hid hv
  have HHL := Lib.hid hl
  have HEV := Lib.hid hev
  have HRUN := Lib.hid hrun
  have HRES := Lib.hid hres
  have HNM := Lib.hid (And.intro hn hm)
  clear h1 h2 hv hl hev hrun hres hn hm h2z
  go_enter Tryz.func10, Tryz.ntmps10
  go_upto_region 1 with fail
  change Code.wp _ _ _ _ (w.alloc (.cells zeroJ.cells.toArray JadT))
  generalize w.alloc (.cells zeroJ.cells.toArray JadT) = w1 at *
  go_upto_region 2 with fail
  have h3 : Below w1.heap.size w1 (w1.alloc (.cells zeroJ.cells.toArray JadT)) := (Below.refl _ _).alloc (Nat.le_refl _) _
  have h4 : RowJ (w1.alloc (.cells zeroJ.cells.toArray JadT)) w1.heap.size zeroJ := heap_alloc_last w1 _
  have h5 : (w1.alloc (.cells zeroJ.cells.toArray JadT)).heap.size = w1.heap.size + 1 := by simp
  change Code.wp _ _ _ _ (w1.alloc (.cells zeroJ.cells.toArray JadT))
  have HB2 := Lib.hid (HB1.out.trans (h3.mono (by rw [HZS1.out]; omega)))
  have HZ2 := Lib.hid (HZ1.out.below h3)
  have HJ2 := Lib.hid h4
  obtain ⟨gj, hgj⟩ : ∃ gj, gj = w1.heap.size := ⟨_, rfl⟩
  rw [← hgj] at HJ2
  have hgB : gj = w.heap.size + 1 := by rw [hgj, HZS1.out]
  have hz2 : (w1.alloc (.cells zeroJ.cells.toArray JadT)).heap.size = w.heap.size + 2 := by rw [h5, HZS1.out]
  rw [← hgj]
  have hgB1 : w.heap.size < gj := by omega
  have HGB := Lib.hid hgB
  have HZE := Lib.hid hz2
  clear h3 h4 h5 HB1 HZ1 HZS1 hgj hgB hz2
  generalize w1.alloc (.cells zeroJ.cells.toArray JadT) = w2 at *
  go_wp2_with fail
  refine (fields_any w2 gj).mono ?_
  rintro e w3 ⟨gm, gp, rfl, hgm, hgp, hne, hmap, hpc, hb3⟩
  have hz2 := HZE.out
  have hgB := HGB.out
  have HB3 := Lib.hid (HB2.out.trans (hb3.mono (by omega)))
  have HZ3 := Lib.hid (HZ2.out.below hb3)
  have HJ3 := Lib.hid (HJ2.out.below hb3)
  have HM3 := Lib.hid hmap
  have HP3 := Lib.hid hpc
  have HS := Lib.hid (Split_any w3 s 10 hs (HV0.out.below HB3.out))
  have HXL := Lib.hid (show ∀ x ∈ sp 10 s, x.length ≤ 4294967000 from fun x hx => Nat.le_trans (sp_len_mem 10 s x hx) hs)
  have hxn : (sp 10 s).length ≤ 4294967001 := Nat.le_trans (sp_length 10 s) (by omega)
  have hjm : gj < gm := by omega
  have hjp : gj < gp := by omega
  clear hmap hpc hb3 HB2 HZ2 HJ2 hs hz2 hgB hgm hgp HZE HGB
  obtain ⟨xs, hxs⟩ : ∃ xs, xs = sp 10 s := ⟨_, rfl⟩
  rw [← hxs] at HS HXL HHL HEV hxn
  clear hxs
  go_wp2_with fail
  refine HS.out.mono ?_
  rintro e w4 ⟨rfl, hw4⟩
  have hb4 : Below w3.heap.size w3 w4 := by rw [hw4]; exact (Below.refl _ _).alloc (Nat.le_refl _) _
  have hrow4 : w4.heap[w3.heap.size]? = some (.cells (xs.map fun x => Value.string ⟨x.toArray⟩).toArray 9 (0, 0)) := by rw [hw4]; exact heap_alloc_last w3 _
  have hgs1 : gm < w3.heap.size := HM3.out.lt
  have hgs2 : gp < w3.heap.size := cellLt HP3.out
  have HS4 := Lib.hid (show StrB w4 w3.heap.size xs from hrow4)
  have HZ4 := Lib.hid (HZ3.out.below hb4)
  have HJ4 := Lib.hid (HJ3.out.below hb4)
  have HM4 := Lib.hid (HM3.out.kept (grown_belowJ (row := none) hb4) (by simp))
  have HP4 := Lib.hid (cell_below HP3.out hb4)
  have HB4 := Lib.hid (HB3.out.trans (hb4.mono HB3.out.size))
  clear hb4 hrow4 hw4 HS HZ3 HJ3 HM3 HP3 HB3
  generalize w3.heap.size = gs at *
  obtain ⟨n, hn⟩ : ∃ n, n = xs.length := ⟨_, rfl⟩
  rw [← hn] at hxn HHL ⊢
  have HN := Lib.hid hn
  clear hn
  go_wp2_with fail
  go_loopg [16] n (fun gn i wr => ∃ (k : Nat) (L : List Nat) (j : JD), k ≤ n ∧ gn = n - k ∧ i = .int .i64 k ∧ Hid (runE (evs.drop k) (L, j) = some (L', j')) ∧ Hid (j.hash.length = 32) ∧ Hid (RowJ wr gj j) ∧ Hid (MapN wr gm gp 5 L) ∧ Hid (Below w.heap.size w wr) ∧ Hid (wr.cell? ⟨gp, 0, none⟩ = some (.pointer (some ⟨gj, 0, none⟩))) ∧ Hid (StrB wr gs xs) ∧ Hid (ZB wr w.heap.size 38 JadT))
  case atStart => exact ⟨0, [4, 3, 2, 1, 0], zeroJ, by omega, by omega, by go_num, HRUN, Lib.hid rfl, HJ4, HM4, HB4, HP4, HS4, HZ4⟩
  case round =>
    clear HJ4 HM4 HB4 HP4 HS4 HZ4 HRUN
    obtain ⟨k, L, j, hk, rfl, rfl, HRE, HH, HR, HM, HB, HP, HS, HZ⟩ := hrel
    by_cases hlt : k < n
    · have k1 : (k : Int) < n := by omega
      have hkx : k < xs.length := by rw [← HN.out]; exact hlt
      have hke : k < evs.length := by rw [← HHL.out]; exact hlt
      have q0 : wr.cell? ⟨gs, k, none⟩ = some (.string ⟨(xs[k]).toArray⟩) := by rw [cell_of_row _ gs k _ _ _ HS.out]; simp [hkx]
      have hli := HEV.out k xs[k] evs[k] (List.getElem?_eq_getElem hkx) (List.getElem?_eq_getElem hke)
      have hre := HRE.out
      rw [List.drop_eq_getElem_cons hke] at hre
      have hxl := HXL.out _ (List.getElem_mem hkx)
      have HTR := Lib.hid (Trim_any wr xs[k] hxl)
      have hyl := Nat.le_trans (trimB_len xs[k]) hxl
      generalize hev : evs[k] = ev at *
      clear hev
      generalize xs[k] = x at *
      cases ev with
      | none =>
        have hy : Lib.trimB x 32 = [] := hli
        rw [hy] at HTR
        have HRN := Lib.hid (show runE (evs.drop (k + 1)) (L, j) = some (L', j') from hre)
        clear hli hre hkx hke hxl hyl HRE hy
        go_wp2_with fail
        refine HTR.out.mono ?_
        rintro e wa ⟨rfl, hba, hha⟩
        have HR2 := Lib.hid (HR.out.below hba)
        have HM2 := Lib.hid (HM.out.kept (grown_belowJ (row := none) hba) (by simp))
        have HB2 := Lib.hid (HB.out.trans (hba.mono HB.out.size))
        have HP2 := Lib.hid (cell_below HP.out hba)
        have HS2 := Lib.hid (HS.out.of (w' := wa) (by rw [hha]))
        have HZ2 := Lib.hid (HZ.out.below hba)
        clear hba hha
        go_wp2_with fail
        go_roundg (n - (k + 1))
        case measure => omega
        case rel => exact ⟨k + 1, L, j, by omega, rfl, by go_num, HRN, HH, HR2, HM2, HB2, HP2, HS2, HZ2⟩
      | some iv =>
        obtain ⟨i, v⟩ := iv
        have hy : Lib.trimB x 32 = keyT i ++ v := hli.1
        have hi5 : i < 5 := hli.2
        have hgo : i ∈ L ∧ setOk i v = true := by
          by_cases h : i ∈ L ∧ setOk i v = true
          · exact h
          · rw [runE, if_neg h] at hre; cases hre
        rw [runE, if_pos hgo] at hre
        have HRN := Lib.hid hre
        have HHN := Lib.hid (setJ_hash (i := i) (v := v) HH.out)
        have HIL := Lib.hid hgo.1
        have HOK := Lib.hid hgo.2
        obtain ⟨hkn, hno, hnl⟩ := keyT_name i hi5
        rw [hy] at HTR hyl
        have hcut := cut_key i hi5 v
        have hsl := fun w => cut_from w (nameT i) v (by rw [hkn] at hyl; simpa using hyl)
        rw [hkn] at HTR hyl hcut
        rw [show nameT i ++ [32] ++ v = nameT i ++ 32 :: v by simp] at HTR hyl hcut
        have HVL := Lib.hid (show v.length ≤ 4294967000 by simp at hyl; omega)
        have HKY := Lib.hid (show ((⟨(nameT i).toArray⟩ : ByteArray) ++ ⟨#[32]⟩) = ⟨(keyT i).toArray⟩ by rw [hkn, ← str_app])
        have HCU := Lib.hid (fun wa (h : VW wa) => Cut_any wa (nameT i ++ 32 :: v) 32 hyl h)
        rw [hcut] at HCU
        have hne2 : (nameT i ++ 32 :: v) ≠ [] := by simp
        generalize hyy : nameT i ++ 32 :: v = y at *
        generalize nameT i = nm at *
        have hcat : ¬ 9223372036854775807 < nm.length + 1 := by omega
        have hemp : y.isEmpty = false := by cases y with | nil => exact absurd rfl hne2 | cons _ _ => rfl
        have hysz : (⟨y.toArray⟩ : ByteArray) ≠ ⟨#[]⟩ := fun h => hne2 (by have := congrArg (fun b => b.data.toList) h; simpa using this)
        clear hli hre hkx hke hxl hyl HRE hy hgo hkn hno hcut hyy hne2
        go_wp2_with fail
        refine HTR.out.mono ?_
        rintro e wa ⟨rfl, hba, hha⟩
        have HCU2 := Lib.hid (HCU.out wa (HV0.out.below (HB.out.trans (hba.mono HB.out.size))))
        clear HCU HTR
        go_wp2_with fail
        refine HCU2.out.mono ?_
        rintro e wc ⟨rfl, hbc, hhc⟩
        have hbac : Below wr.heap.size wr wc := hba.trans (hbc.mono hba.size)
        have HR3 := Lib.hid (HR.out.below hbac)
        have HM3 := Lib.hid (HM.out.kept (grown_belowJ (row := none) hbac) (by simp))
        have HB3 := Lib.hid (HB.out.trans (hbac.mono HB.out.size))
        have HP3 := Lib.hid (cell_below HP.out hbac)
        have HS3 := Lib.hid (HS.out.of (w' := wc) (by rw [hhc, hha]))
        have HZ3 := Lib.hid (HZ.out.below hbac)
        clear hba hha hbc hhc hbac HCU2 HR HM HB HP HS HZ
        have h5 : i = 0 ∨ i = 1 ∨ i = 2 ∨ i = 3 ∨ i = 4 := by omega
        clear hi5
        rcases h5 with rfl | rfl | rfl | rfl | rfl
        · have HSET := Lib.hid (show Calls Tryz.prog 47 #[.string ⟨v.toArray⟩, .pointer (some ⟨gp, 0, none⟩)] wc (SetRet wc gj j 0 v) from set0_any wc gp gj j v HP3.out HR3.out)
          have hlk : (Instr.lookup 52 (.map (some gm)) (.string (⟨nm.toArray⟩ ++ ⟨#[32]⟩)) false).run Tryz.prog wc = .ok (.func (.func 47) #[] #[.pointer (some ⟨gp, 0, none⟩)]) wc := by
            rw [HKY.out]
            have h := HM3.out.get (i := 0) (by decide)
            rw [if_pos HIL.out] at h
            exact h
          have hfn := fun w => fun_nil w 47 gp
          go_wp2_with fail
          refine HSET.out.mono ?_
          rintro e wd ⟨rfl, hrow, hgr⟩
          clear hlk HSET hfn
          rw [HOK.out]
          have HR4 := Lib.hid hrow
          have HM4 := Lib.hid (HM3.out.kept hgr (by intro h; have := Option.some.inj h; omega))
          have HB4 := Lib.hid (show Below w.heap.size w wd from HB3.out.grown hgr (by have := HB3.out.size; omega) (fun k hk => by have := Option.some.inj hk; omega))
          have HP4 := Lib.hid (show wd.cell? ⟨gp, 0, none⟩ = some (.pointer (some ⟨gj, 0, none⟩)) by rw [World.cell?_of_block (hgr.block gp (cellLt HP3.out) (by intro h; have := Option.some.inj h; omega))]; exact HP3.out)
          have HS4 := Lib.hid (HS3.out.of (hgr.block gs (rowLt HS3.out) (by intro h; have := Option.some.inj h; omega)))
          have HZ4 := Lib.hid (HZ3.out.grown hgr (by intro h; have := Option.some.inj h; omega))
          clear hrow hgr HR3 HM3 HB3 HP3 HS3 HZ3
          obtain ⟨hnd, h5, D, hown, hsz, hat⟩ := HM4.out
          have htd := hown.tidy str_keys
          go_wp2_with (at_delete; refine wpList_delete_own _ rfl _ _ 52 9 rfl _ str_keys Tryz.underlying52 _ gm 5 D rfl hown _ _ rfl (by rw [HKY.out]; exact key_of 0) ?_; intro we hown5 hturn5; have HM5 := Lib.hid (MapN.del hnd h5 htd hsz hat HIL.out hown5); have hgr5 := hturn5.grown; clear hown5 hturn5 hown hat)
          have HR5 := Lib.hid (HR4.out.grown hgr5 (by intro h; have := Option.some.inj h; omega))
          have HB5 := Lib.hid (show Below w.heap.size w we from HB4.out.grown hgr5 (by have := HB4.out.size; omega) (fun k hk => by have := Option.some.inj hk; omega))
          have HP5 := Lib.hid (show we.cell? ⟨gp, 0, none⟩ = some (.pointer (some ⟨gj, 0, none⟩)) by rw [World.cell?_of_block (hgr5.block gp (cellLt HP4.out) (by intro h; have := Option.some.inj h; omega))]; exact HP4.out)
          have HS5 := Lib.hid (HS4.out.of (hgr5.block gs (rowLt HS4.out) (by intro h; have := Option.some.inj h; omega)))
          have HZ5 := Lib.hid (HZ4.out.grown hgr5 (by intro h; have := Option.some.inj h; omega))
          go_roundg (n - (k + 1))
          case measure => omega
          case rel => exact ⟨k + 1, L.erase 0, setJ 0 v j, by omega, rfl, by go_num, HRN, HHN, HR5, HM5, HB5, HP5, HS5, HZ5⟩
        · have HSET := Lib.hid (show Calls Tryz.prog 48 #[.string ⟨v.toArray⟩, .pointer (some ⟨gp, 0, none⟩)] wc (SetRet wc gj j 1 v) from set1_any wc gp gj j v HP3.out HR3.out HVL.out (HV0.out.below HB3.out))
          have hlk : (Instr.lookup 52 (.map (some gm)) (.string (⟨nm.toArray⟩ ++ ⟨#[32]⟩)) false).run Tryz.prog wc = .ok (.func (.func 48) #[] #[.pointer (some ⟨gp, 0, none⟩)]) wc := by
            rw [HKY.out]
            have h := HM3.out.get (i := 1) (by decide)
            rw [if_pos HIL.out] at h
            exact h
          have hfn := fun w => fun_nil w 48 gp
          go_wp2_with fail
          refine HSET.out.mono ?_
          rintro e wd ⟨rfl, hrow, hgr⟩
          clear hlk HSET hfn
          rw [HOK.out]
          have HR4 := Lib.hid hrow
          have HM4 := Lib.hid (HM3.out.kept hgr (by intro h; have := Option.some.inj h; omega))
          have HB4 := Lib.hid (show Below w.heap.size w wd from HB3.out.grown hgr (by have := HB3.out.size; omega) (fun k hk => by have := Option.some.inj hk; omega))
          have HP4 := Lib.hid (show wd.cell? ⟨gp, 0, none⟩ = some (.pointer (some ⟨gj, 0, none⟩)) by rw [World.cell?_of_block (hgr.block gp (cellLt HP3.out) (by intro h; have := Option.some.inj h; omega))]; exact HP3.out)
          have HS4 := Lib.hid (HS3.out.of (hgr.block gs (rowLt HS3.out) (by intro h; have := Option.some.inj h; omega)))
          have HZ4 := Lib.hid (HZ3.out.grown hgr (by intro h; have := Option.some.inj h; omega))
          clear hrow hgr HR3 HM3 HB3 HP3 HS3 HZ3
          obtain ⟨hnd, h5, D, hown, hsz, hat⟩ := HM4.out
          have htd := hown.tidy str_keys
          go_wp2_with (at_delete; refine wpList_delete_own _ rfl _ _ 52 9 rfl _ str_keys Tryz.underlying52 _ gm 5 D rfl hown _ _ rfl (by rw [HKY.out]; exact key_of 1) ?_; intro we hown5 hturn5; have HM5 := Lib.hid (MapN.del hnd h5 htd hsz hat HIL.out hown5); have hgr5 := hturn5.grown; clear hown5 hturn5 hown hat)
          have HR5 := Lib.hid (HR4.out.grown hgr5 (by intro h; have := Option.some.inj h; omega))
          have HB5 := Lib.hid (show Below w.heap.size w we from HB4.out.grown hgr5 (by have := HB4.out.size; omega) (fun k hk => by have := Option.some.inj hk; omega))
          have HP5 := Lib.hid (show we.cell? ⟨gp, 0, none⟩ = some (.pointer (some ⟨gj, 0, none⟩)) by rw [World.cell?_of_block (hgr5.block gp (cellLt HP4.out) (by intro h; have := Option.some.inj h; omega))]; exact HP4.out)
          have HS5 := Lib.hid (HS4.out.of (hgr5.block gs (rowLt HS4.out) (by intro h; have := Option.some.inj h; omega)))
          have HZ5 := Lib.hid (HZ4.out.grown hgr5 (by intro h; have := Option.some.inj h; omega))
          go_roundg (n - (k + 1))
          case measure => omega
          case rel => exact ⟨k + 1, L.erase 1, setJ 1 v j, by omega, rfl, by go_num, HRN, HHN, HR5, HM5, HB5, HP5, HS5, HZ5⟩
        · have HSET := Lib.hid (show Calls Tryz.prog 49 #[.string ⟨v.toArray⟩, .pointer (some ⟨gp, 0, none⟩)] wc (SetRet wc gj j 2 v) from set2_any wc gp gj j v HP3.out HR3.out)
          have hlk : (Instr.lookup 52 (.map (some gm)) (.string (⟨nm.toArray⟩ ++ ⟨#[32]⟩)) false).run Tryz.prog wc = .ok (.func (.func 49) #[] #[.pointer (some ⟨gp, 0, none⟩)]) wc := by
            rw [HKY.out]
            have h := HM3.out.get (i := 2) (by decide)
            rw [if_pos HIL.out] at h
            exact h
          have hfn := fun w => fun_nil w 49 gp
          go_wp2_with fail
          refine HSET.out.mono ?_
          rintro e wd ⟨rfl, hrow, hgr⟩
          clear hlk HSET hfn
          rw [HOK.out]
          have HR4 := Lib.hid hrow
          have HM4 := Lib.hid (HM3.out.kept hgr (by intro h; have := Option.some.inj h; omega))
          have HB4 := Lib.hid (show Below w.heap.size w wd from HB3.out.grown hgr (by have := HB3.out.size; omega) (fun k hk => by have := Option.some.inj hk; omega))
          have HP4 := Lib.hid (show wd.cell? ⟨gp, 0, none⟩ = some (.pointer (some ⟨gj, 0, none⟩)) by rw [World.cell?_of_block (hgr.block gp (cellLt HP3.out) (by intro h; have := Option.some.inj h; omega))]; exact HP3.out)
          have HS4 := Lib.hid (HS3.out.of (hgr.block gs (rowLt HS3.out) (by intro h; have := Option.some.inj h; omega)))
          have HZ4 := Lib.hid (HZ3.out.grown hgr (by intro h; have := Option.some.inj h; omega))
          clear hrow hgr HR3 HM3 HB3 HP3 HS3 HZ3
          obtain ⟨hnd, h5, D, hown, hsz, hat⟩ := HM4.out
          have htd := hown.tidy str_keys
          go_wp2_with (at_delete; refine wpList_delete_own _ rfl _ _ 52 9 rfl _ str_keys Tryz.underlying52 _ gm 5 D rfl hown _ _ rfl (by rw [HKY.out]; exact key_of 2) ?_; intro we hown5 hturn5; have HM5 := Lib.hid (MapN.del hnd h5 htd hsz hat HIL.out hown5); have hgr5 := hturn5.grown; clear hown5 hturn5 hown hat)
          have HR5 := Lib.hid (HR4.out.grown hgr5 (by intro h; have := Option.some.inj h; omega))
          have HB5 := Lib.hid (show Below w.heap.size w we from HB4.out.grown hgr5 (by have := HB4.out.size; omega) (fun k hk => by have := Option.some.inj hk; omega))
          have HP5 := Lib.hid (show we.cell? ⟨gp, 0, none⟩ = some (.pointer (some ⟨gj, 0, none⟩)) by rw [World.cell?_of_block (hgr5.block gp (cellLt HP4.out) (by intro h; have := Option.some.inj h; omega))]; exact HP4.out)
          have HS5 := Lib.hid (HS4.out.of (hgr5.block gs (rowLt HS4.out) (by intro h; have := Option.some.inj h; omega)))
          have HZ5 := Lib.hid (HZ4.out.grown hgr5 (by intro h; have := Option.some.inj h; omega))
          go_roundg (n - (k + 1))
          case measure => omega
          case rel => exact ⟨k + 1, L.erase 2, setJ 2 v j, by omega, rfl, by go_num, HRN, HHN, HR5, HM5, HB5, HP5, HS5, HZ5⟩
        · have HSET := Lib.hid (show Calls Tryz.prog 50 #[.string ⟨v.toArray⟩, .pointer (some ⟨gp, 0, none⟩)] wc (SetRet wc gj j 3 v) from set3_any wc gp gj j v HP3.out HR3.out HVL.out (HV0.out.below HB3.out))
          have hlk : (Instr.lookup 52 (.map (some gm)) (.string (⟨nm.toArray⟩ ++ ⟨#[32]⟩)) false).run Tryz.prog wc = .ok (.func (.func 50) #[] #[.pointer (some ⟨gp, 0, none⟩)]) wc := by
            rw [HKY.out]
            have h := HM3.out.get (i := 3) (by decide)
            rw [if_pos HIL.out] at h
            exact h
          have hfn := fun w => fun_nil w 50 gp
          go_wp2_with fail
          refine HSET.out.mono ?_
          rintro e wd ⟨rfl, hrow, hgr⟩
          clear hlk HSET hfn
          rw [HOK.out]
          have HR4 := Lib.hid hrow
          have HM4 := Lib.hid (HM3.out.kept hgr (by intro h; have := Option.some.inj h; omega))
          have HB4 := Lib.hid (show Below w.heap.size w wd from HB3.out.grown hgr (by have := HB3.out.size; omega) (fun k hk => by have := Option.some.inj hk; omega))
          have HP4 := Lib.hid (show wd.cell? ⟨gp, 0, none⟩ = some (.pointer (some ⟨gj, 0, none⟩)) by rw [World.cell?_of_block (hgr.block gp (cellLt HP3.out) (by intro h; have := Option.some.inj h; omega))]; exact HP3.out)
          have HS4 := Lib.hid (HS3.out.of (hgr.block gs (rowLt HS3.out) (by intro h; have := Option.some.inj h; omega)))
          have HZ4 := Lib.hid (HZ3.out.grown hgr (by intro h; have := Option.some.inj h; omega))
          clear hrow hgr HR3 HM3 HB3 HP3 HS3 HZ3
          obtain ⟨hnd, h5, D, hown, hsz, hat⟩ := HM4.out
          have htd := hown.tidy str_keys
          go_wp2_with (at_delete; refine wpList_delete_own _ rfl _ _ 52 9 rfl _ str_keys Tryz.underlying52 _ gm 5 D rfl hown _ _ rfl (by rw [HKY.out]; exact key_of 3) ?_; intro we hown5 hturn5; have HM5 := Lib.hid (MapN.del hnd h5 htd hsz hat HIL.out hown5); have hgr5 := hturn5.grown; clear hown5 hturn5 hown hat)
          have HR5 := Lib.hid (HR4.out.grown hgr5 (by intro h; have := Option.some.inj h; omega))
          have HB5 := Lib.hid (show Below w.heap.size w we from HB4.out.grown hgr5 (by have := HB4.out.size; omega) (fun k hk => by have := Option.some.inj hk; omega))
          have HP5 := Lib.hid (show we.cell? ⟨gp, 0, none⟩ = some (.pointer (some ⟨gj, 0, none⟩)) by rw [World.cell?_of_block (hgr5.block gp (cellLt HP4.out) (by intro h; have := Option.some.inj h; omega))]; exact HP4.out)
          have HS5 := Lib.hid (HS4.out.of (hgr5.block gs (rowLt HS4.out) (by intro h; have := Option.some.inj h; omega)))
          have HZ5 := Lib.hid (HZ4.out.grown hgr5 (by intro h; have := Option.some.inj h; omega))
          go_roundg (n - (k + 1))
          case measure => omega
          case rel => exact ⟨k + 1, L.erase 3, setJ 3 v j, by omega, rfl, by go_num, HRN, HHN, HR5, HM5, HB5, HP5, HS5, HZ5⟩
        · have HSET := Lib.hid (show Calls Tryz.prog 51 #[.string ⟨v.toArray⟩, .pointer (some ⟨gp, 0, none⟩)] wc (SetRet wc gj j 4 v) from set4_any wc gp gj j v HP3.out HR3.out HH.out HVL.out)
          have hlk : (Instr.lookup 52 (.map (some gm)) (.string (⟨nm.toArray⟩ ++ ⟨#[32]⟩)) false).run Tryz.prog wc = .ok (.func (.func 51) #[] #[.pointer (some ⟨gp, 0, none⟩)]) wc := by
            rw [HKY.out]
            have h := HM3.out.get (i := 4) (by decide)
            rw [if_pos HIL.out] at h
            exact h
          have hfn := fun w => fun_nil w 51 gp
          go_wp2_with fail
          refine HSET.out.mono ?_
          rintro e wd ⟨rfl, hrow, hgr⟩
          clear hlk HSET hfn
          rw [HOK.out]
          have HR4 := Lib.hid hrow
          have HM4 := Lib.hid (HM3.out.kept hgr (by intro h; have := Option.some.inj h; omega))
          have HB4 := Lib.hid (show Below w.heap.size w wd from HB3.out.grown hgr (by have := HB3.out.size; omega) (fun k hk => by have := Option.some.inj hk; omega))
          have HP4 := Lib.hid (show wd.cell? ⟨gp, 0, none⟩ = some (.pointer (some ⟨gj, 0, none⟩)) by rw [World.cell?_of_block (hgr.block gp (cellLt HP3.out) (by intro h; have := Option.some.inj h; omega))]; exact HP3.out)
          have HS4 := Lib.hid (HS3.out.of (hgr.block gs (rowLt HS3.out) (by intro h; have := Option.some.inj h; omega)))
          have HZ4 := Lib.hid (HZ3.out.grown hgr (by intro h; have := Option.some.inj h; omega))
          clear hrow hgr HR3 HM3 HB3 HP3 HS3 HZ3
          obtain ⟨hnd, h5, D, hown, hsz, hat⟩ := HM4.out
          have htd := hown.tidy str_keys
          go_wp2_with (at_delete; refine wpList_delete_own _ rfl _ _ 52 9 rfl _ str_keys Tryz.underlying52 _ gm 5 D rfl hown _ _ rfl (by rw [HKY.out]; exact key_of 4) ?_; intro we hown5 hturn5; have HM5 := Lib.hid (MapN.del hnd h5 htd hsz hat HIL.out hown5); have hgr5 := hturn5.grown; clear hown5 hturn5 hown hat)
          have HR5 := Lib.hid (HR4.out.grown hgr5 (by intro h; have := Option.some.inj h; omega))
          have HB5 := Lib.hid (show Below w.heap.size w we from HB4.out.grown hgr5 (by have := HB4.out.size; omega) (fun k hk => by have := Option.some.inj hk; omega))
          have HP5 := Lib.hid (show we.cell? ⟨gp, 0, none⟩ = some (.pointer (some ⟨gj, 0, none⟩)) by rw [World.cell?_of_block (hgr5.block gp (cellLt HP4.out) (by intro h; have := Option.some.inj h; omega))]; exact HP4.out)
          have HS5 := Lib.hid (HS4.out.of (hgr5.block gs (rowLt HS4.out) (by intro h; have := Option.some.inj h; omega)))
          have HZ5 := Lib.hid (HZ4.out.grown hgr5 (by intro h; have := Option.some.inj h; omega))
          go_roundg (n - (k + 1))
          case measure => omega
          case rel => exact ⟨k + 1, L.erase 4, setJ 4 v j, by omega, rfl, by go_num, HRN, HHN, HR5, HM5, HB5, HP5, HS5, HZ5⟩
    · obtain rfl : k = n := by omega
      have hre := HRE.out
      rw [List.drop_eq_nil_of_le (by rw [← HHL.out]; exact Nat.le_refl _), runE, Option.some.injEq, Prod.mk.injEq] at hre
      obtain ⟨rfl, rfl⟩ := hre
      clear HRE
      obtain ⟨hnd, h5, D, hown, hsz, hat⟩ := HM.out
      obtain ⟨m, hm⟩ : ∃ m, m = Maps.size D := ⟨_, rfl⟩
      have HMS := Lib.hid (show m = L.length by rw [hm, hsz])
      have HDM := Lib.hid hm.symm
      clear hm hsz hat hnd h5
      by_cases hL : L = []
      · have HMZ := Lib.hid (show m = 0 by rw [HMS.out, hL]; rfl)
        have HCK := Lib.hid (fun wa (h : VW wa) => Check_any wa j HNM.out.1 HNM.out.2 h)
        have HL := Lib.hid hL
        clear hL
        have hr := HR.out
        unfold RowJ at hr
        obtain ⟨C, hC⟩ : ∃ C, C = j.cells.toArray := ⟨_, rfl⟩
        rw [← hC] at hr
        have HCE := Lib.hid hC
        have HRW := Lib.hid hr
        have HCZ := Lib.hid (show C.size = 38 by rw [hC]; simpa using len38 HH.out)
        have HCO := Lib.hid (show C.all (·.oneCell') = true by rw [hC]; exact oneJ j)
        unfold JD.val at HCK
        rw [← hC] at HCK
        clear hr hC
        go_wp2_with (first
          | (at_len; refine wpList_len_own _ rfl _ 52 rfl 9 _ Tryz.underlying52 _ gm 5 D rfl hown ?_; rw [HDM.out, HMZ.out])
          | (refine wpList_load_rowH rfl _ _ rfl _ rfl _ _ _ _ HRW.out Tryz.underlying26 rfl (by rw [HCZ.out]; exact info_jad) ?_))
        refine (HCK.out wr (HV0.out.below HB.out)).mono ?_
        rintro e wf ⟨rfl, hbf⟩
        have HZX := Lib.hid (HZ.out.below hbf)
        have HBX := Lib.hid (HB.out.trans (hbf.mono HB.out.size))
        have HRX := Lib.hid (show wf.heap[gj]? = some (.cells C JadT (0, 0)) by rw [hbf.block gj (rowLt HRW.out)]; exact HRW.out)
        clear hbf HCK hown
        by_cases hok : okJ j = true
        · simp only [hok, if_true]
          have HAE := Lib.hid (show rj.val = .agg C ∧ re = 0 by
            rcases HRES.out with h | h
            · exact ⟨by rw [h.2.2.1, HCE.out]; rfl, h.2.2.2⟩
            · rcases h.1 with h2 | h2
              · exact absurd HL.out h2
              · rw [hok] at h2; cases h2)
          obtain ⟨old, hold, hz0⟩ := HZX.out
          have HZ0 := Lib.hid hz0
          have HOLD := Lib.hid hold
          clear hold hz0 hok
          go_wp2_with (first
            | (refine wpList_load_row rfl _ _ rfl _ rfl _ _ _ _ HRX.out Tryz.underlying26 rfl (by rw [HCZ.out]; exact info_jad) ?_)
            | (refine wpList_store_row rfl _ _ _ rfl _ _ rfl rfl _ _ HZ0.out (by rw [HCZ.out]; exact info_jad) (by rw [HCZ.out]; exact HOLD.out) HCO.out ?_))
          refine bodyPost_ret (results_cell_row_tmp rfl _ _ w.heap.size _ _ _ _ rfl (setRow_heap _ _ _ _ _ _ HZ0.out) Tryz.underlying26 rfl (by rw [HCZ.out]; exact info_jad)) rfl ⟨by rw [HAE.out.1, HAE.out.2]; rfl, ?_⟩
          exact below_setRow HBX.out (Nat.le_refl _) _
        · rw [if_neg hok]
          obtain ⟨A, hA⟩ : ∃ A, A = zeroJ.cells.toArray := ⟨_, rfl⟩
          have HSZ := Lib.hid (show A.size = 38 by rw [hA]; rfl)
          have HON := Lib.hid (show A.all (·.oneCell') = true by rw [hA]; exact oneJ zeroJ)
          have HAE := Lib.hid (show rj.val = .agg A ∧ re = 8 by
            rcases HRES.out with h | h
            · exact absurd h (by intro h; exact hok h.2.1)
            · exact ⟨by rw [h.2.1, hA]; rfl, h.2.2⟩)
          have HA := Lib.hid hA
          obtain ⟨old, hold, hz0⟩ := HZX.out
          have HZ0 := Lib.hid hz0
          have HOLD := Lib.hid hold
          clear hA hold hz0 hok
          go_wp2_with (refine wpList_store_row rfl _ _ _ rfl _ A rfl (by rw [HA.out]; rfl) _ _ HZ0.out (by rw [HSZ.out]; exact info_jad) (by rw [HSZ.out]; exact HOLD.out) HON.out ?_)
          refine bodyPost_ret (results_cell_row_tmp rfl _ _ w.heap.size _ _ _ _ rfl (setRow_heap _ _ _ _ _ _ HZ0.out) Tryz.underlying26 rfl (by rw [HSZ.out]; exact info_jad)) rfl ⟨by rw [HAE.out.1, HAE.out.2]; rfl, ?_⟩
          exact below_setRow HBX.out (Nat.le_refl _) _
      · have hm0 : 0 < (m : Int) := by
          have := HMS.out
          have : 0 < L.length := List.length_pos_iff.2 hL
          omega
        have HZX := HZ
        have HBX := HB
        have HL := Lib.hid hL
        clear hL
        obtain ⟨A, hA⟩ : ∃ A, A = zeroJ.cells.toArray := ⟨_, rfl⟩
        have HSZ := Lib.hid (show A.size = 38 by rw [hA]; rfl)
        have HON := Lib.hid (show A.all (·.oneCell') = true by rw [hA]; exact oneJ zeroJ)
        have HAE := Lib.hid (show rj.val = .agg A ∧ re = 8 by
          rcases HRES.out with h | h
          · exact absurd h (by intro h; exact HL.out h.1)
          · exact ⟨by rw [h.2.1, hA]; rfl, h.2.2⟩)
        have HA := Lib.hid hA
        obtain ⟨old, hold, hz0⟩ := HZX.out
        have HZ0 := Lib.hid hz0
        have HOLD := Lib.hid hold
        clear hA hold hz0
        go_wp2_with (first
          | (at_len; refine wpList_len_own _ rfl _ 52 rfl 9 _ Tryz.underlying52 _ gm 5 D rfl hown ?_; rw [HDM.out])
          | (refine wpList_store_row rfl _ _ _ rfl _ A rfl (by rw [HA.out]; rfl) _ _ HZ0.out (by rw [HSZ.out]; exact info_jad) (by rw [HSZ.out]; exact HOLD.out) HON.out ?_))
        refine bodyPost_ret (results_cell_row_tmp rfl _ _ w.heap.size _ _ _ _ rfl (setRow_heap _ _ _ _ _ _ HZ0.out) Tryz.underlying26 rfl (by rw [HSZ.out]; exact info_jad)) rfl ⟨by rw [HAE.out.1, HAE.out.2]; rfl, ?_⟩
        exact below_setRow HBX.out (Nat.le_refl _) _
end Go.Proofs.YtlpjcfiibbcdjaaGreatDoor
