/- ops: Decode. No condition. -/
import Derived.Test.YtfhajbfgdbcpeaaOpsPlain3
namespace Go.Proofs.Ytfhajbfgdbcpeaa
open Go.ChangeShapes Go.WideShapes Go.ChangeAt Go.RowKit
theorem stR : StE 26 36 (.agg #[.int .i64 0, .int .u8 0, .int .i64 0, .int .i64 0]) 4 32 := ⟨Try.underlying26, by kernel_rfl, rfl⟩
theorem own_not_new {w : World} {B : Nat} {e : TypeId} {size : Nat} {v : Value} {n : Nat} {xs : List Value} (h : w.ownsRow B e size v n xs) : some w.heap.size ≠ v.ownBlock := by
  intro he
  have := (h.lt _ he.symm).2
  omega
theorem kept_type {w w' : World} {B : Nat} {e t : TypeId} {size : Nat} {v : Value} {n g : Nat} {xs : List Value} {o : Obj} {cs : Array Value} {fr : Nat × Nat} (ho : w.ownsRow B e size v n xs) (hg : (w.alloc o).grownBy w' v.ownBlock) (hx : w.heap[g]? = some (.cells cs t fr)) (hne : e ≠ t) : w'.heap[g]? = some (.cells cs t fr) := by
  have hlt := (Array.getElem?_eq_some_iff.1 hx).1
  rw [hg.block g (by simp; omega) ?_, Below.heap_alloc _ _ _ hlt]
  · exact hx
  · intro he
    rcases ho.2 with ⟨rfl, _⟩ | ⟨g2, cap, cur, rfl, _, hg2, _⟩
    · simp [Value.ownBlock] at he
    · simp [Value.ownBlock] at he
      subst he
      rw [hg2] at hx
      simp at hx
      exact hne hx.2.1
theorem kept_size {w w' : World} {o : Obj} {row : Option Nat} {g : Nat} (hg : (w.alloc o).grownBy w' row) (h : g < w.heap.size) : g < w'.heap.size := by
  have h1 := hg.size
  simp at h1
  omega
def DecodeRet (R : Int × List RW) (w : World) (e : Ending) (w' : World) : Prop :=
  ∃ v m, e = .returned (.tuple #[v, .int .i64 R.1]) ∧ w'.ownsRow w.heap.size 36 4 v m (R.2.flatMap RW.cells) ∧ (∀ r ∈ R.2, IntRo r.pos ∧ IntRo r.a ∧ r.op < 256) ∧ Below w.heap.size w w'
theorem DecodeRet.err {R : Int × List RW} {w w' : World} {e : Int} (h : R = (e, [])) (hb : Below w.heap.size w w') : DecodeRet R w (.returned (.tuple #[.slice none 0 0, .int .i64 e])) w' := by
  subst h
  exact ⟨_, 0, rfl, World.ownsRow_nil _ _ _ _, (fun r hr => by cases hr), hb⟩
set_option maxRecDepth 100000 in
set_option maxHeartbeats 8000000 in
theorem Decode_any (w : World) (a : Option Addr) (n cap : Nat) (bs : List UInt8) (hs : Sl encB w a n bs) (hn : n ≤ 65536) (hcap : n ≤ cap) : Calls Try.prog 12 #[.slice a n cap] w (DecodeRet (decodeR bs) w) := by
  have HS := Lib.hid hs
  have HLn := Lib.hid hs.1
  obtain ⟨R, hR⟩ : ∃ R, R = decodeR bs := ⟨_, rfl⟩
  rw [← hR]
  have HR := Lib.hid hR
  clear hs hR
  by_cases h4 : 4096 < n
  · have HQ := Lib.hid (show R = (9, []) by rw [HR.out]; exact decode_long (by rw [HLn.out]; exact h4))
    have e1 : decide ((4096 : Int) < n) = true := by simp; omega
    go_enter Try.func12, Try.ntmps12
    go_wp2_with fail
    go_ret2
    exact DecodeRet.err HQ.out (Below.refl _ _)
  have e1 : decide ((4096 : Int) < n) = false := by simp; omega
  have H4 := Lib.hid (show ¬ 4096 < bs.length by rw [HLn.out]; exact h4)
  have hz := zero8
  go_enter Try.func12, Try.ntmps12
  go_wp2_with fail
  refine (forms_any _).mono ?_
  rintro e w1 ⟨rfl, hb1⟩
  have HB1 := Lib.hid hb1
  clear hb1
  go_wp2_with (first
    | (refine wpList_store_new rfl _ _ _ rfl _ rfl rfl _ _ (by rw [tabN_size]; exact infoTab) (by simp [tabN_size, zs8]) (tabN_one _) ?_))
  clear hz
  have HT1 := Lib.hid (heap_alloc_last w1 (.cells (tabN formN) 38))
  have HB2 := Lib.hid (HB1.out.alloc HB1.out.size (.cells (tabN formN) 38))
  have hg1 : w1.heap.size < (w1.alloc (.cells (tabN formN) 38)).heap.size := by simp
  generalize w1.alloc (.cells (tabN formN) 38) = w2 at *
  generalize hgt : w1.heap.size = gt at *
  clear hgt HB1
  go_loopg [5, 6] n (fun gn v i wr => ∃ p fuel m : Nat, ∃ acc, p ≤ n ∧ gn = n - p ∧ i = .int .i64 p ∧ n < fuel + p ∧ m ≤ p ∧ Hid (wr.ownsRow w.heap.size 36 4 v m (acc.flatMap RW.cells)) ∧ Hid (∀ r ∈ acc, IntRo r.pos ∧ IntRo r.a ∧ r.op < 256) ∧
    Hid (wr.heap[gt]? = some (.cells (tabN formN) 38)) ∧ Hid (Below w.heap.size w wr) ∧ Hid (decF bs (bs.length + 1) 0 [] = decF bs fuel p acc) ∧ gt < wr.heap.size)
  case atStart => exact ⟨0, n + 1, 0, [], by omega, by omega, by go_num, by omega, by omega, Lib.hid (World.ownsRow_nil _ _ _ _), Lib.hid (fun r hr => by cases hr), HT1, HB2, Lib.hid (by rw [HLn.out]), hg1⟩
  case round =>
    obtain ⟨p, fuel, m, acc, hp, rfl, rfl, hf, hm, HO, HW, HT, HB, HD, hgl⟩ := hrel
    by_cases hlt : p < n
    · obtain ⟨fuel, rfl⟩ : ∃ f, fuel = f + 1 := ⟨fuel - 1, by omega⟩
      obtain ⟨b, off, rfl, hbl, hc⟩ := (HS.out.below HB.out).2 (by omega)
      have hpl : p < bs.length := by rw [HLn.out]; exact hlt
      have q0 := hc p hpl
      have hop : bs[p].toNat = opAt bs p := by unfold opAt; simp [List.getD, hpl]
      unfold encB at q0
      rw [hop] at q0
      have hol := opAt_lt bs p
      have hf9 := formN_le (opAt bs p)
      have HRD := Lib.hid (fun (w' : World) (hb : Below w.heap.size w w') (g : Nat) (hk : RBlk w' g p (opAt bs p) 0 0) (h0 : formN (opAt bs p) ≠ 0) => read_any w' (some ⟨b, off, none⟩) n cap bs g p (opAt bs p) (formN (opAt bs p)) (HS.out.below hb) (by omega) hcap (by omega) hk h0 hf9)
      have HSZ := Lib.hid (fun (w' : World) => size_any w' (formN (opAt bs p)) hf9)
      have HNO := Lib.hid (decF_none bs fuel p acc hpl)
      have HSH := Lib.hid (decF_short bs fuel p acc hpl)
      have HBA := Lib.hid (decF_bad bs fuel p acc hpl)
      have HNX := Lib.hid (decF_next bs fuel p acc hpl)
      have HRW : Hid (rawAt bs p = ⟨p, opAt bs p, readA bs p (formN (opAt bs p)), readB bs p (formN (opAt bs p))⟩) := Lib.hid rfl
      have HWF := Lib.hid (rawAt_wf bs p (by omega))
      have hsp := fun h0 => sizeN_pos (f := formN (opAt bs p)) h0 hf9
      have hs3 := sizeN_le (formN (opAt bs p))
      have tc : wr.cell? ⟨gt, opAt bs p, none⟩ = some (.int .u8 (formN (opAt bs p) : Nat)) := by rw [cell_of_row wr _ _ _ _ _ HT.out]; exact tabN_at _ _ hol
      have p1 : (p : Int) < n := by omega
      have o1 : (opAt bs p : Int) < 256 := by omega
      rw [HLn.out] at HSH HBA HNX
      clear hc hop hpl
      unfold ReadRet at HRD
      generalize readBad bs p (formN (opAt bs p)) = bad at *
      generalize readA bs p (formN (opAt bs p)) = ra at *
      generalize readB bs p (formN (opAt bs p)) = rb at *
      generalize formN (opAt bs p) = f at *
      generalize sizeN f = s at *
      generalize opAt bs p = o at *
      by_cases h0 : f = 0
      · subst h0
        have HQ := Lib.hid (show R = (8, []) by rw [HR.out]; exact decode_err H4.out (by rw [HD.out]; exact HNO.out rfl) (by decide))
        clear HNO HSH HBA HNX HRD HSZ
        go_wp2_with fail
        go_ret2
        exact DecodeRet.err HQ.out (HB.out.alloc HB.out.size _)
      have hs1 := hsp h0
      have e0 : ((f : Int) == 0) = false := by simp; omega
      clear hsp
      by_cases h1 : n - p < s
      · have HQ := Lib.hid (show R = (6, []) by rw [HR.out]; exact decode_err H4.out (by rw [HD.out]; exact HSH.out h0 h1) (by decide))
        have e2 : decide ((n : Int) - p < s) = true := by simp; omega
        clear HNO HSH HBA HNX HRD h0
        go_wp2_with fail
        refine (HSZ.out _).mono ?_
        rintro e w' ⟨rfl, rfl⟩
        go_wp2_with fail
        go_ret2
        exact DecodeRet.err HQ.out (HB.out.alloc HB.out.size _)
      have e2 : decide ((n : Int) - p < s) = false := by simp; omega
      have H0 := Lib.hid h0
      have H1 := Lib.hid h1
      have hsn : p + s ≤ n := by omega
      clear h0 h1
      go_wp2_with fail
      refine (HSZ.out _).mono ?_
      rintro e w' ⟨rfl, rfl⟩
      go_wp2_with fail
      have hal : Below w.heap.size w (wr.alloc (.cells #[.int .i64 p, .int .u8 (o : Nat), .int .i64 0, .int .i64 0] 36)) := HB.out.alloc HB.out.size _
      refine (HRD.out _ hal wr.heap.size (heap_alloc_last wr _) H0.out).mono ?_
      rintro e w3 ⟨rfl, hk3, hg3⟩
      have HWW := Lib.hid (((Below.refl wr.heap.size wr).alloc (Nat.le_refl _) (.cells #[.int .i64 p, .int .u8 (o : Nat), .int .i64 0, .int .i64 0] 36)).grown hg3 (by simp) (fun k hk => by cases hk; exact Nat.le_refl _))
      have HB3 := Lib.hid (HB.out.trans (HWW.out.mono HB.out.size))
      have HK3 := Lib.hid hk3
      clear hk3 hg3 hal
      obtain ⟨⟨c0, c1, c2, c3⟩, _, hgw⟩ := HK3.out.box
      cases bad
      · simp only [Bool.false_eq_true, if_false]
        have HO3 := Lib.hid (own_below HO.out HWW.out)
        have HT3 := Lib.hid (show w3.heap[gt]? = some (.cells (tabN formN) 38) by rw [HWW.out.block gt hgl]; exact HT.out)
        have hg3' : gt < w3.heap.size := (Array.getElem?_eq_some_iff.1 HT3.out).1
        have HDN := Lib.hid (HD.out.trans (HNX.out H0.out H1.out rfl))
        rw [HRW.out] at HDN HWF
        go_wp2_with (at_builtin; first
          | (refine wpList_appS_lit stR rfl _ _ rfl w.heap.size _ _ _ rfl HO3.out _ 1 _ _ rfl rfl rfl rfl (by omega) (by unfold maxLen; omega) HB3.out.size ?_; intro v4 w4 hown4 hg4 hb4; have HO4 := Lib.hid hown4; have HB4 := Lib.hid (HB3.out.trans hb4); have HT4 := Lib.hid (kept_type HO3.out hg4 HT3.out (by decide)); have hg4' := kept_size hg4 hg3'; clear hown4 hg4 hb4))
        refine (HSZ.out _).mono ?_
        rintro e w' ⟨rfl, rfl⟩
        go_wp2_with fail
        go_roundg (n - (p + s))
        case measure => omega
        case rel => exact ⟨p + s, fuel, m + 1, acc ++ [⟨p, o, ra, rb⟩], by omega, rfl, by go_num, by omega, by omega, Lib.hid (by rw [List.flatMap_append]; exact HO4.out), Lib.hid (fun r hr => by
          rcases List.mem_append.1 hr with h | h
          · exact HW.out r h
          · rw [List.mem_singleton.1 h]; exact HWF.out), HT4, HB4, HDN, hg4'⟩
      · simp only [if_true]
        have HQ := Lib.hid (show R = (8, []) by rw [HR.out]; exact decode_err H4.out (by rw [HD.out]; exact HBA.out H0.out H1.out rfl) (by decide))
        clear HNO HSH HBA HNX HRD HSZ
        go_wp2_with fail
        go_ret2
        exact DecodeRet.err HQ.out HB3.out
    · obtain rfl : p = n := by omega
      have HDE := Lib.hid (HD.out.trans (decF_end bs fuel p acc (by rw [HLn.out]; exact Nat.le_refl _)))
      obtain ⟨va, vc, rfl, hss, hcc⟩ := Ss.ofOwn RW.cells_length (by decide) HO.out
      have HG := Lib.hid (fun w' (hb : Below wr.heap.size wr w') => goes_any w' va m vc acc (Rs.below hss hb) (by omega) HW.out)
      clear hss
      go_wp2_with (first
        | (refine wpList_load_row rfl _ _ rfl _ rfl _ _ _ _ HT.out Try.underlying38 rfl (by rw [tabN_size]; exact infoTab) ?_))
      refine (HG.out _ (Below.refl _ _)).mono ?_
      rintro e w3 ⟨rfl, hb3⟩
      have HB3 := Lib.hid (HB.out.trans (hb3.mono HB.out.size))
      have HO3 := Lib.hid (own_below HO.out hb3)
      clear hb3
      cases hg : goesB acc
      · have HQ := Lib.hid (show R = (2, []) by rw [HR.out]; exact decode_range H4.out HDE.out hg)
        clear hg
        go_wp2_with fail
        go_ret2
        exact DecodeRet.err HQ.out HB3.out
      · have HQ := Lib.hid (show R = (0, acc) by rw [HR.out]; exact decode_ok H4.out HDE.out hg)
        clear hg
        go_wp2_with fail
        go_ret2
        exact ⟨_, m, by rw [HQ.out]; rfl, by rw [HQ.out]; exact HO3.out, by rw [HQ.out]; exact HW.out, HB3.out⟩
end Go.Proofs.Ytfhajbfgdbcpeaa
