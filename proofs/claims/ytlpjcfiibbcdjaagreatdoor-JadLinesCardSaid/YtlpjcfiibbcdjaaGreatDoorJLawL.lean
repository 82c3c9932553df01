/- jad: the walk of JadLines. No condition. -/
import Derived.Test.YtlpjcfiibbcdjaaGreatDoorJLawP
import Derived.Test.YtlpjcfiibbcdjaaGreatDoorJBack4
namespace Go.Proofs.YtlpjcfiibbcdjaaGreatDoor
open Go.ChangeShapes Go.WideShapes Go.ChangeAt Go.RowKit
def Row5 (w : World) (g : Nat) (ls : List (List UInt8)) : Prop := w.heap[g]? = some (.cells (ls.map encS).toArray 42 (0, 0))
theorem Row5.at {w : World} {g k : Nat} {ls : List (List UInt8)} (h : Row5 w g ls) (hk : k < ls.length) : w.cell? ⟨g, k, none⟩ = some (.string ⟨(ls[k]).toArray⟩) ∧ w.frozen? ⟨g, k, none⟩ = false := by
  constructor
  · rw [cell_of_row w g k _ _ _ h]; simp [hk, encS]
  · unfold World.frozen?
    unfold Row5 at h
    rw [h]
    rfl
theorem Row5.set {w : World} {g k : Nat} {ls : List (List UInt8)} (h : Row5 w g ls) (x : List UInt8) : Row5 (w.setCell ⟨g, k, none⟩ (.string ⟨x.toArray⟩)) g (ls.set k x) := by
  unfold Row5 at h ⊢
  unfold World.setCell
  simp only [Array.getElem?_modify, h, Option.map_some, if_true]
  congr 2
  simp [encS, List.map_set]
theorem idx5 (w' : World) (A : List (List UInt8)) (hl : A.length = 5) (k : Nat) (h : k < A.length) : (Instr.index 42 (.agg (A.map encS).toArray) (.int .i64 k)).run Tryz.prog w' = .ok (.string ⟨(A[k]).toArray⟩) w' := by
  have hu := Tryz.underlying42
  have hk2 : ((k : Nat) : Int) < 5 := by omega
  have hk3 : k < 5 := by omega
  simp [go_sem, Instr.index, hu, hl, h, hk2, hk3, encS]
theorem info5 : (Tryz.prog.info? 42).map (·.size) = some 5 := by kernel_rfl
theorem swap_map (j : JD) (is : List Nat) (p q : Nat) (hp : p < is.length) (hq : q < is.length) :
    ((is.map (lineJ j)).set p ((is.map (lineJ j))[q]'(by simpa using hq))).set q ((is.map (lineJ j))[p]'(by simpa using hp)) = ((is.set p is[q]).set q is[p]).map (lineJ j) := by
  simp [List.map_set]
theorem lit_pre (n r : Nat) (h : n % 4 = r) (g : Nat) (W : World) (hg : W.heap[g]? = some (.cells #[.string ⟨#[]⟩, .string ⟨#[32]⟩, .string ⟨#[10]⟩, .string ⟨#[32, 32]⟩] 9 (0, 0))) : W.cell? ⟨g, r, none⟩ = some (.string ⟨(preL n).toArray⟩) := by
  rw [cell_of_row _ _ r _ _ _ hg]
  have : r = 0 ∨ r = 1 ∨ r = 2 ∨ r = 3 := by omega
  unfold preL
  rw [h]
  rcases this with rfl | rfl | rfl | rfl <;> rfl
theorem lit_suf (n r : Nat) (h : n % 3 = r) (g : Nat) (W : World) (hg : W.heap[g]? = some (.cells #[.string ⟨#[]⟩, .string ⟨#[32, 32, 32]⟩, .string ⟨#[32]⟩] 9 (0, 0))) : W.cell? ⟨g, r, none⟩ = some (.string ⟨(sufL n).toArray⟩) := by
  rw [cell_of_row _ _ r _ _ _ hg]
  have : r = 0 ∨ r = 1 ∨ r = 2 := by omega
  unfold sufL
  rw [h]
  rcases this with rfl | rfl | rfl <;> rfl
theorem Row5.below {w w' : World} {g : Nat} {ls : List (List UInt8)} (h : Row5 w g ls) (hb : Below w.heap.size w w') : Row5 w' g ls := by
  unfold Row5 at h ⊢
  rw [hb.block g (rowLt h)]; exact h
theorem rowC_set {w : World} {g o : Nat} {C : Array Value} {gl : Nat} {v : Value} (h : RowC w g C) (hne : g < gl) : RowC (w.setCell ⟨gl, o, none⟩ v) g C := by
  unfold RowC at h ⊢
  unfold World.setCell
  simp [Array.getElem?_modify, Ne.symm (Nat.ne_of_lt hne)]
  exact h
theorem line_len {j : JD} (hf : FitJ j) (i : Nat) (h : i < 5) : (lineJ j i).length ≤ 1000 := by
  have hl := text_len hf
  rw [text_cut] at hl
  simp only [List.length_append, List.length_cons] at hl
  have : i = 0 ∨ i = 1 ∨ i = 2 ∨ i = 3 ∨ i = 4 := by omega
  rcases this with rfl | rfl | rfl | rfl | rfl <;> omega
theorem pre_len (h : Nat) : (preL h).length ≤ 2 := by unfold preL; (repeat' split) <;> simp
theorem suf_len (h : Nat) : (sufL h).length ≤ 3 := by unfold sufL; (repeat' split) <;> simp
abbrev Pre4 : Array Value := #[.string ⟨#[]⟩, .string ⟨#[32]⟩, .string ⟨#[10]⟩, .string ⟨#[32, 32]⟩]
abbrev Suf3 : Array Value := #[.string ⟨#[]⟩, .string ⟨#[32, 32, 32]⟩, .string ⟨#[32]⟩]
theorem lits_app (T P X S : List UInt8) : (⟨T.toArray⟩ : ByteArray) ++ ((((⟨P.toArray⟩ : ByteArray) ++ ⟨X.toArray⟩) ++ ⟨S.toArray⟩) ++ ⟨#[10]⟩) = ⟨(T ++ (P ++ X ++ S ++ [10])).toArray⟩ := by
  rw [str_app P X, str_app (P ++ X) S, show (⟨#[10]⟩ : ByteArray) = ⟨[10].toArray⟩ from rfl, str_app, str_app]
def AllW (_ : World) : Prop := True
set_option maxHeartbeats 8000000 in
set_option maxRecDepth 100000 in
theorem walk_JadLines (j : JD) (hh : j.hash.length = 32) (a : Option Addr) (len cap : Nat) (bs : List UInt8) (how : Nat) (w : World) (hv : VW w) (hn : j.name.length ≤ 281474976710656) (hm : j.main.length ≤ 281474976710656) (hs : Sl encB w a len bs) (hw : how < 256) :
    Calls Tryz.prog 5 #[j.val, .slice a len cap, .int .u8 (how : Int)] w fun e w' => e = .returned (.bool true) ∧ Below w.heap.size w w' := by
  have HRT := Lib.hid (fun w => Right_any w j hn hm)
  have HPL := Lib.hid (fun (hok : okJ j = true) w (h : VW w) is hp => Parse_lines w j hok hh h is how hp)
  have HRP := Lib.hid (fun (hok : okJ j = true) w => refPrint_any w j (okJ_fit hok hh))
  have heq := fun w o1 o2 => eql_jad w j hh o1 o2
  unfold JD.val at HRT HPL HRP ⊢
  obtain ⟨C, hC⟩ : ∃ C, C = j.cells.toArray := ⟨_, rfl⟩
  rw [← hC] at HRT HPL HRP heq ⊢
  have HEQ := Lib.hid heq
  have hb : Below w.heap.size w (w.alloc (.cells C JadT)) := (Below.refl _ _).alloc (Nat.le_refl _) _
  have HR1 := Lib.hid (show RowC (w.alloc (.cells C JadT)) w.heap.size C from heap_alloc_last w _)
  have HB1 := Lib.hid hb
  have HV := Lib.hid hv
  have HS := Lib.hid hs
  have HCZ := Lib.hid (show C.size = 38 by rw [hC]; simpa using len38 hh)
  have HCO := Lib.hid (show C.all (·.oneCell') = true by rw [hC]; exact oneJ j)
  clear heq hb hv hC hn hm hs
  go_enter Tryz.func5, Tryz.ntmps5
  go_upto_region 1 with fail
  generalize w.alloc (.cells C JadT) = w1 at *
  go_wp2_with fail
  refine (fixed_any w1 (HV.out.below HB1.out)).mono ?_
  rintro e w2 ⟨rfl, hb2⟩
  have HR2 := Lib.hid (HR1.out.below hb2)
  have HB2 := Lib.hid (HB1.out.trans (hb2.mono HB1.out.size))
  clear hb2 HR1 HB1
  go_wp2_with (refine wpList_load_rowH rfl _ _ rfl _ rfl _ _ _ _ HR2.out Tryz.underlying26 rfl (by rw [HCZ.out]; exact info_jad) ?_)
  refine (HRT.out w2).mono ?_
  rintro e w3 ⟨rfl, hb3⟩
  have HR3 := Lib.hid (HR2.out.below hb3)
  have HB3 := Lib.hid (HB2.out.trans (hb3.mono HB2.out.size))
  clear hb3 HR2 HB2
  cases hok : okJ j
  · clear HPL HRP hok
    go_wp2_with fail
    go_ret
    exact ⟨rfl, HB3.out⟩
  by_cases h20 : 20 < len
  · have n1 : (20 : Int) < len := by omega
    clear HPL HRP hok h20
    go_wp2_with fail
    go_ret
    exact ⟨rfl, HB3.out⟩
  have n1 : ¬ (20 : Int) < len := by omega
  have HO := Lib.hid (okJ_of hok hh)
  have HF := Lib.hid (okJ_fit hok hh)
  have HPL2 := Lib.hid (HPL.out hok)
  have HRP2 := Lib.hid (HRP.out hok)
  clear HPL HRP hok h20 HRT
  go_upto_region 6 with fail
  have hb4 : Below w3.heap.size w3 (w3.alloc (.cells ((PL []).map encS).toArray 42)) := (Below.refl _ _).alloc (Nat.le_refl _) _
  have hr4 : Row5 (w3.alloc (.cells ((PL []).map encS).toArray 42)) w3.heap.size (PL []) := heap_alloc_last w3 _
  change Code.wp _ _ _ _ (w3.alloc (.cells ((PL []).map encS).toArray 42))
  have HR4 := Lib.hid (HR3.out.below hb4)
  have HB4 := Lib.hid (HB3.out.trans (hb4.mono HB3.out.size))
  have HL4 := Lib.hid hr4
  have hgl : w.heap.size < w3.heap.size := rowLt HR3.out
  clear hb4 hr4 HR3 HB3
  generalize w3.alloc (.cells ((PL []).map encS).toArray 42) = w4 at *
  generalize w3.heap.size = gl at *
  obtain ⟨T, hT⟩ : ∃ T, T = textJ j := ⟨_, rfl⟩
  have HTE := Lib.hid hT
  rw [← hT] at HRP2
  have hTL : T.length ≤ 1000 := by rw [hT]; exact text_len HF.out
  clear hT
  go_wp2_with (refine wpList_load_rowH rfl _ _ rfl _ rfl _ _ _ _ HR4.out Tryz.underlying26 rfl (by rw [HCZ.out]; exact info_jad) ?_)
  refine (HRP2.out w4).mono ?_
  rintro e w5 ⟨rfl, hb5⟩
  have HR5 := Lib.hid (HR4.out.below hb5)
  have HB5 := Lib.hid (HB4.out.trans (hb5.mono HB4.out.size))
  have HL5 := Lib.hid (show Row5 w5 gl (PL []) by unfold Row5; rw [hb5.block gl (rowLt HL4.out)]; exact HL4.out)
  clear hb5 HR4 HB4 HL4
  obtain ⟨N, hN⟩ : ∃ N, N = T.length := ⟨_, rfl⟩
  have HLn := Lib.hid hN
  have hsz : (⟨T.toArray⟩ : ByteArray).size = N := by rw [hN]; simp [ByteArray.size]
  rw [← hN] at hTL
  clear hN
  go_wp2_with fail
  go_loopg [8, 9] N (fun gn nv i wr => ∃ k n : Nat, k ≤ N ∧ gn = N - k ∧ nv = .int .i64 n ∧ n ≤ 1000 ∧ i = .int .i64 k ∧ Hid (n + 1 = (sp 10 (T.take k)).length) ∧ Hid (Row5 wr gl (PL (T.take k))) ∧ Hid (RowC wr w.heap.size C) ∧ Hid (Below w.heap.size w wr))
  case atStart => exact ⟨0, 0, by omega, by omega, by go_num, by omega, by go_num, Lib.hid rfl, HL5, HR5, HB5⟩
  case round =>
    clear HL5 HR5 HB5
    obtain ⟨k, n, hk, rfl, rfl, hn1000, rfl, HN, HL, HR, HB⟩ := hrel
    by_cases hlt : k < N
    · have k1 : (k : Int) < N := by omega
      have hkl : k < T.length := by rw [← HLn.out]; exact hlt
      obtain ⟨c, hc⟩ : ∃ c, c = T[k] := ⟨_, rfl⟩
      have htk : T.take (k + 1) = T.take k ++ [c] := by rw [hc, List.take_succ_eq_append_getElem hkl]
      have hcn : (({ data := T.toArray } : ByteArray)[k]'(by rw [hsz]; exact hlt)).toNat = c.toNat := by rw [hc]; rfl
      by_cases h10 : c = 10
      · have he10 : ((c.toNat : Int) == 10) = true := by rw [h10]; rfl
        have HN2 := Lib.hid (show n + 1 + 1 = (sp 10 (T.take (k + 1))).length by rw [htk, h10, sp_snoc_same, List.length_append, ← HN.out]; rfl)
        have HL2 := Lib.hid (show Row5 wr gl (PL (T.take (k + 1))) by rw [htk, h10, PL_feed]; exact HL.out)
        have hnb : n + 1 ≤ 1000 := by
          have h1 := HN2.out
          have h2 := sp_length 10 (T.take (k + 1))
          rw [List.length_take] at h2
          omega
        clear hc htk h10 hkl
        go_wp2_with fail
        go_roundg (N - (k + 1))
        case measure => omega
        case rel => exact ⟨k + 1, n + 1, by omega, rfl, by go_num, hnb, by go_num, HN2, HL2, HR, HB⟩
      · have h5 : n < 5 := by
          have hk6 : (sp 10 (T.take k)).length ≤ 5 := by
            have e := HTE.out
            have h1 := hkl
            have h2 := hc
            subst e
            exact feeds_few HO.out k h1 (by rw [← h2]; exact h10)
          have := HN.out
          omega
        obtain ⟨hln, hpl⟩ := PL_sign h10 (T.take k) n HN.out h5
        have hxl : ((PL (T.take k))[n]).length ≤ 1000 := by
          refine Nat.le_trans (PL_mem (List.getElem_mem hln)) ?_
          rw [List.length_take]; omega
        obtain ⟨c0, f0⟩ := HL.out.at hln
        have hcut := fun w' => cut_one w' T k hkl (by rw [← HLn.out]; omega)
        rw [← hc] at hcut
        have HL2 := Lib.hid (fun (W : World) (hW : Row5 W gl (PL (T.take k))) => show Row5 (W.setCell ⟨gl, n, none⟩ (.string ⟨((PL (T.take k))[n] ++ [c]).toArray⟩)) gl (PL (T.take (k + 1))) by rw [htk, hpl]; exact hW.set _)
        have HN2 := Lib.hid (show n + 1 = (sp 10 (T.take (k + 1))).length by
          obtain ⟨xs, x, e1, e2⟩ := sp_snoc_other h10 (T.take k)
          rw [htk, e2, HN.out, e1]; simp)
        generalize (PL (T.take k))[n] = x at *
        have hcat : ¬ 9223372036854775807 < x.length + 1 := by omega
        have he10 : ((c.toNat : Int) == 10) = false := by
          rw [beq_eq_false_iff_ne]
          intro h
          exact h10 (UInt8.toNat_inj.1 (by rw [show (10 : UInt8).toNat = 10 from rfl]; omega))
        have n5 : (n : Int) < 5 := by omega
        clear hc htk h10 hkl hpl hxl hln
        go_upto_region 12 with fail
        have hSw : AllW wr.drew := trivial
        refine wp_region_lexS AllW (.of [(0, true), (1, true), (3, true), (4, true), (5, true), (6, true), (7, true), (2, false), (8, true), (9, true), (10, false)] (.stir [])) (by kernel_rfl) (by kernel_rfl) (fun c a d v w h => by cases d <;> exact h) ?_
        iterate 7
          refine lexS_step (fun K hK => ?_)
          simp only [lexOp, List.getElem?_toArray, List.getElem?_cons_succ, List.getElem?_cons_zero]
          rw [if_pos (by rfl)]
          apply Exists.intro
          refine ⟨fun w' hS' => ?_, hSw, ?_⟩
          · first | (go_simp <;> with_reducible rfl) | (go_simp; go_bits; with_reducible rfl)
          go_simp
          try go_bits
          refine hK _ _ ?_
          clear hK K
        refine lexS_step (fun K hK => ?_)
        simp only [lexOp, List.getElem?_toArray, List.getElem?_cons_succ, List.getElem?_cons_zero]
        rw [if_pos (by rfl)]
        go_step
        first | refine hK _ _ ?_ | refine ⟨hSw, hK _ _ ?_⟩
        clear hK K
        iterate 2
          refine lexS_step (fun K hK => ?_)
          simp only [lexOp, List.getElem?_toArray, List.getElem?_cons_succ, List.getElem?_cons_zero]
          rw [if_pos (by rfl)]
          apply Exists.intro
          refine ⟨fun w' hS' => ?_, hSw, ?_⟩
          · first | (go_simp <;> with_reducible rfl) | (go_simp; go_bits; with_reducible rfl)
          go_simp
          try go_bits
          refine hK _ _ ?_
          clear hK K
        refine lexS_step (fun K hK => ?_)
        simp only [lexOp, List.getElem?_toArray, List.getElem?_cons_succ, List.getElem?_cons_zero]
        rw [if_pos (by rfl)]
        go_step
        refine ⟨trivial, hK _ _ ?_⟩
        clear hK K
        rw [show (⟨x.toArray⟩ : ByteArray) ++ ⟨#[c]⟩ = ⟨(x ++ [c]).toArray⟩ from str_app x [c]]
        have HLN := Lib.hid (show Row5 ((wr.setCell ⟨gl, n, none⟩ (.string ⟨(x ++ [c]).toArray⟩)).drew) gl (PL (T.take (k + 1))) from HL2.out wr HL.out)
        have HBN := Lib.hid ((HB.out.setCell (p := ⟨gl, n, none⟩) (show w.heap.size ≤ gl from Nat.le_of_lt hgl) (.string ⟨(x ++ [c]).toArray⟩)).drew)
        have HRN := Lib.hid (show RowC ((wr.setCell ⟨gl, n, none⟩ (.string ⟨(x ++ [c]).toArray⟩)).drew) w.heap.size C by
          unfold RowC
          show (wr.setCell ⟨gl, n, none⟩ (.string ⟨(x ++ [c]).toArray⟩)).heap[w.heap.size]? = _
          unfold World.setCell
          simp [Array.getElem?_modify, Ne.symm (Nat.ne_of_lt hgl)]
          exact HR.out)
        generalize (wr.setCell ⟨gl, n, none⟩ (.string ⟨(x ++ [c]).toArray⟩)).drew = W at *
        refine lexS_stir (EqWc W) (fun _ _ => trivial) rfl ?_
        refine stir_nil (fun y hy => ?_)
        obtain rfl : y = W := hy
        go_wp2_with fail
        go_roundg (N - (k + 1))
        case measure => omega
        case rel => exact ⟨k + 1, n, by omega, rfl, rfl, hn1000, by go_num, HN2, HLN, HRN, HBN⟩
    · have hkN : k = N := by omega
      subst hkN
      have htk : T.take k = T := List.take_of_length_le (Nat.le_of_eq HLn.out.symm)
      have HLI := Lib.hid (show Row5 wr gl (([0, 1, 2, 3, 4] : List Nat).map (lineJ j)) by rw [← PL_text HO.out, ← HTE.out, ← htk]; exact HL.out)
      clear htk hk HN HL hlt
      generalize wr = w6 at *
      go_wp2_with fail
      go_loopg [55] len (fun gn i wr => ∃ (m : Nat) (is : List Nat), m ≤ len ∧ gn = len - m ∧ i = .int .i64 m ∧ Hid (is.Perm [4, 3, 2, 1, 0]) ∧ Hid (Row5 wr gl (is.map (lineJ j))) ∧ Hid (RowC wr w.heap.size C) ∧ Hid (Below w.heap.size w wr))
      case atStart => exact ⟨0, [0, 1, 2, 3, 4], by omega, by omega, by go_num, Lib.hid (by decide), HLI, HR, HB⟩
      case round =>
        clear HLI HR HB
        obtain ⟨m, is, hm, rfl, rfl, HP, HLS, HR2, HB2⟩ := hrel
        by_cases hlt2 : m < len
        · have k2 : (m : Int) < len := by omega
          have hsl := HS.out.below HB2.out
          have hlen : bs.length = len := hsl.1
          obtain ⟨b, off, ha, hbl, hcell⟩ := hsl.2 (by omega)
          have c1 := hcell m (by omega)
          obtain ⟨bv, hbv⟩ : ∃ bv, bv = (bs[m]'(by omega)).toNat := ⟨_, rfl⟩
          have hb256 : bv < 256 := by rw [hbv]; exact UInt8.toNat_lt _
          unfold encB at c1
          rw [← hbv] at c1
          clear hbv hcell hsl hlen
          have h5 : is.length = 5 := HP.out.length_eq
          obtain ⟨p, hp⟩ : ∃ p, p = m % 5 := ⟨_, rfl⟩
          obtain ⟨q, hq⟩ : ∃ q, q = bv % 5 := ⟨_, rfl⟩
          have hp5 : p < 5 := by omega
          have hq5 : q < 5 := by omega
          have e1 : (m : Int) % 5 = (p : Int) := by omega
          have e2 : (bv : Int) % 5 = (q : Int) := by omega
          have p5 : (p : Int) < 5 := by omega
          have q5 : (q : Int) < 5 := by omega
          have hpi : p < is.length := by omega
          have hqi : q < is.length := by omega
          obtain ⟨is2, his2⟩ : ∃ is2, is2 = (is.set p is[q]).set q is[p] := ⟨_, rfl⟩
          have HPW := Lib.hid (show is2.Perm [4, 3, 2, 1, 0] by rw [his2]; exact perm_swap HP.out p q hpi hqi)
          obtain ⟨L, hL⟩ : ∃ L, L = is.map (lineJ j) := ⟨_, rfl⟩
          have hLl : L.length = 5 := by rw [hL]; simpa using h5
          have HPL' : p < L.length := by omega
          have HQL' : q < L.length := by omega
          have HSW := Lib.hid (show (L.set p (L[q])).set q (L[p]) = is2.map (lineJ j) by subst hL; rw [his2]; exact swap_map j is p q hpi hqi)
          rw [← hL] at HLS
          obtain ⟨cp, fp⟩ := HLS.out.at (k := p) HPL'
          obtain ⟨cq, fq⟩ := HLS.out.at (k := q) HQL'
          have HQL := Lib.hid HQL'
          generalize L[p] = x at *
          generalize L[q] = y at *
          clear hL hp hq h5 HPL' HQL' his2 hpi hqi
          subst ha
          go_upto_region 16 with fail
          have hSw : AllW wr.drew := trivial
          refine wp_region_lexS AllW (.of [(0, true), (1, true), (2, true), (3, true), (4, true), (5, true), (6, true), (8, true), (9, true), (10, true)] (.fork 7 (.of [(11, false), (12, true), (13, false), (14, true), (15, false)] (.stir [])) 11 (.of [(7, false), (12, true), (13, false), (14, true), (15, false)] (.stir [])))) (by kernel_rfl) (by kernel_rfl) (fun c a d v w h => by cases d <;> exact h) ?_
          iterate 10
            refine lexS_step (fun K hK => ?_)
            simp only [lexOp, List.getElem?_toArray, List.getElem?_cons_succ, List.getElem?_cons_zero]
            rw [if_pos (by rfl)]
            apply Exists.intro
            refine ⟨fun w' hS' => ?_, hSw, ?_⟩
            · first | (go_simp <;> with_reducible rfl) | (go_simp; go_bits; with_reducible rfl)
            go_simp
            try go_bits
            refine hK _ _ ?_
            clear hK K
          refine lexS_fork ?_ ?_
          · intro K hK
            simp only [lexOp, List.getElem?_toArray, List.getElem?_cons_succ, List.getElem?_cons_zero]
            rw [if_pos (by rfl)]
            go_step
            first | refine hK _ _ ?_ | refine ⟨hSw, hK _ _ ?_⟩
            clear hK K
            refine lexS_step (fun K hK => ?_)
            simp only [lexOp, List.getElem?_toArray, List.getElem?_cons_succ, List.getElem?_cons_zero]
            rw [if_pos (by rfl)]
            go_step
            first | refine hK _ _ ?_ | refine ⟨hSw, hK _ _ ?_⟩
            clear hK K
            iterate 1
              refine lexS_step (fun K hK => ?_)
              simp only [lexOp, List.getElem?_toArray, List.getElem?_cons_succ, List.getElem?_cons_zero]
              rw [if_pos (by rfl)]
              apply Exists.intro
              refine ⟨fun w' hS' => ?_, hSw, ?_⟩
              · first | (go_simp <;> with_reducible rfl) | (go_simp; go_bits; with_reducible rfl)
              go_simp
              try go_bits
              refine hK _ _ ?_
              clear hK K
            refine lexS_step (fun K hK => ?_)
            simp only [lexOp, List.getElem?_toArray, List.getElem?_cons_succ, List.getElem?_cons_zero]
            rw [if_pos (by rfl)]
            go_step
            refine ⟨trivial, hK _ _ ?_⟩
            clear hK K
            have HL3 := Lib.hid (show Row5 ((wr.setCell ⟨gl, p, none⟩ (.string ⟨y.toArray⟩)).drew) gl (L.set p y) from HLS.out.set y)
            have HB3 := Lib.hid ((HB2.out.setCell (p := ⟨gl, p, none⟩) (show w.heap.size ≤ gl from Nat.le_of_lt hgl) (.string ⟨y.toArray⟩)).drew)
            have HR3 := Lib.hid (show RowC ((wr.setCell ⟨gl, p, none⟩ (.string ⟨y.toArray⟩)).drew) w.heap.size C from rowC_set HR2.out hgl)
            obtain ⟨cq, fq⟩ := HL3.out.at (k := q) (by rw [List.length_set]; exact HQL.out)
            clear cp fp
            generalize (wr.setCell ⟨gl, p, none⟩ (.string ⟨y.toArray⟩)).drew = W1 at *
            have hSw : AllW W1 := trivial
            iterate 1
              refine lexS_step (fun K hK => ?_)
              simp only [lexOp, List.getElem?_toArray, List.getElem?_cons_succ, List.getElem?_cons_zero]
              rw [if_pos (by rfl)]
              apply Exists.intro
              refine ⟨fun w' hS' => ?_, hSw, ?_⟩
              · first | (go_simp <;> with_reducible rfl) | (go_simp; go_bits; with_reducible rfl)
              go_simp
              try go_bits
              refine hK _ _ ?_
              clear hK K
            refine lexS_step (fun K hK => ?_)
            simp only [lexOp, List.getElem?_toArray, List.getElem?_cons_succ, List.getElem?_cons_zero]
            rw [if_pos (by rfl)]
            go_step
            refine ⟨trivial, hK _ _ ?_⟩
            clear hK K
            have HL4 := Lib.hid (show Row5 (W1.setCell ⟨gl, q, none⟩ (.string ⟨x.toArray⟩)) gl (is2.map (lineJ j)) by rw [← HSW.out]; exact HL3.out.set x)
            have HB4 := Lib.hid (HB3.out.setCell (p := ⟨gl, q, none⟩) (show w.heap.size ≤ gl from Nat.le_of_lt hgl) (.string ⟨x.toArray⟩))
            have HR4 := Lib.hid (show RowC (W1.setCell ⟨gl, q, none⟩ (.string ⟨x.toArray⟩)) w.heap.size C from rowC_set HR3.out hgl)
            clear cq fq
            generalize W1.setCell ⟨gl, q, none⟩ (.string ⟨x.toArray⟩) = W2 at *
            refine lexS_stir (EqWc W2) (fun _ _ => trivial) rfl ?_
            refine stir_nil (fun yy hy => ?_)
            obtain rfl : yy = W2 := hy
            go_wp2_with fail
            go_roundg (len - (m + 1))
            case measure => omega
            case rel => exact ⟨m + 1, _, by omega, rfl, by go_num, HPW, HL4, HR4, HB4⟩
          · intro K hK
            simp only [lexOp, List.getElem?_toArray, List.getElem?_cons_succ, List.getElem?_cons_zero]
            rw [if_pos (by rfl)]
            go_step
            first | refine hK _ _ ?_ | refine ⟨hSw, hK _ _ ?_⟩
            clear hK K
            refine lexS_step (fun K hK => ?_)
            simp only [lexOp, List.getElem?_toArray, List.getElem?_cons_succ, List.getElem?_cons_zero]
            rw [if_pos (by rfl)]
            go_step
            first | refine hK _ _ ?_ | refine ⟨hSw, hK _ _ ?_⟩
            clear hK K
            iterate 1
              refine lexS_step (fun K hK => ?_)
              simp only [lexOp, List.getElem?_toArray, List.getElem?_cons_succ, List.getElem?_cons_zero]
              rw [if_pos (by rfl)]
              apply Exists.intro
              refine ⟨fun w' hS' => ?_, hSw, ?_⟩
              · first | (go_simp <;> with_reducible rfl) | (go_simp; go_bits; with_reducible rfl)
              go_simp
              try go_bits
              refine hK _ _ ?_
              clear hK K
            refine lexS_step (fun K hK => ?_)
            simp only [lexOp, List.getElem?_toArray, List.getElem?_cons_succ, List.getElem?_cons_zero]
            rw [if_pos (by rfl)]
            go_step
            refine ⟨trivial, hK _ _ ?_⟩
            clear hK K
            have HL3 := Lib.hid (show Row5 ((wr.setCell ⟨gl, p, none⟩ (.string ⟨y.toArray⟩)).drew) gl (L.set p y) from HLS.out.set y)
            have HB3 := Lib.hid ((HB2.out.setCell (p := ⟨gl, p, none⟩) (show w.heap.size ≤ gl from Nat.le_of_lt hgl) (.string ⟨y.toArray⟩)).drew)
            have HR3 := Lib.hid (show RowC ((wr.setCell ⟨gl, p, none⟩ (.string ⟨y.toArray⟩)).drew) w.heap.size C from rowC_set HR2.out hgl)
            obtain ⟨cq, fq⟩ := HL3.out.at (k := q) (by rw [List.length_set]; exact HQL.out)
            clear cp fp
            generalize (wr.setCell ⟨gl, p, none⟩ (.string ⟨y.toArray⟩)).drew = W1 at *
            have hSw : AllW W1 := trivial
            iterate 1
              refine lexS_step (fun K hK => ?_)
              simp only [lexOp, List.getElem?_toArray, List.getElem?_cons_succ, List.getElem?_cons_zero]
              rw [if_pos (by rfl)]
              apply Exists.intro
              refine ⟨fun w' hS' => ?_, hSw, ?_⟩
              · first | (go_simp <;> with_reducible rfl) | (go_simp; go_bits; with_reducible rfl)
              go_simp
              try go_bits
              refine hK _ _ ?_
              clear hK K
            refine lexS_step (fun K hK => ?_)
            simp only [lexOp, List.getElem?_toArray, List.getElem?_cons_succ, List.getElem?_cons_zero]
            rw [if_pos (by rfl)]
            go_step
            refine ⟨trivial, hK _ _ ?_⟩
            clear hK K
            have HL4 := Lib.hid (show Row5 (W1.setCell ⟨gl, q, none⟩ (.string ⟨x.toArray⟩)) gl (is2.map (lineJ j)) by rw [← HSW.out]; exact HL3.out.set x)
            have HB4 := Lib.hid (HB3.out.setCell (p := ⟨gl, q, none⟩) (show w.heap.size ≤ gl from Nat.le_of_lt hgl) (.string ⟨x.toArray⟩))
            have HR4 := Lib.hid (show RowC (W1.setCell ⟨gl, q, none⟩ (.string ⟨x.toArray⟩)) w.heap.size C from rowC_set HR3.out hgl)
            clear cq fq
            generalize W1.setCell ⟨gl, q, none⟩ (.string ⟨x.toArray⟩) = W2 at *
            refine lexS_stir (EqWc W2) (fun _ _ => trivial) rfl ?_
            refine stir_nil (fun yy hy => ?_)
            obtain rfl : yy = W2 := hy
            go_wp2_with fail
            go_roundg (len - (m + 1))
            case measure => omega
            case rel => exact ⟨m + 1, _, by omega, rfl, by go_num, HPW, HL4, HR4, HB4⟩
        · have hml : m = len := by omega
          subst hml
          have hLn : is.length = 5 := HP.out.length_eq
          have hi5 : ∀ i ∈ is, i < 5 := fun i hi => by
            have := HP.out.subset hi
            simp at this
            omega
          obtain ⟨L, hL⟩ : ∃ L, L = is.map (lineJ j) := ⟨_, rfl⟩
          have hLl : L.length = 5 := by rw [hL]; simpa using hLn
          have HXL := Lib.hid (fun (t : Nat) (h : t < L.length) => show L[t].length ≤ 1000 by
            subst hL
            simp only [List.getElem_map]
            exact line_len HF.out _ (hi5 _ (List.getElem_mem _)))
          have HTL := Lib.hid (fun (t : Nat) => show (textL j how (is.take t)).length ≤ 5050 by
            have h1 := textL_len j HF.out (is.take t) how (fun i hi => line_len HF.out i (hi5 i (List.mem_of_mem_take hi)))
            rw [List.length_take] at h1
            omega)
          have HTS := Lib.hid (fun (t : Nat) (h : t < L.length) => show textL j how (is.take (t + 1)) = textL j how (is.take t) ++ (preL (how + t) ++ L[t] ++ sufL (how + t) ++ [10]) by
            have h2 : t < is.length := by omega
            rw [textL_take j is how t h2]
            subst hL
            simp)
          have HTA := Lib.hid (show is.take 5 = is from List.take_of_length_le (by omega))
          rw [← hL] at HLS
          have hix := fun w' k h => idx5 w' L hLl k h
          obtain ⟨AV, hAV⟩ : ∃ AV, AV = (L.map encS).toArray := ⟨_, rfl⟩
          rw [← hAV] at hix
          have HRA := Lib.hid (show wr.heap[gl]? = some (.cells AV 42 (0, 0)) by rw [hAV]; exact HLS.out)
          have HAZ := Lib.hid (show AV.size = 5 by rw [hAV]; simpa using hLl)
          have HIX := Lib.hid hix
          have HLL := Lib.hid hLl
          clear hix hAV hL hLl hLn hi5 HLS hlt2 hm HS
          generalize wr = w7 at *
          go_wp2_with (refine wpList_load_rowH rfl _ _ rfl _ rfl _ _ _ _ HRA.out Tryz.underlying42 rfl (by rw [HAZ.out]; exact info5) ?_)
          go_loopg [13, 76] 5 (fun gn s i wr => ∃ t : Nat, t ≤ 5 ∧ gn = 5 - t ∧ s = .string ⟨(textL j how (is.take t)).toArray⟩ ∧ i = .int .i64 t ∧ Hid (RowC wr w.heap.size C) ∧ Hid (Below w.heap.size w wr))
          case atStart => exact ⟨0, by omega, by omega, by go_num, by go_num, HR2, HB2⟩
          case round =>
            clear HRA HR2 HB2
            obtain ⟨t, ht, rfl, rfl, rfl, HR3, HB3⟩ := hrel
            by_cases hlt3 : t < 5
            · have t1 : (t : Int) < 5 := by omega
              have htl : t < L.length := by rw [HLL.out]; exact hlt3
              have hx := HIX.out wr t htl
              have HXT := Lib.hid (HTS.out t htl)
              have hxl := HXL.out t htl
              have htl1 := HTL.out t
              generalize L[t] = x at *
              obtain ⟨P, hP⟩ : ∃ P, P = preL (how + t) := ⟨_, rfl⟩
              obtain ⟨S, hS⟩ : ∃ S, S = sufL (how + t) := ⟨_, rfl⟩
              have hpl : P.length ≤ 2 := by rw [hP]; exact pre_len _
              have hsl : S.length ≤ 3 := by rw [hS]; exact suf_len _
              rw [← hP, ← hS] at HXT
              obtain ⟨r, hr⟩ : ∃ r, (how + t) % 4 = r := ⟨_, rfl⟩
              obtain ⟨q, hq⟩ : ∃ q, (how + t) % 3 = q := ⟨_, rfl⟩
              have r4 : (r : Int) < 4 := by omega
              have q3 : (q : Int) < 3 := by omega
              have r4n : r < 4 := by omega
              have q3n : q < 3 := by omega
              have e1 : ((how : Int) + (t : Int)) % 4 = (r : Int) := by omega
              have e2 : ((how : Int) + (t : Int)) % 3 = (q : Int) := by omega
              have hh0 : (0 : Int) ≤ how := by omega
              have hh1 : (how : Int) < 256 := by omega
              have HPE := Lib.hid hP
              have HSE := Lib.hid hS
              have HRE := Lib.hid hr
              have HQE := Lib.hid hq
              generalize textL j how (is.take t) = T1 at *
              have n1 : ¬ 9223372036854775807 < P.length + x.length := by omega
              have n2 : ¬ 9223372036854775807 < P.length + x.length + S.length := by omega
              have n3 : ¬ 9223372036854775807 < P.length + x.length + S.length + 1 := by omega
              have n4 : ¬ 9223372036854775807 < T1.length + (P.length + x.length + S.length + 1) := by omega
              clear hP hS hr hq htl hxl htl1 hpl hsl
              go_upto_region 22 with fail
              have hSw : Below wr.heap.size wr wr.drew := (Below.refl _ _).drew
              refine wp_region_lexS (Below wr.heap.size wr) (.of [(0, true), (2, true), (3, true), (4, true), (5, true), (6, true), (9, true), (12, true), (13, true), (14, true), (15, true), (16, true)] (.fork 1 (.of [(7, true), (8, true), (10, true), (11, false)] (.stir [(17, true), (18, true), (19, true), (20, true), (21, true), (22, true)])) 11 (.of [(17, true), (18, true), (1, false)] (.stir [(7, true), (8, true), (10, true), (19, true), (20, true), (21, true), (22, true)])))) (by kernel_rfl) (by kernel_rfl) (fun c a d v w h => by cases d <;> exact h) ?_
              iterate 12
                refine lexS_step (fun K hK => ?_)
                simp only [lexOp, List.getElem?_toArray, List.getElem?_cons_succ, List.getElem?_cons_zero]
                rw [if_pos (by rfl)]
                apply Exists.intro
                refine ⟨fun w' hS' => ?_, hSw, ?_⟩
                · first | (go_simp <;> with_reducible rfl) | (go_simp; go_bits; with_reducible rfl)
                go_simp
                try go_bits
                refine hK _ _ ?_
                clear hK K
              refine lexS_fork ?_ ?_
              · intro K hK
                simp only [lexOp, List.getElem?_toArray, List.getElem?_cons_succ, List.getElem?_cons_zero]
                rw [if_pos (by rfl)]
                go_step
                have hbA : Below wr.heap.size wr (wr.alloc (.cells Pre4 9)).drew := ((Below.refl _ _).alloc (Nat.le_refl _) _).drew
                have hgA : (wr.alloc (.cells Pre4 9)).drew.heap[wr.heap.size]? = some (.cells Pre4 9 (0, 0)) := heap_alloc_last wr _
                have hsA : wr.heap.size < (wr.alloc (.cells Pre4 9)).drew.heap.size := by
                  show wr.heap.size < (wr.alloc (.cells Pre4 9)).heap.size
                  simp
                refine ⟨hbA, hK _ _ ?_⟩
                clear hK K
                generalize (wr.alloc (.cells Pre4 9)).drew = W1 at *
                have hSw : Below W1.heap.size W1 W1 := Below.refl _ _
                have ld : ∀ w', Below W1.heap.size W1 w' → w'.cell? ⟨wr.heap.size, r, none⟩ = some (.string ⟨P.toArray⟩) := fun w' h => by
                  rw [HPE.out]; exact lit_pre _ _ HRE.out _ _ (by rw [h.block _ hsA]; exact hgA)
                refine lexS_strong (Below W1.heap.size W1) (fun y hy => hbA.trans (hy.mono hbA.size)) ?_
                iterate 3
                  refine lexS_step (fun K hK => ?_)
                  simp only [lexOp, List.getElem?_toArray, List.getElem?_cons_succ, List.getElem?_cons_zero]
                  rw [if_pos (by rfl)]
                  apply Exists.intro
                  refine ⟨fun w' hS' => ?_, hSw, ?_⟩
                  · first | (go_simp <;> with_reducible rfl) | (go_simp; go_bits; with_reducible rfl)
                  go_simp
                  try go_bits
                  refine hK _ _ ?_
                  clear hK K
                refine lexS_step (fun K hK => ?_)
                simp only [lexOp, List.getElem?_toArray, List.getElem?_cons_succ, List.getElem?_cons_zero]
                rw [if_pos (by rfl)]
                go_step
                have hbB : Below W1.heap.size W1 (W1.alloc (.cells Suf3 9)) := (Below.refl _ _).alloc (Nat.le_refl _) _
                have hgB : (W1.alloc (.cells Suf3 9)).heap[W1.heap.size]? = some (.cells Suf3 9 (0, 0)) := heap_alloc_last W1 _
                have hsB : W1.heap.size < (W1.alloc (.cells Suf3 9)).heap.size := by simp
                refine ⟨hbB, hK _ _ ?_⟩
                clear hK K hSw
                generalize W1.alloc (.cells Suf3 9) = W2 at *
                have ld1 : ∀ w', Below W2.heap.size W2 w' → w'.cell? ⟨wr.heap.size, r, none⟩ = some (.string ⟨P.toArray⟩) := fun w' h => ld w' (hbB.trans (h.mono hbB.size))
                have ld2 : ∀ w', Below W2.heap.size W2 w' → w'.cell? ⟨W1.heap.size, q, none⟩ = some (.string ⟨S.toArray⟩) := fun w' h => by
                  rw [HSE.out]; exact lit_suf _ _ HQE.out _ _ (by rw [h.block _ hsB]; exact hgB)
                clear ld
                refine lexS_stir (Below W2.heap.size W2) (fun y hy => hbB.trans (hy.mono hbB.size)) (Below.refl _ _) ?_
                iterate 6
                  refine stir_step (fun K hK => ?_)
                  simp only [stirOp, List.getElem?_toArray, List.getElem?_cons_succ, List.getElem?_cons_zero]
                  rw [if_pos (by rfl)]
                  apply Exists.intro
                  refine ⟨fun w' hS' => ?_, ?_⟩
                  · first | (go_simp <;> with_reducible rfl) | (go_simp; go_bits; with_reducible rfl)
                  go_simp
                  try go_bits
                  refine hK _ ?_
                  clear hK K
                refine stir_nil (fun w8 hw8 => ?_)
                have hb8 : Below wr.heap.size wr w8 := hbA.trans ((hbB.trans (hw8.mono hbB.size)).mono hbA.size)
                have HR8 := Lib.hid (HR3.out.below hb8)
                have HB8 := Lib.hid (HB3.out.trans (hb8.mono HB3.out.size))
                clear ld1 ld2 hbA hbB hgA hgB hsA hsB hw8 hb8
                go_wp2_with fail
                go_roundg (5 - (t + 1))
                case measure => omega
                case rel => exact ⟨t + 1, by omega, rfl, by rw [lits_app, ← HXT.out], by go_num, HR8, HB8⟩
              · intro K hK
                simp only [lexOp, List.getElem?_toArray, List.getElem?_cons_succ, List.getElem?_cons_zero]
                rw [if_pos (by rfl)]
                go_step
                have hbA : Below wr.heap.size wr (wr.alloc (.cells Suf3 9)).drew := ((Below.refl _ _).alloc (Nat.le_refl _) _).drew
                have hgA : (wr.alloc (.cells Suf3 9)).drew.heap[wr.heap.size]? = some (.cells Suf3 9 (0, 0)) := heap_alloc_last wr _
                have hsA : wr.heap.size < (wr.alloc (.cells Suf3 9)).drew.heap.size := by
                  show wr.heap.size < (wr.alloc (.cells Suf3 9)).heap.size
                  simp
                refine ⟨hbA, hK _ _ ?_⟩
                clear hK K
                generalize (wr.alloc (.cells Suf3 9)).drew = W1 at *
                have hSw : Below W1.heap.size W1 W1 := Below.refl _ _
                have ld : ∀ w', Below W1.heap.size W1 w' → w'.cell? ⟨wr.heap.size, q, none⟩ = some (.string ⟨S.toArray⟩) := fun w' h => by
                  rw [HSE.out]; exact lit_suf _ _ HQE.out _ _ (by rw [h.block _ hsA]; exact hgA)
                refine lexS_strong (Below W1.heap.size W1) (fun y hy => hbA.trans (hy.mono hbA.size)) ?_
                iterate 2
                  refine lexS_step (fun K hK => ?_)
                  simp only [lexOp, List.getElem?_toArray, List.getElem?_cons_succ, List.getElem?_cons_zero]
                  rw [if_pos (by rfl)]
                  apply Exists.intro
                  refine ⟨fun w' hS' => ?_, hSw, ?_⟩
                  · first | (go_simp <;> with_reducible rfl) | (go_simp; go_bits; with_reducible rfl)
                  go_simp
                  try go_bits
                  refine hK _ _ ?_
                  clear hK K
                refine lexS_step (fun K hK => ?_)
                simp only [lexOp, List.getElem?_toArray, List.getElem?_cons_succ, List.getElem?_cons_zero]
                rw [if_pos (by rfl)]
                go_step
                have hbB : Below W1.heap.size W1 (W1.alloc (.cells Pre4 9)) := (Below.refl _ _).alloc (Nat.le_refl _) _
                have hgB : (W1.alloc (.cells Pre4 9)).heap[W1.heap.size]? = some (.cells Pre4 9 (0, 0)) := heap_alloc_last W1 _
                have hsB : W1.heap.size < (W1.alloc (.cells Pre4 9)).heap.size := by simp
                refine ⟨hbB, hK _ _ ?_⟩
                clear hK K hSw
                generalize W1.alloc (.cells Pre4 9) = W2 at *
                have ld1 : ∀ w', Below W2.heap.size W2 w' → w'.cell? ⟨wr.heap.size, q, none⟩ = some (.string ⟨S.toArray⟩) := fun w' h => ld w' (hbB.trans (h.mono hbB.size))
                have ld2 : ∀ w', Below W2.heap.size W2 w' → w'.cell? ⟨W1.heap.size, r, none⟩ = some (.string ⟨P.toArray⟩) := fun w' h => by
                  rw [HPE.out]; exact lit_pre _ _ HRE.out _ _ (by rw [h.block _ hsB]; exact hgB)
                clear ld
                refine lexS_stir (Below W2.heap.size W2) (fun y hy => hbB.trans (hy.mono hbB.size)) (Below.refl _ _) ?_
                iterate 7
                  refine stir_step (fun K hK => ?_)
                  simp only [stirOp, List.getElem?_toArray, List.getElem?_cons_succ, List.getElem?_cons_zero]
                  rw [if_pos (by rfl)]
                  apply Exists.intro
                  refine ⟨fun w' hS' => ?_, ?_⟩
                  · first | (go_simp <;> with_reducible rfl) | (go_simp; go_bits; with_reducible rfl)
                  go_simp
                  try go_bits
                  refine hK _ ?_
                  clear hK K
                refine stir_nil (fun w8 hw8 => ?_)
                have hb8 : Below wr.heap.size wr w8 := hbA.trans ((hbB.trans (hw8.mono hbB.size)).mono hbA.size)
                have HR8 := Lib.hid (HR3.out.below hb8)
                have HB8 := Lib.hid (HB3.out.trans (hb8.mono HB3.out.size))
                clear ld1 ld2 hbA hbB hgA hgB hsA hsB hw8 hb8
                go_wp2_with fail
                go_roundg (5 - (t + 1))
                case measure => omega
                case rel => exact ⟨t + 1, by omega, rfl, by rw [lits_app, ← HXT.out], by go_num, HR8, HB8⟩
            · have ht5 : t = 5 := by omega
              subst ht5
              have HPX := Lib.hid (fun w h => HPL2.out w h is HP.out)
              rw [HTA.out]
              generalize textL j how is = T1 at *
              clear HPL2 HTS HTL HXL HIX HLL hlt3 ht
              go_wp2_with fail
              refine (HPX.out wr (HV.out.below HB3.out)).mono ?_
              rintro e w9 ⟨rfl, hb9⟩
              have HR9 := Lib.hid (HR3.out.below hb9)
              have HB9 := Lib.hid (HB3.out.trans (hb9.mono HB3.out.size))
              clear hb9
              go_upto_region 25 with (refine wpList_store_row rfl _ _ _ rfl _ C rfl rfl _ _ (heap_alloc_last w9 _) (by rw [HCZ.out]; exact info_jad) (by rw [HCZ.out]; rfl) HCO.out ?_)
              change Code.wp _ _ _ _ ((w9.alloc (.cells zeroJ.cells.toArray JadT)).setRow w9.heap.size C)
              have hb6 : Below w9.heap.size w9 ((w9.alloc (.cells zeroJ.cells.toArray JadT)).setRow w9.heap.size C) := below_setRow ((Below.refl _ _).alloc (Nat.le_refl _) _) (Nat.le_refl _) _
              have hr6 : RowC ((w9.alloc (.cells zeroJ.cells.toArray JadT)).setRow w9.heap.size C) w9.heap.size C := setRow_heap _ _ _ _ _ _ (heap_alloc_last w9 _)
              generalize (w9.alloc (.cells zeroJ.cells.toArray JadT)).setRow w9.heap.size C = w10 at *
              have HK6 := Lib.hid hr6
              have HR6 := Lib.hid (HR9.out.below hb6)
              have HB6 := Lib.hid (HB9.out.trans (hb6.mono HB9.out.size))
              have he := HEQ.out w10
              clear hb6 hr6
              go_wp2_with (first
                | (refine wpList_load_rowH rfl _ _ rfl _ rfl _ _ _ _ HK6.out Tryz.underlying26 rfl (by rw [HCZ.out]; exact info_jad) ?_)
                | (refine wpList_load_rowH rfl _ _ rfl _ rfl _ _ _ _ HR6.out Tryz.underlying26 rfl (by rw [HCZ.out]; exact info_jad) ?_)
                | (refine wpList_binJ rfl _ JadT _ _ _ rfl _ _ _ rfl rfl (he _ _) ?_))
              go_ret
              exact ⟨rfl, HB6.out⟩
end Go.Proofs.YtlpjcfiibbcdjaaGreatDoor
