/- bytes.Repeat of one byte. No condition. -/
import Derived.Test.YtdnnodpchjnleaaNorFn10
import Derived.Lib.MakeNoZero
namespace Go.Proofs.Ytdnnodpchjnleaa
open Go.ChangeShapes Go.WideShapes Go.ChangeAt Go.RowKit
theorem mask32 (n : Nat) (h : n < 4294967296) : bits .and .u64 (n : Int) 4294967295 = (n : Int) := by
  show IntKind.u64.wrap ((BitVec.ofInt 64 (n : Int) &&& BitVec.ofInt 64 4294967295).toNat) = _
  rw [IntKind.wrap_u64, BitVec.toNat_and]
  have h1 : (BitVec.ofInt 64 (n : Int)).toNat = n := by simp [BitVec.toNat_ofInt]; omega
  have h2 : (BitVec.ofInt 64 (4294967295 : Int)).toNat = 2 ^ 32 - 1 := by decide
  rw [h1, h2, Nat.and_two_pow_sub_one_eq_mod]
  omega
set_option maxRecDepth 100000 in
set_option maxHeartbeats 4000000 in
theorem Mul64_one (w : World) (n : Nat) (h : n ≤ 4194304) : Calls Try.prog 47 #[.int .u64 1, .int .u64 n] w fun e w' => e = .returned (.tuple #[.int .u64 0, .int .u64 n]) ∧ w = w' := by
  have m1 := mask32 n (by omega)
  have m0 : bits .and .u64 1 4294967295 = 1 := mask32 1 (by omega)
  have m2 : bits .and .u64 0 4294967295 = 0 := mask32 0 (by omega)
  have m3 : IntKind.u64.wrap (n : Int) = n := by rw [IntKind.wrap_u64]; omega
  have m4 : (1 : Int) * (n : Int) = n := by omega
  have d1 : (n : Int) / 4294967296 = 0 := by omega
  go_enter Try.func47, Try.ntmps47
  go_wp2_with fail
  go_ret2
  exact ⟨rfl, rfl⟩
set_option maxRecDepth 100000 in
set_option maxHeartbeats 4000000 in
theorem Mul_one (w : World) (n : Nat) (h : n ≤ 4194304) : Calls Try.prog 44 #[.int .u64 1, .int .u64 n] w fun e w' => e = .returned (.tuple #[.int .u64 0, .int .u64 n]) ∧ w = w' := by
  have HM := Lib.hid (Mul64_one w n h)
  go_enter Try.func44, Try.ntmps44
  go_wp2_with fail
  with_reducible refine HM.out.mono ?_
  rintro e w1 ⟨rfl, rfl⟩
  go_wp2_with fail
  go_ret2
  exact ⟨rfl, rfl⟩
theorem OnlyAt.below {g B : Nat} {w w1 w2 : World} (h : OnlyAt g w1 w2) (hb : Below B w w1) (hg : B ≤ g) : Below B w w2 :=
  ⟨h.os.trans hb.os, h.tape.trans hb.tape, h.output.trans hb.output, by rw [h.size]; exact hb.size, fun k hk => by rw [h.block k (by omega)]; exact hb.block k hk⟩
theorem wp_copy_splice {P : Program} {o : Oper} {a : Act} {w : World} {K : Act → World → Prop} {Q : Exit → Act → World → Prop} (hgd : o.guard = none) (d s : Operand) (dT sT : TypeId)
    (ho : o.op = .call { callee := .builtin .copy, args := #[d, s], argTypes := #[dT, sT] }) (elem : TypeId) (hu : P.underlying dT = some (.slice elem)) (hsz : (P.info? elem).map (·.size) = some 1)
    (dp sp : Option Addr) (dLen dCap sLen sCap : Nat) (hd : a.eval d = .slice dp dLen dCap) (hs : a.eval s = .slice sp sLen sCap)
    (g off : Nat) (cur : List Value) (t : TypeId) (hg : w.heap[g]? = some (.cells cur.toArray t (0, 0))) (cs : List Value) (hn : cs.length = Nat.min sLen dLen)
    (hpos : 0 < cs.length → dp = some ⟨g, off, none⟩ ∧ ∃ ad, sp = some ad ∧ ∀ j v, cs[j]? = some v → w.cell? (ad.add j) = some v)
    (hfit : off + cs.length ≤ cur.length) (h1 : ∀ v ∈ cs, v.oneCell' = true) (B : Nat) (w0 : World) (hb : Below B w0 w) (hBg : B ≤ g)
    (h : ∀ w', Hid (w'.heap[g]? = some (.cells (splice cur off cs).toArray t (0, 0))) → Below B w0 w' → K (a.put o.dst (goInt cs.length)) w') : Oper.wp P o a w K Q := by
  have hw : Region.wanted o (yielded #[] a.tmps) = true := by simp [Region.wanted, hgd]
  have := step_copy_splice (ops := #[]) (E := True) (Q := Q) hgd d s dT sT ho elem hu hsz dp sp dLen dCap sLen sCap hd hs g off cur t hg cs hn hpos hfit h1 B w0 hb hBg h
  rwa [if_pos hw] at this
/-- So much of a buffer is filled. -/
def RepW (w : World) (n bp sz : Nat) (b : UInt8) (wr : World) : Prop :=
  ∃ cur : List Value, wr.heap[w.heap.size]? = some (.cells cur.toArray 5) ∧ cur.length = sz ∧ cur.take bp = List.replicate bp (encB b) ∧ Below w.heap.size w wr
theorem splice_rep {α : Type} {L : List α} {p m : Nat} {x : α} (h : L.take p = List.replicate p x) (hp : p + m ≤ L.length) : (splice L p (List.replicate m x)).take (p + m) = List.replicate (p + m) x := by
  unfold splice
  rw [h, ← List.append_assoc, List.replicate_append_replicate, List.take_append_of_le_length (by simp), List.take_of_length_le (by simp)]
/-- What Repeat leaves: n bytes b, in a block of its own. -/
def RepRet (w : World) (n : Nat) (b : UInt8) (e : Ending) (w' : World) : Prop :=
  ∃ sz, e = .returned (.slice (some ⟨w.heap.size, 0, none⟩) n n) ∧ n ≤ sz ∧ sz ≤ maxLen ∧ RepW w n n sz b w'
set_option maxRecDepth 100000 in
set_option maxHeartbeats 4000000 in
theorem Repeat_any (w : World) (a : Option Addr) (cap : Nat) (b : UInt8) (hs : Sl encB w a 1 [b]) (n : Nat) (h0 : 1 ≤ n) (h : n ≤ 4194304) : Calls Try.prog 42 #[.slice a 1 cap, .int .i64 n] w (RepRet w n b) := by
  have HM := Lib.hid (Mul_one w n h)
  have HS := Lib.hid hs
  have e1 : ((n : Int) == 0) = false := eqi_no (by omega)
  have m3 : IntKind.u64.wrap (n : Int) = n := by rw [IntKind.wrap_u64]; omega
  have m4 : IntKind.i64.wrap (n : Int) = n := IntWalk.i64_in _ (by omega)
  obtain ⟨cs, hr, h1, h2⟩ := Lib.run_makeNoZero (P := Try.prog) w #[3] 23 5 Try.underlying23 n (by omega)
  have hcall : (callFunc 45 #[.int .i64 (n : Int)]).run Try.prog w = .ok (.value (.slice (some ⟨w.heap.size, 0, none⟩) n cs.size)) ((w.alloc (.cells cs 5)).drewN 2) := by
    rw [run_callFunc_extern Try.func45 (by kernel_rfl) (by kernel_rfl) (by kernel_rfl) (e := Extern.BytealgMakeNoZero.makeNoZero #[3] #[23]) (by kernel_rfl), hr]
    rfl
  have hsz := h2 (by unfold maxLen; omega)
  have hcs : Hid (RepW w n 0 cs.size b ((w.alloc (.cells cs 5)).drewN 2)) := ⟨cs.toList, by simpa using heap_alloc_last w (.cells cs 5), by simp, rfl, bdrewN ((Below.refl _ _).alloc (Nat.le_refl _) _) 2⟩
  clear hs hr h2
  go_enter Try.func42, Try.ntmps42
  go_wp2_with fail
  with_reducible refine HM.out.mono ?_
  rintro e w1 ⟨rfl, rfl⟩
  go_upto_if 42 with fail
  go_cut [8] (fun s8 wx => ∃ c : Nat, s8 = .int .i64 c ∧ 1 ≤ c ∧ c ≤ 4194304 ∧ wx = w)
  case first =>
    by_cases hg : 8192 < n
    · go_wp2_with fail
      go_meet
      exact ⟨8192, rfl, by omega, by omega, rfl⟩
    · go_wp2_with fail
      go_meet
      exact ⟨n, rfl, by omega, by omega, rfl⟩
  case rest =>
    obtain ⟨c, rfl, hc1, hc2, rfl⟩ := hcut
    have i0 : (0 : Int) ≤ (n : Int) := by omega
    have i1 : (n : Int) ≤ (cs.size : Int) := by omega
    go_upto_region 17 with fail
    obtain ⟨cur, hg, hl, ht, hb⟩ := hcs.out
    have S1 := Lib.hid (HS.out.below hb)
    have hsrc : 0 < [encB b].length → (some (⟨wc.heap.size, 0, none⟩ : Addr)) = some ⟨wc.heap.size, 0, none⟩ ∧ ∃ ad, a = some ad ∧ ∀ j v, ([encB b] : List Value)[j]? = some v → ((wc.alloc (.cells cs 5)).drewN 2).cell? (ad.add j) = some v := by
      have := (copy_src (gb := wc.heap.size) (o := 0) (p := 0) S1.out (fun _ => rfl) (Nat.le_refl 1))
      simpa using this
    have HSRC := Lib.hid hsrc
    have HG := Lib.hid hg
    have HB := Lib.hid hb
    have HL := Lib.hid hl
    clear hsrc hcall hg hb ht hl
    generalize (wc.alloc (.cells cs 5)).drewN 2 = W0 at HSRC HG HB S1 ⊢
    have HNN := Lib.hid (show [encB b].length = Nat.min 1 n from (Nat.min_eq_left h0).symm)
    have HFF := Lib.hid (show 0 + [encB b].length ≤ cur.length by show 0 + 1 ≤ cur.length; rw [HL.out]; omega)
    have H1 := Lib.hid (show ∀ v ∈ [encB b], v.oneCell' = true from encB_one [b])
    go_wp2_with ((with_reducible refine wpList_copy_at rfl _ _ _ _ rfl 5 Try.underlying23 (by kernel_rfl) _ _ n n 1 cap rfl rfl wc.heap.size 0 cur 5 HG.out [encB b] HNN.out HSRC.out HFF.out H1.out ?_); intro w2 hg2 ho2; have HG2 := Lib.hid hg2.out; have HO2 := Lib.hid ho2; clear hg2 ho2)
    have hl0 : splice cur 0 [encB b] = [encB b] ++ cur.drop 1 := by simp [splice]
    have HR := Lib.hid (show RepW wc n 1 cs.size b w2 from ⟨_, HG2.out, by rw [length_splice _ _ _ HFF.out]; exact HL.out, by rw [hl0]; simp, HO2.out.below HB.out (Nat.le_refl _)⟩)
    clear HG2 HO2 HG HB HSRC hl0 hcs HNN HFF H1
    go_loopg [10] (n - 1) (fun gn i wr => ∃ bp : Nat, 1 ≤ bp ∧ bp ≤ n ∧ gn = n - bp ∧ i = .int .i64 bp ∧ Hid (RepW wc n bp cs.size b wr))
    case atStart => exact ⟨1, by omega, by omega, by omega, by go_num, HR⟩
    case round =>
      obtain ⟨bp, hb1, hb2, rfl, rfl, HR⟩ := hrel
      by_cases hlt : bp < n
      · obtain ⟨ch, hch, hch1, hch2⟩ : ∃ ch : Nat, (if c < bp then (c : Int) else bp) = ch ∧ 1 ≤ ch ∧ ch ≤ bp := by
          split
          · exact ⟨c, rfl, by omega, by omega⟩
          · exact ⟨bp, rfl, by omega, by omega⟩
        obtain ⟨m, hm⟩ : ∃ m, Nat.min ch (n - bp) = m := ⟨_, rfl⟩
        have hm1 : 1 ≤ m ∧ m ≤ ch ∧ bp + m ≤ n := by
          have : m = min ch (n - bp) := hm.symm
          omega
        have HM2 := Lib.hid hm
        clear hm
        have j1 : (0 : Int) ≤ bp := by omega
        have j2 : (bp : Int) ≤ n := by omega
        have j3 : ¬ n = bp := by omega
        have j4 : (0 : Int) ≤ ch := by omega
        have j5 : (ch : Int) ≤ n := by omega
        obtain ⟨W, rfl⟩ : ∃ W, W = wr := ⟨_, rfl⟩
        go_upto_region 20 with fail
        obtain ⟨cur2, hg, hl, ht, hb⟩ := HR.out
        have HG := Lib.hid (show W.drew.heap[wc.heap.size]? = some (.cells cur2.toArray 5) from hg)
        have HB := Lib.hid hb.drew
        have HNN := Lib.hid (show (List.replicate m (encB b)).length = Nat.min ch (n - bp) by rw [List.length_replicate]; exact HM2.out.symm)
        have HFF := Lib.hid (show bp + (List.replicate m (encB b)).length ≤ cur2.length by rw [hl, List.length_replicate]; omega)
        have H1 := Lib.hid (show ∀ v ∈ List.replicate m (encB b), v.oneCell' = true from fun v hv => by rw [List.eq_of_mem_replicate hv]; rfl)
        have HSRC := Lib.hid (show 0 < (List.replicate m (encB b)).length → (some (⟨wc.heap.size, bp, none⟩ : Addr)) = some ⟨wc.heap.size, bp, none⟩ ∧ ∃ ad, (some (⟨wc.heap.size, 0, none⟩ : Addr)) = some ad ∧ ∀ j v, (List.replicate m (encB b))[j]? = some v → W.drew.cell? (ad.add j) = some v from fun _ => by
          refine ⟨rfl, _, rfl, fun j v hv => ?_⟩
          have hj : j < m := by
            rcases Nat.lt_or_ge j m with h | h
            · exact h
            · rw [List.getElem?_eq_none (by simpa using h)] at hv; cases hv
          rw [List.getElem?_replicate, if_pos hj] at hv
          cases hv
          have hadd : (⟨wc.heap.size, 0, none⟩ : Addr).add j = ⟨wc.heap.size, 0 + j, none⟩ := by unfold Addr.add; split <;> simp_all
          rw [hadd, Nat.zero_add]
          show W.cell? _ = _
          rw [cell_of_row W wc.heap.size j _ _ _ hg]
          have hx := congrArg (fun l => l[j]?) ht
          simp only [List.getElem?_take, List.getElem?_replicate] at hx
          rw [if_pos (by omega), if_pos (by omega)] at hx
          simpa using hx)
        have HT := Lib.hid ht
        have HL2 := Lib.hid hl
        have w1 : IntKind.i64.wrap ((bp : Int) + m) = (bp : Int) + m := IntWalk.i64_in _ (by omega)
        have hm2 := hm1.2.2
        clear hg hl ht hb HR
        refine wp_region_lexS (fun _ => True) (.of [(0, true), (1, true), (2, true), (3, true), (4, true), (5, true), (6, true), (7, false)] (.stir [(8, true), (9, true)])) (by kernel_rfl) (by kernel_rfl) (fun c a d v w h => by cases d <;> exact h) ?_
        have hSw : True := trivial
        generalize W.drew = W3 at HG HB HSRC ⊢
        iterate 7
          refine lexS_step (fun K hK => ?_)
          simp only [lexOp, List.getElem?_toArray, List.getElem?_cons_succ, List.getElem?_cons_zero]
          rw [if_pos (by rfl)]
          apply Exists.intro
          refine ⟨fun w' hS' => ?_, hSw, ?_⟩
          · first | (go_simp <;> with_reducible rfl) | (go_simp; go_bits; with_reducible rfl)
          go_simp
          try go_bits
          refine hK _ _ ?_
          clear hK K
        refine lexS_step (fun K hK => ?_)
        simp only [lexOp, List.getElem?_toArray, List.getElem?_cons_succ, List.getElem?_cons_zero]
        rw [if_pos (by rfl)]
        show Oper.wp _ _ _ _ _ _
        refine wp_copy_splice rfl _ _ _ _ rfl 5 Try.underlying23 (by kernel_rfl) _ _ _ _ _ _ rfl rfl wc.heap.size bp cur2 5 HG.out (List.replicate m (encB b)) HNN.out HSRC.out HFF.out H1.out wc.heap.size wc HB.out (Nat.le_refl _) ?_
        intro w4 hg4 hb4
        refine ⟨trivial, hK _ _ ?_⟩
        clear hK K
        have HR := Lib.hid (show RepW wc n (bp + m) cs.size b w4 from ⟨_, hg4.out, by rw [length_splice _ _ _ HFF.out]; exact HL2.out, splice_rep HT.out (by rw [HL2.out]; omega), hb4⟩)
        clear hg4 hb4 HG HB HSRC
        rw [List.length_replicate]
        refine lexS_stir (fun y => y = w4) (fun _ _ => trivial) rfl ?_
        iterate 2
          refine stir_step (fun K hK => ?_)
          simp only [stirOp, List.getElem?_toArray, List.getElem?_cons_succ, List.getElem?_cons_zero]
          rw [if_pos (by rfl)]
          apply Exists.intro
          refine ⟨fun w' hS' => ?_, ?_⟩
          · first | (go_simp <;> with_reducible rfl) | (go_simp; go_bits; with_reducible rfl)
          go_simp
          try go_bits
          refine hK _ ?_
          clear hK K
        refine stir_nil (fun y hy => ?_)
        subst hy
        go_wp2_with fail
        go_roundg (n - (bp + m))
        case measure => omega
        case rel => exact ⟨bp + m, by omega, hm2, rfl, by go_num, HR⟩
      · obtain rfl : bp = n := by omega
        go_wp2_with fail
        go_ret
        exact ⟨cs.size, rfl, h1, hsz, HR.out⟩
end Go.Proofs.Ytdnnodpchjnleaa
