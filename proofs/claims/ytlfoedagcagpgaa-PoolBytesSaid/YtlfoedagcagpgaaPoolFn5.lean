/- pool: Check. No condition. -/
import Derived.Test.YtlfoedagcagpgaaPoolFn4
import Derived.Test.YtlfoedagcagpgaaRegionS
import Derived.Deep.LoopGhost
import Derived.Deep.DeepCutAuto
namespace Go.Proofs.Ytlfoedagcagpgaa
open Go.ChangeShapes Go.WideShapes Go.ChangeAt Go.RowKit
theorem konst_fields : Try.prog.underlying 28 = some (.struct (Try.prog.fieldsOf 28)) := by kernel_rfl
theorem konst_held : Try.prog.stoodInHeld 28 = false := by kernel_rfl
theorem konst_guard : Try.prog.eqGuardType Try.prog.depth 28 = false := by kernel_rfl
theorem konst_list : (Try.prog.fieldsOf 28).toList.map (fun f => (f.name, f.type, f.offset)) = [("Tag", 3, 0), ("A", 3, 1), ("B", 3, 2), ("N", 2, 3), ("S", 9, 4)] := by kernel_rfl
/-- Are two constants the same? -/
def sameK (c d : KV) : Bool := decide (c.tag = d.tag ∧ c.a = d.a ∧ c.b = d.b ∧ c.n = d.n ∧ c.s = d.s)
theorem bytes_toList (l : List UInt8) : (⟨l.toArray⟩ : ByteArray).toList = l := by rw [ByteArray.toList_eq]
theorem run_equalK (w : World) (d : Nat) (x y : KV) : (Op.equalIn (d + 1 + 1) 28 (kV x) (kV y)).run Try.prog w = .ok (sameK x y) w := by
  unfold kV
  rw [run_equalIn_struct w (d + 1) _ _ _ konst_fields konst_held]
  have hl := konst_list
  match hf : (Try.prog.fieldsOf 28).toList, hl with
  | [f0, f1, f2, f3, f4], hl =>
    simp only [List.map_cons, List.map_nil, List.cons.injEq, Prod.mk.injEq, and_true] at hl
    obtain ⟨⟨n0, t0, o0⟩, ⟨n1, t1, o1⟩, ⟨n2, t2, o2⟩, ⟨n3, t3, o3⟩, ⟨n4, t4, o4⟩⟩ := hl
    simp only [Op.eqFields, n0, n1, n2, n3, n4, t0, t1, t2, t3, t4, o0, o1, o2, o3, o4]
    have b : ∀ (e : Value) (i : Nat) (t : TypeId) (d' : TypeDesc) (cs : Array Value) (w : World), Try.prog.underlying t = some d' → (match d' with | .struct _ | .array _ _ => false | _ => true) = true → cs[i]? = some e → (part t cs i).run Try.prog w = .ok e w := by
      intro e i t d' cs w h1 h2 h3
      cases d' <;> simp [part, isAgg, run_underlying h1, h3] at h2 ⊢
    have i0 : ∀ (i : Nat) (cs : Array Value) (w : World) (h : i < cs.size), (part 3 cs i).run Try.prog w = .ok cs[i] w := fun i cs w h => b _ i _ _ cs w Try.underlying3 rfl (Array.getElem?_eq_getElem h)
    have i3 : ∀ (i : Nat) (cs : Array Value) (w : World) (h : i < cs.size), (part 2 cs i).run Try.prog w = .ok cs[i] w := fun i cs w h => b _ i _ _ cs w Try.underlying2 rfl (Array.getElem?_eq_getElem h)
    have i4 : ∀ (i : Nat) (cs : Array Value) (w : World) (h : i < cs.size), (part 9 cs i).run Try.prog w = .ok cs[i] w := fun i cs w h => b _ i _ _ cs w Try.underlying9 rfl (Array.getElem?_eq_getElem h)
    by_cases g0 : x.tag = y.tag
    · by_cases g1 : x.a = y.a
      · by_cases g2 : x.b = y.b
        · by_cases g3 : x.n = y.n
          · simp [i0, i3, i4, run_equalIn_int _ _ _ _ _ _ _ Try.underlying3, run_equalIn_int _ _ _ _ _ _ _ Try.underlying2, run_equalIn_string _ _ _ _ _ Try.underlying9, g0, g1, g2, g3, sameK, bytes_toList]
            by_cases g4 : x.s = y.s <;> simp [g4]
          · simp [i0, i3, i4, run_equalIn_int _ _ _ _ _ _ _ Try.underlying3, run_equalIn_int _ _ _ _ _ _ _ Try.underlying2, g0, g1, g2, g3, sameK]
        · simp [i0, i3, i4, run_equalIn_int _ _ _ _ _ _ _ Try.underlying3, g0, g1, g2, sameK]
      · simp [i0, run_equalIn_int _ _ _ _ _ _ _ Try.underlying3, g0, g1, sameK]
    · simp [i0, run_equalIn_int _ _ _ _ _ _ _ Try.underlying3, g0, sameK]
  | [], hl | [_], hl | [_, _], hl | [_, _, _], hl | [_, _, _, _], hl | _ :: _ :: _ :: _ :: _ :: _ :: _, hl => simp at hl
theorem run_neqK (w : World) (x y : KV) (o1 o2 : Operand) : ((eqGuard .neq 28 o1 o2 (kV x) (kV y)).run Try.prog w).andThen (fun _ w' => (binOp .neq 28 (kV x) (kV y)).run Try.prog w') = .ok (.bool (!sameK x y)) w := by
  have h := run_equalK w 9998 x y
  unfold kV at h ⊢
  rw [run_eqGuard_agg w _ _ _ _ _ _ konst_guard, Result.andThen_ok, run_neq_struct, h, Result.andThen_ok]
/-- A place is bare just if it is the same without what it may not have. -/
theorem sameK_bare (c : KV) : sameK c (bareV c) = bareOk c := by
  obtain ⟨t, a, b, n, s⟩ := c
  unfold sameK bareV bareOk wrap32
  rw [Bool.eq_iff_iff]
  by_cases h1 : t = 1 <;> by_cases h3 : t = 3 <;> by_cases h5 : t = 5 <;> by_cases h9 : t = 9 <;> by_cases h10 : t = 10 <;> by_cases h12 : t = 12 <;> by_cases h7 : t = 7 <;> by_cases h8 : t = 8 <;> first | (exfalso; omega) | (simp [h1, h3, h5, h9, h10, h12, h7, h8]; done) | (simp [h1, h3, h5, h9, h10, h12, h7, h8]; omega) | (simp [h1, h3, h5, h9, h10, h12, h7, h8]; grind)
theorem run_exec_bin {P : Program} {ρ : Operand → Value} {o : Oper} {op : BinOp} {t : TypeId} {x y : Operand} {ty : TypeId} (ho : o.op = .binOp op t x y ty) {v : Value} {w : World}
    (h : ((eqGuard op t x y (ρ x) (ρ y)).run P w).andThen (fun _ w' => (binOp op t (ρ x) (ρ y)).run P w') = .ok v w) : (execOp ρ o).run P w = .ok (.value v) w := by
  unfold execOp
  simp only [ho, Sem.run_bind, Sem.run_pure]
  rw [h]
  rfl
def CheckRet (L : List KV) (w : World) (e : Ending) (w' : World) : Prop := e = .returned (.int .i64 (if poolOk L then 0 else 8)) ∧ Below w.heap.size w w'
theorem poolOk_len {L : List KV} (h : L.length = 0 ∨ 1024 < L.length) : poolOk L = false := by
  unfold poolOk
  rcases h with h | h
  · rw [decide_eq_false (show ¬ 1 ≤ L.length by omega)]; rfl
  · rw [decide_eq_false (show ¬ L.length ≤ 1024 by omega)]; simp
theorem poolOk_tag {L : List KV} (h : (kAt L 0).tag ≠ 0) : poolOk L = false := by
  unfold poolOk
  rw [decide_eq_false h]; simp
theorem poolOk_bad {L : List KV} (j : Nat) (hj : j < L.length) (h : placeOk L j = false) : poolOk L = false := by
  unfold poolOk
  have : (List.range L.length).all (placeOk L) = false := by
    rw [List.all_eq_false]
    exact ⟨j, by simpa using hj, by simp [h]⟩
  rw [this]; simp
theorem poolOk_good {L : List KV} (h1 : 1 ≤ L.length) (h2 : L.length ≤ 1024) (h3 : (kAt L 0).tag = 0) (h : ∀ k, k < L.length → placeOk L k = true) : poolOk L = true := by
  unfold poolOk
  rw [decide_eq_true h1, decide_eq_true h2, decide_eq_true h3]
  simp
  exact h
theorem poolOk_parts {L : List KV} (h : poolOk L = true) : 1 ≤ L.length ∧ L.length ≤ 1024 ∧ (kAt L 0).tag = 0 ∧ ∀ k, k < L.length → placeOk L k = true := by
  unfold poolOk at h
  simp at h
  exact ⟨h.1.1.1, h.1.1.2, h.1.2, h.2⟩
set_option maxRecDepth 100000 in
set_option maxHeartbeats 8000000 in
theorem Check_any (w : World) (a : Option Addr) (n cap : Nat) (L : List KV) (hs : Ks w a n L) (hn : n ≤ 65536) (hl : ∀ i : Nat, i < n → (kAt L i).s.length ≤ 65536) : Calls Try.prog 8 #[.slice a n cap] w (CheckRet L w) := by
  have hL := hs.1
  by_cases h0 : n = 0
  · subst h0
    have HR := Lib.hid (poolOk_len (L := L) (.inl hL))
    clear hs hl
    go_enter Try.func8, Try.ntmps8
    go_wp2_with fail
    go_ret
    exact ⟨by rw [HR.out]; rfl, Below.refl _ _⟩
  · by_cases hm : 1024 < n
    · have HR := Lib.hid (poolOk_len (L := L) (.inr (by omega)))
      have e0 : ((n : Int) == 0) = false := by simp; omega
      have e1 : decide ((1024 : Int) < n) = true := by simp; omega
      clear hs hl h0 hL
      go_enter Try.func8, Try.ntmps8
      go_wp2_with fail
      go_ret
      exact ⟨by rw [HR.out]; rfl, Below.refl _ _⟩
    · obtain ⟨b, off, rfl, hbl, hk⟩ := hs.at 0 (by omega)
      have p0 := hk.c0
      simp only [Nat.zero_mul, Nat.add_zero] at p0
      have e0 : ((n : Int) == 0) = false := by simp; omega
      have e1 : decide ((1024 : Int) < n) = false := by simp; omega
      have z0 : 0 < n := by omega
      by_cases ht : (kAt L 0).tag = 0
      · have p0' : w.cell? ⟨b, off, none⟩ = some (.int .i64 0) := by rw [p0]; rw [← ht]; rfl
        have HS := Lib.hid hs
        have HT := Lib.hid ht
        have HLn := Lib.hid hL
        have HL := Lib.hid hl
        clear hk p0 hs ht hl hL
        go_enter Try.func8, Try.ntmps8
        go_wp2_with fail
        clear p0'
        go_loopg [22] n (fun gn i wr => ∃ j : Nat, j ≤ n ∧ gn = n - j ∧ i = .int .i64 j ∧ Hid (∀ k, k < j → placeOk L k = true) ∧ Hid (Below w.heap.size w wr))
        case atStart => exact ⟨0, by omega, by omega, by go_num, Lib.hid (fun k h => by omega), Lib.hid (Below.refl _ _)⟩
        case round =>
          obtain ⟨j, hj, rfl, rfl, HP, HB⟩ := hrel
          by_cases hlt : j < n
          · obtain ⟨b', off', he, _, hk⟩ := (HS.out.below HB.out).at j hlt
            cases he
            obtain ⟨q0, q1, q2, q3, q4⟩ := hk
            have HCB := Lib.hid (fun w' => bare_any w' (kAt L j))
            have HCL := Lib.hid (fun w' (hw : Below w.heap.size w w') => leads_any w' (some ⟨b, off, none⟩) n cap L j (HS.out.below hw) hn hlt (HL.out j hlt))
            have HEQ := Lib.hid (fun w' o1 o2 => run_neqK w' (kAt L j) (bareV (kAt L j)) o1 o2)
            rw [sameK_bare] at HEQ
            have HPB := Lib.hid (poolOk_bad (L := L) j (by rw [HLn.out]; exact hlt))
            have HPO : Hid (placeOk L j = (bareOk (kAt L j) && leadOk L j)) := Lib.hid rfl
            generalize bareOk (kAt L j) = r1 at *
            generalize leadOk L j = r2 at *
            generalize hvb : kV (bareV (kAt L j)) = vb at *
            unfold kV at HCB HEQ
            clear hvb
            generalize (kAt L j).tag = ct at *
            generalize (kAt L j).a = ca at *
            generalize (kAt L j).b = cb at *
            generalize (kAt L j).n = cn at *
            generalize (kAt L j).s = cs at *
            have j1 : (j : Int) < n := by omega
            obtain ⟨W0, rfl⟩ : ∃ W0, W0 = wr := ⟨_, rfl⟩
            go_upto_region 6 with fail
            have l0 := fun (x : Value) (k : Nat) (h : (#[Value.int .i64 ct, .int .i64 ca, .int .i64 cb, .int .i64 cn, .string ⟨cs.toArray⟩])[k]? = some x) => (cell_of_row (W0.alloc (.cells #[Value.int .i64 ct, .int .i64 ca, .int .i64 cb, .int .i64 cn, .string ⟨cs.toArray⟩] 28)) W0.heap.size k _ _ _ (heap_alloc_last W0 _)).trans h
            have c0 := l0 _ 0 rfl
            have c1 := l0 _ 1 rfl
            have c2 := l0 _ 2 rfl
            have c3 := l0 _ 3 rfl
            have c4 := l0 _ 4 rfl
            have HB1 := Lib.hid (HB.out.alloc HB.out.size (.cells #[Value.int .i64 ct, .int .i64 ca, .int .i64 cb, .int .i64 cn, .string ⟨cs.toArray⟩] 28))
            clear l0 q0 q1 q2 q3 q4
            generalize W0.alloc (.cells #[Value.int .i64 ct, .int .i64 ca, .int .i64 cb, .int .i64 cn, .string ⟨cs.toArray⟩] 28) = W at *
            have d0 := fun w' (h : Below W.heap.size W w') => cellS_below h c0
            have d1 := fun w' (h : Below W.heap.size W w') => cellS_below h c1
            have d2 := fun w' (h : Below W.heap.size W w') => cellS_below h c2
            have d3 := fun w' (h : Below W.heap.size W w') => cellS_below h c3
            have d4 := fun w' (h : Below W.heap.size W w') => cellS_below h c4
            clear c0 c1 c2 c3 c4
            refine wp_region_lexS (Below W.heap.size W) (.stir [(0, true), (1, true), (2, false), (3, true), (4, true), (5, true), (6, true), (7, false), (8, true), (9, true)]) (by kernel_rfl) (by kernel_rfl) (fun c a d v w h => by cases d <;> exact h) ?_
            refine lexS_stir (Below W.heap.size W) (fun _ h => h) (Below.refl _ _).drew ?_
            cases r1
            · have HR := Lib.hid (HPB.out (by rw [HPO.out]; rfl))
              clear HPB HPO
              iterate 2
                refine stir_step (fun K hK => ?_)
                simp only [stirOp, List.getElem?_toArray, List.getElem?_cons_succ, List.getElem?_cons_zero]
                rw [if_pos (by rfl)]
                apply Exists.intro
                refine ⟨fun w' hS' => ?_, ?_⟩
                · first | (go_simp <;> with_reducible rfl) | (go_simp; go_bits; with_reducible rfl)
                go_simp
                try go_bits
                refine hK _ ?_
                clear hK K
              refine stir_step (fun K hK => ?_)
              simp only [stirOp, List.getElem?_toArray, List.getElem?_cons_succ, List.getElem?_cons_zero]
              rw [if_pos (by rfl)]
              apply Exists.intro
              refine ⟨fun w' hS' => ?_, ?_⟩
              · go_simp
                exact Stirs.call (Calls.mono ((HCB.out w')) fun e w'' h => ⟨h.1, (fun hb'' => hS'.trans (hb''.mono hS'.size)) h.2⟩)
              go_simp
              refine hK _ ?_
              clear hK K
              refine stir_step (fun K hK => ?_)
              simp only [stirOp, List.getElem?_toArray, List.getElem?_cons_succ, List.getElem?_cons_zero]
              rw [if_pos (by rfl)]
              refine ⟨Value.bool (!false), fun w' hS' => ?_, ?_⟩
              · exact run_exec_bin (by rfl) (HEQ.out w' _ _)
              go_simp
              refine hK _ ?_
              clear hK K
              iterate 1
                refine stir_step (fun K hK => ?_)
                simp only [stirOp, List.getElem?_toArray, List.getElem?_cons_succ, List.getElem?_cons_zero]
                rw [if_pos (by rfl)]
                apply Exists.intro
                refine ⟨fun w' hS' => ?_, ?_⟩
                · first | (go_simp <;> with_reducible rfl) | (go_simp; go_bits; with_reducible rfl)
                go_simp
                try go_bits
                refine hK _ ?_
                clear hK K
              iterate 4
                refine stir_step (fun K hK => ?_)
                simp only [stirOp, List.getElem?_toArray, List.getElem?_cons_succ, List.getElem?_cons_zero]
                rw [if_neg (Bool.eq_false_iff.1 (by rfl))]
                go_simp
                refine hK _ ?_
                clear hK K
              iterate 1
                refine stir_step (fun K hK => ?_)
                simp only [stirOp, List.getElem?_toArray, List.getElem?_cons_succ, List.getElem?_cons_zero]
                rw [if_pos (by rfl)]
                apply Exists.intro
                refine ⟨fun w' hS' => ?_, ?_⟩
                · first | (go_simp <;> with_reducible rfl) | (go_simp; go_bits; with_reducible rfl)
                go_simp
                try go_bits
                refine hK _ ?_
                clear hK K
              refine stir_nil (fun y hy => ?_)
              have HY := Lib.hid (HB1.out.trans (hy.mono HB1.out.size))
              clear hy d0 d1 d2 d3 d4 HCB HCL HEQ
              go_wp2_with fail
              go_ret
              exact ⟨by rw [HR.out]; rfl, HY.out⟩
            · iterate 2
                refine stir_step (fun K hK => ?_)
                simp only [stirOp, List.getElem?_toArray, List.getElem?_cons_succ, List.getElem?_cons_zero]
                rw [if_pos (by rfl)]
                apply Exists.intro
                refine ⟨fun w' hS' => ?_, ?_⟩
                · first | (go_simp <;> with_reducible rfl) | (go_simp; go_bits; with_reducible rfl)
                go_simp
                try go_bits
                refine hK _ ?_
                clear hK K
              refine stir_step (fun K hK => ?_)
              simp only [stirOp, List.getElem?_toArray, List.getElem?_cons_succ, List.getElem?_cons_zero]
              rw [if_pos (by rfl)]
              apply Exists.intro
              refine ⟨fun w' hS' => ?_, ?_⟩
              · go_simp
                exact Stirs.call (Calls.mono ((HCB.out w')) fun e w'' h => ⟨h.1, (fun hb'' => hS'.trans (hb''.mono hS'.size)) h.2⟩)
              go_simp
              refine hK _ ?_
              clear hK K
              refine stir_step (fun K hK => ?_)
              simp only [stirOp, List.getElem?_toArray, List.getElem?_cons_succ, List.getElem?_cons_zero]
              rw [if_pos (by rfl)]
              refine ⟨Value.bool (!true), fun w' hS' => ?_, ?_⟩
              · exact run_exec_bin (by rfl) (HEQ.out w' _ _)
              go_simp
              refine hK _ ?_
              clear hK K
              iterate 3
                refine stir_step (fun K hK => ?_)
                simp only [stirOp, List.getElem?_toArray, List.getElem?_cons_succ, List.getElem?_cons_zero]
                rw [if_pos (by rfl)]
                apply Exists.intro
                refine ⟨fun w' hS' => ?_, ?_⟩
                · first | (go_simp <;> with_reducible rfl) | (go_simp; go_bits; with_reducible rfl)
                go_simp
                try go_bits
                refine hK _ ?_
                clear hK K
              refine stir_step (fun K hK => ?_)
              simp only [stirOp, List.getElem?_toArray, List.getElem?_cons_succ, List.getElem?_cons_zero]
              rw [if_pos (by rfl)]
              apply Exists.intro
              refine ⟨fun w' hS' => ?_, ?_⟩
              · go_simp
                exact Stirs.call (Calls.mono ((HCL.out w' (HB1.out.trans (hS'.mono HB1.out.size)))) fun e w'' h => ⟨h.1, (fun hb'' => hS'.trans (hb''.mono hS'.size)) h.2⟩)
              go_simp
              refine hK _ ?_
              clear hK K
              cases r2
              · have HR := Lib.hid (HPB.out (by rw [HPO.out]; rfl))
                clear HPB HPO
                iterate 2
                  refine stir_step (fun K hK => ?_)
                  simp only [stirOp, List.getElem?_toArray, List.getElem?_cons_succ, List.getElem?_cons_zero]
                  rw [if_pos (by rfl)]
                  apply Exists.intro
                  refine ⟨fun w' hS' => ?_, ?_⟩
                  · first | (go_simp <;> with_reducible rfl) | (go_simp; go_bits; with_reducible rfl)
                  go_simp
                  try go_bits
                  refine hK _ ?_
                  clear hK K
                refine stir_nil (fun y hy => ?_)
                have HY := Lib.hid (HB1.out.trans (hy.mono HB1.out.size))
                clear hy d0 d1 d2 d3 d4 HCB HCL HEQ
                go_wp2_with fail
                go_ret
                exact ⟨by rw [HR.out]; rfl, HY.out⟩
              · have HQ := Lib.hid (show ∀ k, k < j + 1 → placeOk L k = true from fun k hk => by
                  rcases Nat.lt_or_ge k j with h | h
                  · exact HP.out k h
                  · obtain rfl : k = j := by omega
                    rw [HPO.out]; rfl)
                clear HPB HPO
                iterate 2
                  refine stir_step (fun K hK => ?_)
                  simp only [stirOp, List.getElem?_toArray, List.getElem?_cons_succ, List.getElem?_cons_zero]
                  rw [if_pos (by rfl)]
                  apply Exists.intro
                  refine ⟨fun w' hS' => ?_, ?_⟩
                  · first | (go_simp <;> with_reducible rfl) | (go_simp; go_bits; with_reducible rfl)
                  go_simp
                  try go_bits
                  refine hK _ ?_
                  clear hK K
                refine stir_nil (fun y hy => ?_)
                have HY := Lib.hid (HB1.out.trans (hy.mono HB1.out.size))
                clear hy d0 d1 d2 d3 d4 HCB HCL HEQ
                go_wp2_with fail
                go_roundg (n - (j + 1))
                case measure => omega
                case rel => exact ⟨j + 1, by omega, rfl, by go_num, HQ, HY⟩
          · obtain rfl : j = n := by omega
            have HR := Lib.hid (poolOk_good (L := L) (by rw [HLn.out]; omega) (by rw [HLn.out]; omega) HT.out (by rw [HLn.out]; exact HP.out))
            go_wp2_with fail
            go_ret
            exact ⟨by rw [HR.out]; rfl, HB.out⟩
      · have HR := Lib.hid (poolOk_tag (L := L) ht)
        generalize (kAt L 0).tag = t at *
        have e3 : (t != 0) = true := by simp [ht]
        clear hk ht hs hl
        go_enter Try.func8, Try.ntmps8
        go_wp2_with fail
        go_ret
        exact ⟨by rw [HR.out]; rfl, Below.refl _ _⟩
end Go.Proofs.Ytlfoedagcagpgaa
