/- asm: own texts, merged (wip/merge2.py). No condition. -/
import Derived.Test.YtclpkipaehpkdaaGreatDoorQ05AsmNames
import Derived.Deep.LoopGhost
import Derived.Deep.DeepCutAuto
import Derived.Test.YtclpkipaehpkdaaGreatDoorQ01AsmNames
import Derived.Test.YtclpkipaehpkdaaGreatDoorQ03AsmNames
import Derived.Test.YtclpkipaehpkdaaGreatDoorQ04AsmNames
import Derived.Laws.EntriesVeiled
set_option linter.unusedVariables false
set_option linter.unusedSimpArgs false
namespace Go.Proofs.YtclpkipaehpkdaaGreatDoor
open Go.ChangeShapes Go.WideShapes Go.ChangeAt Go.RowKit
theorem konst_fields : Tryz.prog.underlying 61 = some (.struct (Tryz.prog.fieldsOf 61)) := by kernel_rfl
theorem konst_held : Tryz.prog.stoodInHeld 61 = false := by kernel_rfl
theorem konst_guard : Tryz.prog.eqGuardType Tryz.prog.depth 61 = false := by kernel_rfl
theorem konst_list : (Tryz.prog.fieldsOf 61).toList.map (fun f => (f.name, f.type, f.offset)) = [("Tag", 3, 0), ("A", 3, 1), ("B", 3, 2), ("N", 2, 3), ("S", 9, 4)] := by kernel_rfl
def sameK (c d : KV) : Bool := decide (c.tag = d.tag ∧ c.a = d.a ∧ c.b = d.b ∧ c.n = d.n ∧ c.s = d.s)
theorem bytes_toList (l : List UInt8) : (⟨l.toArray⟩ : ByteArray).toList = l := by rw [ByteArray.toList_eq]
theorem run_equalK (w : World) (d : Nat) (x y : KV) : (Op.equalIn (d + 1 + 1) 61 (kV x) (kV y)).run Tryz.prog w = .ok (sameK x y) w := by
  unfold kV
  rw [run_equalIn_struct w (d + 1) _ _ _ konst_fields konst_held]
  have hl := konst_list
  match hf : (Tryz.prog.fieldsOf 61).toList, hl with
  | [f0, f1, f2, f3, f4], hl =>
    simp only [List.map_cons, List.map_nil, List.cons.injEq, Prod.mk.injEq, and_true] at hl
    obtain ⟨⟨n0, t0, o0⟩, ⟨n1, t1, o1⟩, ⟨n2, t2, o2⟩, ⟨n3, t3, o3⟩, ⟨n4, t4, o4⟩⟩ := hl
    simp only [Op.eqFields, n0, n1, n2, n3, n4, t0, t1, t2, t3, t4, o0, o1, o2, o3, o4]
    have b : ∀ (e : Value) (i : Nat) (t : TypeId) (d' : TypeDesc) (cs : Array Value) (w : World), Tryz.prog.underlying t = some d' → (match d' with | .struct _ | .array _ _ => false | _ => true) = true → cs[i]? = some e → (part t cs i).run Tryz.prog w = .ok e w := by
      intro e i t d' cs w h1 h2 h3
      cases d' <;> simp [part, isAgg, run_underlying h1, h3] at h2 ⊢
    have i0 : ∀ (i : Nat) (cs : Array Value) (w : World) (h : i < cs.size), (part 3 cs i).run Tryz.prog w = .ok cs[i] w := fun i cs w h => b _ i _ _ cs w Tryz.underlying3 rfl (Array.getElem?_eq_getElem h)
    have i3 : ∀ (i : Nat) (cs : Array Value) (w : World) (h : i < cs.size), (part 2 cs i).run Tryz.prog w = .ok cs[i] w := fun i cs w h => b _ i _ _ cs w Tryz.underlying2 rfl (Array.getElem?_eq_getElem h)
    have i4 : ∀ (i : Nat) (cs : Array Value) (w : World) (h : i < cs.size), (part 9 cs i).run Tryz.prog w = .ok cs[i] w := fun i cs w h => b _ i _ _ cs w Tryz.underlying9 rfl (Array.getElem?_eq_getElem h)
    by_cases g0 : x.tag = y.tag
    · by_cases g1 : x.a = y.a
      · by_cases g2 : x.b = y.b
        · by_cases g3 : x.n = y.n
          · simp [i0, i3, i4, run_equalIn_int _ _ _ _ _ _ _ Tryz.underlying3, run_equalIn_int _ _ _ _ _ _ _ Tryz.underlying2, run_equalIn_string _ _ _ _ _ Tryz.underlying9, g0, g1, g2, g3, sameK, bytes_toList]
            by_cases g4 : x.s = y.s <;> simp [g4]
          · simp [i0, i3, i4, run_equalIn_int _ _ _ _ _ _ _ Tryz.underlying3, run_equalIn_int _ _ _ _ _ _ _ Tryz.underlying2, g0, g1, g2, g3, sameK]
        · simp [i0, i3, i4, run_equalIn_int _ _ _ _ _ _ _ Tryz.underlying3, g0, g1, g2, sameK]
      · simp [i0, run_equalIn_int _ _ _ _ _ _ _ Tryz.underlying3, g0, g1, sameK]
    · simp [i0, run_equalIn_int _ _ _ _ _ _ _ Tryz.underlying3, g0, sameK]
  | [], hl | [_], hl | [_, _], hl | [_, _, _], hl | [_, _, _, _], hl | _ :: _ :: _ :: _ :: _ :: _ :: _, hl => simp at hl
theorem run_neqK (w : World) (x y : KV) (o1 o2 : Operand) : ((eqGuard .neq 61 o1 o2 (kV x) (kV y)).run Tryz.prog w).andThen (fun _ w' => (binOp .neq 61 (kV x) (kV y)).run Tryz.prog w') = .ok (.bool (!sameK x y)) w := by
  have h := run_equalK w 9998 x y
  unfold kV at h ⊢
  rw [run_eqGuard_agg w _ _ _ _ _ _ konst_guard, Result.andThen_ok, run_neq_struct, h, Result.andThen_ok]
theorem sameK_bare (c : KV) : sameK c (bareV c) = bareOk c := by
  obtain ⟨t, a, b, n, s⟩ := c
  unfold sameK bareV bareOk wrap32
  rw [Bool.eq_iff_iff]
  by_cases h1 : t = 1 <;> by_cases h3 : t = 3 <;> by_cases h5 : t = 5 <;> by_cases h9 : t = 9 <;> by_cases h10 : t = 10 <;> by_cases h12 : t = 12 <;> by_cases h7 : t = 7 <;> by_cases h8 : t = 8 <;> first | (exfalso; omega) | (simp [h1, h3, h5, h9, h10, h12, h7, h8]; done) | (simp [h1, h3, h5, h9, h10, h12, h7, h8]; omega) | (simp [h1, h3, h5, h9, h10, h12, h7, h8]; grind)
theorem run_exec_bin {P : Program} {ρ : Operand → Value} {o : Oper} {op : BinOp} {t : TypeId} {x y : Operand} {ty : TypeId} (ho : o.op = .binOp op t x y ty) {v : Value} {w : World}
    (h : ((eqGuard op t x y (ρ x) (ρ y)).run P w).andThen (fun _ w' => (binOp op t (ρ x) (ρ y)).run P w') = .ok v w) : (execOp ρ o).run P w = .ok (.value v) w := by
  unfold execOp
  simp only [ho, Sem.run_bind, Sem.run_pure]
  rw [h]
  rfl
def CheckRet (L : List KV) (w : World) (e : Ending) (w' : World) : Prop := e = .returned (.int .i64 (if poolOk L then 0 else 8)) ∧ Below w.heap.size w w'
theorem poolOk_len {L : List KV} (h : L.length = 0 ∨ 1024 < L.length) : poolOk L = false := by
  unfold poolOk
  rcases h with h | h
  · rw [decide_eq_false (show ¬ 1 ≤ L.length by omega)]; rfl
  · rw [decide_eq_false (show ¬ L.length ≤ 1024 by omega)]; simp
theorem poolOk_tag {L : List KV} (h : (kAt L 0).tag ≠ 0) : poolOk L = false := by
  unfold poolOk
  rw [decide_eq_false h]; simp
theorem poolOk_bad {L : List KV} (j : Nat) (hj : j < L.length) (h : placeOk L j = false) : poolOk L = false := by
  unfold poolOk
  have : (List.range L.length).all (placeOk L) = false := by
    rw [List.all_eq_false]
    exact ⟨j, by simpa using hj, by simp [h]⟩
  rw [this]; simp
theorem poolOk_good {L : List KV} (h1 : 1 ≤ L.length) (h2 : L.length ≤ 1024) (h3 : (kAt L 0).tag = 0) (h : ∀ k, k < L.length → placeOk L k = true) : poolOk L = true := by
  unfold poolOk
  rw [decide_eq_true h1, decide_eq_true h2, decide_eq_true h3]
  simp
  exact h
set_option maxRecDepth 100000 in
set_option maxHeartbeats 8000000 in
theorem Check_any (w : World) (a : Option Addr) (n cap : Nat) (L : List KV) (hs : Ks w a n L) (hn : n ≤ 65536) (hl : ∀ i : Nat, i < n → (kAt L i).s.length ≤ 65536) : Calls Tryz.prog 43 #[.slice a n cap] w (CheckRet L w) := by
  have hL := hs.1
  by_cases h0 : n = 0
  · subst h0
    have HR := Lib.hid (poolOk_len (L := L) (.inl hL))
    clear hs hl
    go_enter Tryz.func43, Tryz.ntmps43
    go_wp2_with fail
    go_ret
    exact ⟨by rw [HR.out]; rfl, Below.refl _ _⟩
  · by_cases hm : 1024 < n
    · have HR := Lib.hid (poolOk_len (L := L) (.inr (by omega)))
      have e0 : ((n : Int) == 0) = false := by simp; omega
      have e1 : decide ((1024 : Int) < n) = true := by simp; omega
      clear hs hl h0 hL
      go_enter Tryz.func43, Tryz.ntmps43
      go_wp2_with fail
      go_ret
      exact ⟨by rw [HR.out]; rfl, Below.refl _ _⟩
    · obtain ⟨b, off, rfl, hbl, hk⟩ := hs.at 0 (by omega)
      have p0 := hk.c0
      simp only [Nat.zero_mul, Nat.add_zero] at p0
      have e0 : ((n : Int) == 0) = false := by simp; omega
      have e1 : decide ((1024 : Int) < n) = false := by simp; omega
      have z0 : 0 < n := by omega
      by_cases ht : (kAt L 0).tag = 0
      · have p0' : w.cell? ⟨b, off, none⟩ = some (.int .i64 0) := by rw [p0]; rw [← ht]; rfl
        have HS := Lib.hid hs
        have HT := Lib.hid ht
        have HLn := Lib.hid hL
        have HL := Lib.hid hl
        clear hk p0 hs ht hl hL
        go_enter Tryz.func43, Tryz.ntmps43
        go_wp2_with fail
        clear p0'
        go_loopg [22] n (fun gn i wr => ∃ j : Nat, j ≤ n ∧ gn = n - j ∧ i = .int .i64 j ∧ Hid (∀ k, k < j → placeOk L k = true) ∧ Hid (Below w.heap.size w wr))
        case atStart => exact ⟨0, by omega, by omega, by go_num, Lib.hid (fun k h => by omega), Lib.hid (Below.refl _ _)⟩
        case round =>
          obtain ⟨j, hj, rfl, rfl, HP, HB⟩ := hrel
          by_cases hlt : j < n
          · obtain ⟨b', off', he, _, hk⟩ := (HS.out.below HB.out).at j hlt
            cases he
            obtain ⟨q0, q1, q2, q3, q4⟩ := hk
            have HCB := Lib.hid (fun w' => bare_any w' (kAt L j))
            have HCL := Lib.hid (fun w' (hw : Below w.heap.size w w') => leads_any w' (some ⟨b, off, none⟩) n cap L j (HS.out.below hw) hn hlt (HL.out j hlt))
            have HEQ := Lib.hid (fun w' o1 o2 => run_neqK w' (kAt L j) (bareV (kAt L j)) o1 o2)
            rw [sameK_bare] at HEQ
            have HPB := Lib.hid (poolOk_bad (L := L) j (by rw [HLn.out]; exact hlt))
            have HPO : Hid (placeOk L j = (bareOk (kAt L j) && leadOk L j)) := Lib.hid rfl
            generalize bareOk (kAt L j) = r1 at *
            generalize leadOk L j = r2 at *
            generalize hvb : kV (bareV (kAt L j)) = vb at *
            unfold kV at HCB HEQ
            clear hvb
            generalize (kAt L j).tag = ct at *
            generalize (kAt L j).a = ca at *
            generalize (kAt L j).b = cb at *
            generalize (kAt L j).n = cn at *
            generalize (kAt L j).s = cs at *
            have j1 : (j : Int) < n := by omega
            obtain ⟨W0, rfl⟩ : ∃ W0, W0 = wr := ⟨_, rfl⟩
            go_upto_region 6 with fail
            have l0 := fun (x : Value) (k : Nat) (h : (#[Value.int .i64 ct, .int .i64 ca, .int .i64 cb, .int .i64 cn, .string ⟨cs.toArray⟩])[k]? = some x) => (cell_of_row (W0.alloc (.cells #[Value.int .i64 ct, .int .i64 ca, .int .i64 cb, .int .i64 cn, .string ⟨cs.toArray⟩] 61)) W0.heap.size k _ _ _ (heap_alloc_last W0 _)).trans h
            have c0 := l0 _ 0 rfl
            have c1 := l0 _ 1 rfl
            have c2 := l0 _ 2 rfl
            have c3 := l0 _ 3 rfl
            have c4 := l0 _ 4 rfl
            have HB1 := Lib.hid (HB.out.alloc HB.out.size (.cells #[Value.int .i64 ct, .int .i64 ca, .int .i64 cb, .int .i64 cn, .string ⟨cs.toArray⟩] 61))
            clear l0 q0 q1 q2 q3 q4
            generalize W0.alloc (.cells #[Value.int .i64 ct, .int .i64 ca, .int .i64 cb, .int .i64 cn, .string ⟨cs.toArray⟩] 61) = W at *
            have d0 := fun w' (h : Below W.heap.size W w') => cellS_below h c0
            have d1 := fun w' (h : Below W.heap.size W w') => cellS_below h c1
            have d2 := fun w' (h : Below W.heap.size W w') => cellS_below h c2
            have d3 := fun w' (h : Below W.heap.size W w') => cellS_below h c3
            have d4 := fun w' (h : Below W.heap.size W w') => cellS_below h c4
            clear c0 c1 c2 c3 c4
            refine wp_region_lexS (Below W.heap.size W) (.stir [(0, true), (1, true), (2, false), (3, true), (4, true), (5, true), (6, true), (7, false), (8, true), (9, true)]) (by kernel_rfl) (by kernel_rfl) (fun c a d v w h => by cases d <;> exact h) ?_
            refine lexS_stir (Below W.heap.size W) (fun _ h => h) (Below.refl _ _).drew ?_
            cases r1
            · have HR := Lib.hid (HPB.out (by rw [HPO.out]; rfl))
              clear HPB HPO
              iterate 2
                refine stir_step (fun K hK => ?_)
                simp only [stirOp, List.getElem?_toArray, List.getElem?_cons_succ, List.getElem?_cons_zero]
                rw [if_pos (by rfl)]
                apply Exists.intro
                refine ⟨fun w' hS' => ?_, ?_⟩
                · first | (go_simp <;> with_reducible rfl) | (go_simp; go_bits; with_reducible rfl)
                go_simp
                try go_bits
                refine hK _ ?_
                clear hK K
              refine stir_step (fun K hK => ?_)
              simp only [stirOp, List.getElem?_toArray, List.getElem?_cons_succ, List.getElem?_cons_zero]
              rw [if_pos (by rfl)]
              apply Exists.intro
              refine ⟨fun w' hS' => ?_, ?_⟩
              · go_simp
                exact Stirs.call (Calls.mono ((HCB.out w')) fun e w'' h => ⟨h.1, (fun hb'' => hS'.trans (hb''.mono hS'.size)) h.2⟩)
              go_simp
              refine hK _ ?_
              clear hK K
              refine stir_step (fun K hK => ?_)
              simp only [stirOp, List.getElem?_toArray, List.getElem?_cons_succ, List.getElem?_cons_zero]
              rw [if_pos (by rfl)]
              refine ⟨Value.bool (!false), fun w' hS' => ?_, ?_⟩
              · exact run_exec_bin (by rfl) (HEQ.out w' _ _)
              go_simp
              refine hK _ ?_
              clear hK K
              iterate 1
                refine stir_step (fun K hK => ?_)
                simp only [stirOp, List.getElem?_toArray, List.getElem?_cons_succ, List.getElem?_cons_zero]
                rw [if_pos (by rfl)]
                apply Exists.intro
                refine ⟨fun w' hS' => ?_, ?_⟩
                · first | (go_simp <;> with_reducible rfl) | (go_simp; go_bits; with_reducible rfl)
                go_simp
                try go_bits
                refine hK _ ?_
                clear hK K
              iterate 4
                refine stir_step (fun K hK => ?_)
                simp only [stirOp, List.getElem?_toArray, List.getElem?_cons_succ, List.getElem?_cons_zero]
                rw [if_neg (Bool.eq_false_iff.1 (by rfl))]
                go_simp
                refine hK _ ?_
                clear hK K
              iterate 1
                refine stir_step (fun K hK => ?_)
                simp only [stirOp, List.getElem?_toArray, List.getElem?_cons_succ, List.getElem?_cons_zero]
                rw [if_pos (by rfl)]
                apply Exists.intro
                refine ⟨fun w' hS' => ?_, ?_⟩
                · first | (go_simp <;> with_reducible rfl) | (go_simp; go_bits; with_reducible rfl)
                go_simp
                try go_bits
                refine hK _ ?_
                clear hK K
              refine stir_nil (fun y hy => ?_)
              have HY := Lib.hid (HB1.out.trans (hy.mono HB1.out.size))
              clear hy d0 d1 d2 d3 d4 HCB HCL HEQ
              go_wp2_with fail
              go_ret
              exact ⟨by rw [HR.out]; rfl, HY.out⟩
            · iterate 2
                refine stir_step (fun K hK => ?_)
                simp only [stirOp, List.getElem?_toArray, List.getElem?_cons_succ, List.getElem?_cons_zero]
                rw [if_pos (by rfl)]
                apply Exists.intro
                refine ⟨fun w' hS' => ?_, ?_⟩
                · first | (go_simp <;> with_reducible rfl) | (go_simp; go_bits; with_reducible rfl)
                go_simp
                try go_bits
                refine hK _ ?_
                clear hK K
              refine stir_step (fun K hK => ?_)
              simp only [stirOp, List.getElem?_toArray, List.getElem?_cons_succ, List.getElem?_cons_zero]
              rw [if_pos (by rfl)]
              apply Exists.intro
              refine ⟨fun w' hS' => ?_, ?_⟩
              · go_simp
                exact Stirs.call (Calls.mono ((HCB.out w')) fun e w'' h => ⟨h.1, (fun hb'' => hS'.trans (hb''.mono hS'.size)) h.2⟩)
              go_simp
              refine hK _ ?_
              clear hK K
              refine stir_step (fun K hK => ?_)
              simp only [stirOp, List.getElem?_toArray, List.getElem?_cons_succ, List.getElem?_cons_zero]
              rw [if_pos (by rfl)]
              refine ⟨Value.bool (!true), fun w' hS' => ?_, ?_⟩
              · exact run_exec_bin (by rfl) (HEQ.out w' _ _)
              go_simp
              refine hK _ ?_
              clear hK K
              iterate 3
                refine stir_step (fun K hK => ?_)
                simp only [stirOp, List.getElem?_toArray, List.getElem?_cons_succ, List.getElem?_cons_zero]
                rw [if_pos (by rfl)]
                apply Exists.intro
                refine ⟨fun w' hS' => ?_, ?_⟩
                · first | (go_simp <;> with_reducible rfl) | (go_simp; go_bits; with_reducible rfl)
                go_simp
                try go_bits
                refine hK _ ?_
                clear hK K
              refine stir_step (fun K hK => ?_)
              simp only [stirOp, List.getElem?_toArray, List.getElem?_cons_succ, List.getElem?_cons_zero]
              rw [if_pos (by rfl)]
              apply Exists.intro
              refine ⟨fun w' hS' => ?_, ?_⟩
              · go_simp
                exact Stirs.call (Calls.mono ((HCL.out w' (HB1.out.trans (hS'.mono HB1.out.size)))) fun e w'' h => ⟨h.1, (fun hb'' => hS'.trans (hb''.mono hS'.size)) h.2⟩)
              go_simp
              refine hK _ ?_
              clear hK K
              cases r2
              · have HR := Lib.hid (HPB.out (by rw [HPO.out]; rfl))
                clear HPB HPO
                iterate 2
                  refine stir_step (fun K hK => ?_)
                  simp only [stirOp, List.getElem?_toArray, List.getElem?_cons_succ, List.getElem?_cons_zero]
                  rw [if_pos (by rfl)]
                  apply Exists.intro
                  refine ⟨fun w' hS' => ?_, ?_⟩
                  · first | (go_simp <;> with_reducible rfl) | (go_simp; go_bits; with_reducible rfl)
                  go_simp
                  try go_bits
                  refine hK _ ?_
                  clear hK K
                refine stir_nil (fun y hy => ?_)
                have HY := Lib.hid (HB1.out.trans (hy.mono HB1.out.size))
                clear hy d0 d1 d2 d3 d4 HCB HCL HEQ
                go_wp2_with fail
                go_ret
                exact ⟨by rw [HR.out]; rfl, HY.out⟩
              · have HQ := Lib.hid (show ∀ k, k < j + 1 → placeOk L k = true from fun k hk => by
                  rcases Nat.lt_or_ge k j with h | h
                  · exact HP.out k h
                  · obtain rfl : k = j := by omega
                    rw [HPO.out]; rfl)
                clear HPB HPO
                iterate 2
                  refine stir_step (fun K hK => ?_)
                  simp only [stirOp, List.getElem?_toArray, List.getElem?_cons_succ, List.getElem?_cons_zero]
                  rw [if_pos (by rfl)]
                  apply Exists.intro
                  refine ⟨fun w' hS' => ?_, ?_⟩
                  · first | (go_simp <;> with_reducible rfl) | (go_simp; go_bits; with_reducible rfl)
                  go_simp
                  try go_bits
                  refine hK _ ?_
                  clear hK K
                refine stir_nil (fun y hy => ?_)
                have HY := Lib.hid (HB1.out.trans (hy.mono HB1.out.size))
                clear hy d0 d1 d2 d3 d4 HCB HCL HEQ
                go_wp2_with fail
                go_roundg (n - (j + 1))
                case measure => omega
                case rel => exact ⟨j + 1, by omega, rfl, by go_num, HQ, HY⟩
          · obtain rfl : j = n := by omega
            have HR := Lib.hid (poolOk_good (L := L) (by rw [HLn.out]; omega) (by rw [HLn.out]; omega) HT.out (by rw [HLn.out]; exact HP.out))
            go_wp2_with fail
            go_ret
            exact ⟨by rw [HR.out]; rfl, HB.out⟩
      · have HR := Lib.hid (poolOk_tag (L := L) ht)
        generalize (kAt L 0).tag = t at *
        have e3 : (t != 0) = true := by simp [ht]
        clear hk ht hs hl
        go_enter Tryz.func43, Tryz.ntmps43
        go_wp2_with fail
        go_ret
        exact ⟨by rw [HR.out]; rfl, Below.refl _ _⟩
end Go.Proofs.YtclpkipaehpkdaaGreatDoor

namespace Go.Proofs.YtclpkipaehpkdaaGreatDoor
open Go.RowKit
theorem kAt_get (L : List KV) (k : Nat) (h : k < L.length) : kAt L (k : Int) = L[k] := by
  unfold kAt; simp [List.getD, h]
end Go.Proofs.YtclpkipaehpkdaaGreatDoor

namespace Go.Proofs.YtclpkipaehpkdaaGreatDoor
open Go.ChangeShapes Go.WideShapes Go.ChangeAt Go.RowKit
def KeptT (e : TypeId) (w w' : World) : Prop := w.heap.size ≤ w'.heap.size ∧ ∀ (g : Nat) (cs : Array Value) (t : TypeId) (fr : Nat × Nat), w.heap[g]? = some (.cells cs t fr) → t ≠ e → w'.heap[g]? = some (.cells cs t fr)
theorem own_keptT {w w' : World} {B : Nat} {e e' : TypeId} {size : Nat} {v : Value} {n : Nat} {xs : List Value} (h : w.ownsRow B e size v n xs) (hk : KeptT e' w w') (hne : e ≠ e') : w'.ownsRow B e size v n xs := by
  refine ⟨h.1, ?_⟩
  rcases h.2 with ⟨h1, h2⟩ | ⟨g, cap, cur, hv, hb, hg, r⟩
  · exact .inl ⟨h1, h2⟩
  · exact .inr ⟨g, cap, cur, hv, hb, hk.2 _ _ _ _ hg hne, r⟩
theorem kept_typeE {w w' : World} {B : Nat} {e t : TypeId} {size : Nat} {v : Value} {n g : Nat} {xs : List Value} {o : Obj} {cs : Array Value} {fr : Nat × Nat} (ho : w.ownsRow B e size v n xs) (hg : (w.alloc o).grownBy w' v.ownBlock) (hx : w.heap[g]? = some (.cells cs t fr)) (hne : e ≠ t) : w'.heap[g]? = some (.cells cs t fr) := by
  have hlt := (Array.getElem?_eq_some_iff.1 hx).1
  rw [hg.block g (by simp; omega) ?_, Below.heap_alloc _ _ _ hlt]
  · exact hx
  · intro he
    rcases ho.2 with ⟨rfl, _⟩ | ⟨g2, cap, cur, rfl, _, hg2, _⟩
    · simp [Value.ownBlock] at he
    · simp [Value.ownBlock] at he
      subst he
      rw [hg2] at hx
      simp at hx
      exact hne hx.2.1
theorem KeptT.app {w w' : World} {B : Nat} {e : TypeId} {size : Nat} {v : Value} {n : Nat} {xs : List Value} {o : Obj} (ho : w.ownsRow B e size v n xs) (hg : (w.alloc o).grownBy w' v.ownBlock) : KeptT e w w' := by
  refine ⟨?_, fun g cs t fr hx hne => kept_typeE ho hg hx (Ne.symm hne)⟩
  have h := hg.size
  simp at h
  omega
def OwnOr (w : World) (B : Nat) (v : Value) (m : Nat) (bs : List UInt8) : Prop :=
  w.ownsRow B 5 1 v m (bs.map encB) ∨ ∃ g C fr, v = .slice (some ⟨g, 0, none⟩) m m ∧ B ≤ g ∧ w.heap[g]? = some (.cells C 5 fr) ∧ Sl encB w (some ⟨g, 0, none⟩) m bs
theorem OwnOr.nil (w : World) (B : Nat) : OwnOr w B (.slice none 0 0) 0 [] := .inl (World.ownsRow_nil _ _ _ _)
theorem OwnOr.len {w : World} {B : Nat} {v : Value} {m : Nat} {bs : List UInt8} (h : OwnOr w B v m bs) : bs.length = m := by
  rcases h with h | ⟨g, C, fr, _, _, _, h⟩
  · have := h.1; simpa using this
  · exact h.1
theorem OwnOr.sl {w : World} {B : Nat} {v : Value} {m : Nat} {bs : List UInt8} (h : OwnOr w B v m bs) : ∃ a c, v = .slice a m c ∧ Sl encB w a m bs ∧ m ≤ c := by
  rcases h with h | ⟨g, C, fr, rfl, _, _, h⟩
  · obtain ⟨a, c, rfl, hs, hc⟩ := Sl.ofOwn h
    exact ⟨a, c, rfl, hs, hc⟩
  · exact ⟨_, m, rfl, h, Nat.le_refl _⟩
theorem OwnOr.below {w w' : World} {B : Nat} {v : Value} {m : Nat} {bs : List UInt8} (h : OwnOr w B v m bs) (hb : Below w.heap.size w w') : OwnOr w' B v m bs := by
  rcases h with h | ⟨g, C, fr, rfl, hg, hc, h⟩
  · exact .inl (own_below h hb)
  · exact .inr ⟨g, C, fr, rfl, hg, by rw [hb.block g (Array.getElem?_eq_some_iff.1 hc).1]; exact hc, h.below hb⟩
theorem OwnOr.keptT {w w' : World} {B : Nat} {e : TypeId} {v : Value} {m : Nat} {bs : List UInt8} (h : OwnOr w B v m bs) (hk : KeptT e w w') (hne : 5 ≠ e) : OwnOr w' B v m bs := by
  rcases h with h | ⟨g, C, fr, rfl, hg, hc, h⟩
  · exact .inl (own_keptT h hk hne)
  · have hc' := hk.2 _ _ _ _ hc hne
    refine .inr ⟨g, C, fr, rfl, hg, hc', h.1, fun hn => ?_⟩
    obtain ⟨b, off, ha, hlt, hcell⟩ := h.2 hn
    simp only [Option.some.injEq, Addr.mk.injEq] at ha
    obtain ⟨rfl, rfl, _⟩ := ha
    refine ⟨g, 0, rfl, Nat.lt_of_lt_of_le hlt hk.1, fun i hi => ?_⟩
    rw [← hcell i hi]
    unfold World.cell?
    rw [hc, hc']
theorem OwnOr.mono {w : World} {B B' : Nat} {v : Value} {m : Nat} {bs : List UInt8} (h : OwnOr w B v m bs) (hB : B' ≤ B) : OwnOr w B' v m bs := by
  rcases h with h | ⟨g, C, fr, rfl, hg, hc, h⟩
  · exact .inl (own_mono h hB)
  · exact .inr ⟨g, C, fr, rfl, by omega, hc, h⟩
theorem KeptT.trans {e : TypeId} {w w1 w2 : World} (h : KeptT e w w1) (k : KeptT e w1 w2) : KeptT e w w2 := ⟨Nat.le_trans h.1 k.1, fun g cs t fr hg ht => k.2 g cs t fr (h.2 g cs t fr hg ht) ht⟩
theorem KeptT.refl {e : TypeId} (w : World) : KeptT e w w := ⟨Nat.le_refl _, fun _ _ _ _ h _ => h⟩
end Go.Proofs.YtclpkipaehpkdaaGreatDoor

namespace Go.Proofs.YtclpkipaehpkdaaGreatDoor
open Go.ChangeShapes Go.WideShapes Go.ChangeAt Go.RowKit
structure Box3 (w w1 : World) (g : Nat) (x y z : Value) : Prop where
  c0 : w1.cell? ⟨g, 0, none⟩ = some x
  c1 : w1.cell? ⟨g, 1, none⟩ = some y
  c2 : w1.cell? ⟨g, 2, none⟩ = some z
  f0 : w1.frozen? ⟨g, 0, none⟩ = false
  f1 : w1.frozen? ⟨g, 1, none⟩ = false
  f2 : w1.frozen? ⟨g, 2, none⟩ = false
  lt : g < w1.heap.size
theorem Box3.of {w w1 : World} {g : Nat} {x y z : Value} {t : TypeId} (h : w.heap[g]? = some (.cells #[x, y, z] t)) (hb : Below w.heap.size w w1) : Box3 w w1 g x y z := by
  have hlt : g < w.heap.size := (Array.getElem?_eq_some_iff.1 h).1
  have hg : w1.heap[g]? = some (.cells #[x, y, z] t) := by rw [hb.block _ hlt]; exact h
  refine ⟨?_, ?_, ?_, ?_, ?_, ?_, (Array.getElem?_eq_some_iff.1 hg).1⟩
  · rw [cell_of_row w1 _ 0 _ _ _ hg]; rfl
  · rw [cell_of_row w1 _ 1 _ _ _ hg]; rfl
  · rw [cell_of_row w1 _ 2 _ _ _ hg]; rfl
  all_goals (unfold World.frozen?; rw [hg]; rfl)
theorem heap_set3 {w : World} {g : Nat} {cs : Array Value} {t : TypeId} {fr : Nat × Nat} (h : w.heap[g]? = some (.cells cs t fr)) (o : Nat) (v : Value) : (w.setCell ⟨g, o, none⟩ v).heap[g]? = some (.cells (cs.setIfInBounds o v) t fr) := by
  unfold World.setCell
  simp [Array.getElem?_modify, h]
def Blk3 (w : World) (g : Nat) (x y z : Value) (t : TypeId) : Prop := w.heap[g]? = some (.cells #[x, y, z] t)
theorem Blk3.below {w w1 : World} {g : Nat} {x y z : Value} {t : TypeId} (h : Blk3 w g x y z t) (hb : Below w.heap.size w w1) : Blk3 w1 g x y z t := by
  unfold Blk3
  rw [hb.block _ (Array.getElem?_eq_some_iff.1 h).1]; exact h
theorem Blk3.box {w : World} {g : Nat} {x y z : Value} {t : TypeId} (h : Blk3 w g x y z t) : Box3 w w g x y z := Box3.of h (Below.refl _ _)
theorem Blk3.set {w : World} {g : Nat} {x y z x' y' z' : Value} {t : TypeId} (h : Blk3 w g x y z t) : Blk3 (((w.setCell ⟨g, 0, none⟩ x').setCell ⟨g, 1, none⟩ y').setCell ⟨g, 2, none⟩ z') g x' y' z' t :=
  heap_set3 (heap_set3 (heap_set3 h 0 x') 1 y') 2 z'
theorem Blk3.other {w : World} {g h o : Nat} {x y z v : Value} {t : TypeId} (k : Blk3 w g x y z t) (hne : g ≠ h) : Blk3 (w.setCell ⟨h, o, none⟩ v) g x y z t := by
  unfold Blk3 World.setCell
  have hne' : ¬ h = g := fun e => hne e.symm
  simp [Array.getElem?_modify, hne']
  exact k
theorem Blk3.belowB {w w1 : World} {B g : Nat} {x y z : Value} {t : TypeId} (h : Blk3 w g x y z t) (hb : Below B w w1) (hlt : g < B) : Blk3 w1 g x y z t := by
  unfold Blk3
  rw [hb.block _ hlt]; exact h
end Go.Proofs.YtclpkipaehpkdaaGreatDoor

namespace Go.Proofs.YtclpkipaehpkdaaGreatDoor
open Go.ChangeShapes Go.WideShapes Go.ChangeAt Go.RowKit
structure Box2 (w : World) (g : Nat) (x y : Value) : Prop where
  c0 : w.cell? ⟨g, 0, none⟩ = some x
  c1 : w.cell? ⟨g, 1, none⟩ = some y
  f0 : w.frozen? ⟨g, 0, none⟩ = false
  f1 : w.frozen? ⟨g, 1, none⟩ = false
  lt : g < w.heap.size
def Blk2 (w : World) (g : Nat) (x y : Value) (t : TypeId) : Prop := w.heap[g]? = some (.cells #[x, y] t)
theorem Blk2.box {w : World} {g : Nat} {x y : Value} {t : TypeId} (h : Blk2 w g x y t) : Box2 w g x y := by
  unfold Blk2 at h
  refine ⟨?_, ?_, ?_, ?_, (Array.getElem?_eq_some_iff.1 h).1⟩
  · rw [cell_of_row w _ 0 _ _ _ h]; rfl
  · rw [cell_of_row w _ 1 _ _ _ h]; rfl
  all_goals (unfold World.frozen?; rw [h]; rfl)
theorem Blk2.belowB {w w1 : World} {B g : Nat} {x y : Value} {t : TypeId} (h : Blk2 w g x y t) (hb : Below B w w1) (hlt : g < B) : Blk2 w1 g x y t := by
  unfold Blk2
  rw [hb.block _ hlt]; exact h
theorem Blk2.below {w w1 : World} {g : Nat} {x y : Value} {t : TypeId} (h : Blk2 w g x y t) (hb : Below w.heap.size w w1) : Blk2 w1 g x y t := h.belowB hb (Array.getElem?_eq_some_iff.1 h).1
theorem Blk2.other {w : World} {g h o : Nat} {x y v : Value} {t : TypeId} (k : Blk2 w g x y t) (hne : g ≠ h) : Blk2 (w.setCell ⟨h, o, none⟩ v) g x y t := by
  unfold Blk2 World.setCell
  have hne' : ¬ h = g := fun e => hne e.symm
  simp [Array.getElem?_modify, hne']
  exact k
theorem Blk2.set0 {w : World} {g : Nat} {x y v : Value} {t : TypeId} (h : Blk2 w g x y t) : Blk2 (w.setCell ⟨g, 0, none⟩ v) g v y t := heap_set3 h 0 v
theorem Blk2.set1 {w : World} {g : Nat} {x y v : Value} {t : TypeId} (h : Blk2 w g x y t) : Blk2 (w.setCell ⟨g, 1, none⟩ v) g x v t := heap_set3 h 1 v
structure Keep1 (g : Nat) (w w' : World) : Prop where
  os : w'.os = w.os
  tape : w'.tape = w.tape
  output : w'.output = w.output
  size : w.heap.size ≤ w'.heap.size
  block : ∀ k, k < w.heap.size → k ≠ g → w'.heap[k]? = w.heap[k]?
theorem Keep1.refl (g : Nat) (w : World) : Keep1 g w w := ⟨rfl, rfl, rfl, Nat.le_refl _, fun _ _ _ => rfl⟩
theorem Keep1.trans {g : Nat} {w w1 w2 : World} (h : Keep1 g w w1) (k : Keep1 g w1 w2) : Keep1 g w w2 :=
  ⟨k.os.trans h.os, k.tape.trans h.tape, k.output.trans h.output, Nat.le_trans h.size k.size, fun i hi hg => by rw [k.block i (Nat.lt_of_lt_of_le hi h.size) hg, h.block i hi hg]⟩
theorem Keep1.of {g : Nat} {w w1 : World} (h : Below w.heap.size w w1) : Keep1 g w w1 := ⟨h.os, h.tape, h.output, h.size, fun k hk _ => h.block k hk⟩
theorem Keep1.drew {g : Nat} {w w1 : World} (h : Keep1 g w w1) : Keep1 g w w1.drew := ⟨h.os, h.tape, h.output, h.size, h.block⟩
theorem Keep1.drewN {g : Nat} {w w1 : World} (h : Keep1 g w w1) (n : Nat) : Keep1 g w (w1.drewN n) := ⟨h.os, h.tape, h.output, h.size, h.block⟩
theorem Keep1.set {g : Nat} {w w1 : World} (h : Keep1 g w w1) (o : Nat) (v : Value) : Keep1 g w (w1.setCell ⟨g, o, none⟩ v) :=
  ⟨h.os, h.tape, h.output, by have := h.size; unfold World.setCell; simpa using this, fun k hk hg => by
    rw [← h.block k hk hg]
    unfold World.setCell
    have hne' : ¬ g = k := fun e => hg e.symm
    simp [Array.getElem?_modify, hne']⟩
theorem Keep1.below {g B : Nat} {w0 w w' : World} (h : Keep1 g w w') (hb : Below B w0 w) (hB : B ≤ w0.heap.size) (hg : B ≤ g) : Below B w0 w' :=
  ⟨h.os.trans hb.os, h.tape.trans hb.tape, h.output.trans hb.output, Nat.le_trans hb.size h.size, fun k hk => by
    rw [h.block k (Nat.lt_of_lt_of_le (Nat.lt_of_lt_of_le hk hB) hb.size) (by omega)]; exact hb.block k hk⟩
def Off1 (x : Option Addr) (n g : Nat) : Prop := 0 < n → ∀ b off, x = some ⟨b, off, none⟩ → b ≠ g
theorem Off1.old {α : Type} {enc : α → Value} {w : World} {x : Option Addr} {n g : Nat} {xs : List α} (h : Sl enc w x n xs) (hg : w.heap.size ≤ g) : Off1 x n g := by
  intro hn b off hx
  obtain ⟨b', off', hx', hlt, _⟩ := h.2 hn
  rw [hx] at hx'
  simp only [Option.some.injEq, Addr.mk.injEq] at hx'
  omega
theorem Off1.new {x off n g : Nat} (h : g ≠ x) : Off1 (some ⟨x, off, none⟩) n g := fun _ b o e => by cases e; exact Ne.symm h
theorem Off1.nil {a : Option Addr} {g : Nat} : Off1 a 0 g := fun h => absurd h (by omega)
theorem Sl.keep1 {α : Type} {enc : α → Value} {g : Nat} {w w' : World} {x : Option Addr} {n : Nat} {xs : List α} (hs : Sl enc w x n xs) (h : Keep1 g w w') (h1 : Off1 x n g) : Sl enc w' x n xs := by
  refine ⟨hs.1, fun hn => ?_⟩
  obtain ⟨b, off, ha, hlt, hc⟩ := hs.2 hn
  refine ⟨b, off, ha, Nat.lt_of_lt_of_le hlt h.size, fun i hi => ?_⟩
  rw [← hc i hi]
  unfold World.cell?
  rw [h.block b hlt (h1 hn b off ha)]
theorem Off1.own {w : World} {B : Nat} {e : TypeId} {a : Option Addr} {n c g : Nat} {xs : List Value} (h : w.ownsRow B e 1 (.slice a n c) n xs) (hg : g < B) : Off1 a n g := by
  intro hn b off hx
  obtain ⟨g', hx', hB, _⟩ := own_addr h hn
  rw [hx] at hx'
  simp only [Option.some.injEq, Addr.mk.injEq] at hx'
  omega
end Go.Proofs.YtclpkipaehpkdaaGreatDoor

namespace Go.Proofs.YtclpkipaehpkdaaGreatDoor
open Go.ChangeShapes Go.WideShapes Go.ChangeAt Go.RowKit
theorem row_cell {w : World} {g : Nat} {C : Array Value} {t : TypeId} {fr : Nat × Nat} (h : w.heap[g]? = some (.cells C t fr)) (k : Nat) {v : Value} (hk : C[k]? = some v) : w.cell? ⟨g, k, none⟩ = some v := by
  rw [cell_of_row w g k _ _ _ h]; exact hk
theorem row_melt {w : World} {g : Nat} {C : Array Value} {t : TypeId} (h : w.heap[g]? = some (.cells C t)) (k : Nat) : w.frozen? ⟨g, k, none⟩ = false := by
  unfold World.frozen?
  rw [h]
  simp
theorem row_lt {w : World} {g : Nat} {C : Array Value} {t : TypeId} {fr : Nat × Nat} (h : w.heap[g]? = some (.cells C t fr)) : g < w.heap.size := (Array.getElem?_eq_some_iff.1 h).1
theorem row_below {w w' : World} {g : Nat} {o : Obj} (h : w.heap[g]? = some o) (hb : Below w.heap.size w w') : w'.heap[g]? = some o := by rw [hb.block g (Array.getElem?_eq_some_iff.1 h).1]; exact h
theorem keptT_set {w : World} {c : Nat} {cs : Array Value} {t : TypeId} {fr : Nat × Nat} (h : w.heap[c]? = some (.cells cs t fr)) (o : Nat) (v : Value) : KeptT t w (w.setCell ⟨c, o, none⟩ v) := by
  refine ⟨by unfold World.setCell; simp, fun i cs' t' fr' hi hne => ?_⟩
  have hic : i ≠ c := by
    rintro rfl
    rw [h] at hi
    simp at hi
    exact hne hi.2.1.symm
  unfold World.setCell
  have hne' : ¬ c = i := fun e => hic e.symm
  simp [Array.getElem?_modify, hne', hi]
theorem heap_other {w : World} {g h : Nat} {ob : Obj} (hg : w.heap[g]? = some ob) (hne : g ≠ h) (o : Nat) (v : Value) : (w.setCell ⟨h, o, none⟩ v).heap[g]? = some ob := by
  unfold World.setCell
  have hne' : ¬ h = g := fun e => hne e.symm
  simp [Array.getElem?_modify, hne', hg]
end Go.Proofs.YtclpkipaehpkdaaGreatDoor

namespace Go.Proofs.YtclpkipaehpkdaaGreatDoor
open Go.ChangeShapes Go.WideShapes Go.ChangeAt Go.RowKit
structure KS where
  tag : Int
  a : Int
def KS.cells (s : KS) : List Value := [.int .i64 s.tag, .int .i64 s.a]
theorem KS.cells_length (s : KS) : s.cells.length = 2 := rfl
structure KT where
  fr : Int
  tt : Int
  pl : Int
  cl : Int
def KT.cells (t : KT) : List Value := [.int .i64 t.fr, .int .i64 t.tt, .int .i64 t.pl, .int .i64 t.cl]
theorem KT.cells_length (t : KT) : t.cells.length = 4 := rfl
structure KD where
  fl : Int
  nm : Int
  ds : Int
def KD.cells (d : KD) : List Value := [.int .i64 d.fl, .int .i64 d.nm, .int .i64 d.ds]
theorem KD.cells_length (d : KD) : d.cells.length = 3 := rfl
structure KP where
  pl : Int
  la : Option Addr
  ln : Nat
  lc : Nat
  loc : List KS
  sa : Option Addr
  sn : Nat
  sc : Nat
  stk : List KS
def KP.cells (p : KP) : List Value := [.int .i64 p.pl, .slice p.la p.ln p.lc, .slice p.sa p.sn p.sc]
theorem KP.cells_length (p : KP) : p.cells.length = 3 := rfl
structure KP.Rd (p : KP) (w : World) : Prop where
  loc : Ss 2 KS.cells w p.la p.ln p.loc
  stk : Ss 2 KS.cells w p.sa p.sn p.stk
theorem KP.Rd.below {p : KP} {w w' : World} (h : p.Rd w) (hb : Below w.heap.size w w') : p.Rd w' := ⟨h.loc.below hb, h.stk.below hb⟩
structure KM where
  fl : Int
  nm : Int
  ds : Int
  st : Int
  lo : Int
  ca : Option Addr
  cn : Nat
  cc : Nat
  code : List UInt8
  ta : Option Addr
  tn : Nat
  tc : Nat
  traps : List KT
  ma : Option Addr
  mn : Nat
  mc : Nat
  maps : List KP
def KM.cells (m : KM) : List Value := [.int .i64 m.fl, .int .i64 m.nm, .int .i64 m.ds, .int .i64 m.st, .int .i64 m.lo, .slice m.ca m.cn m.cc, .slice m.ta m.tn m.tc, .slice m.ma m.mn m.mc]
theorem KM.cells_length (m : KM) : m.cells.length = 8 := rfl
structure KM.Rd (m : KM) (w : World) : Prop where
  code : Sl encB w m.ca m.cn m.code
  cle : m.cn ≤ m.cc
  traps : Ss 4 KT.cells w m.ta m.tn m.traps
  maps : Ss 3 KP.cells w m.ma m.mn m.maps
  each : ∀ p ∈ m.maps, p.Rd w
theorem KM.Rd.below {m : KM} {w w' : World} (h : m.Rd w) (hb : Below w.heap.size w w') : m.Rd w' := ⟨h.code.below hb, h.cle, h.traps.below hb, h.maps.below hb, fun p hp => (h.each p hp).below hb⟩
structure KF where
  pa : Option Addr
  pn : Nat
  pc : Nat
  pool : List KV
  th : Int
  su : Int
  fa : Option Addr
  fn : Nat
  fc : Nat
  fields : List KD
  ma : Option Addr
  mn : Nat
  mc : Nat
  methods : List KM
def KF.cells (f : KF) : List Value := [.slice f.pa f.pn f.pc, .int .i64 f.th, .int .i64 f.su, .slice f.fa f.fn f.fc, .slice f.ma f.mn f.mc]
structure KF.Rd (f : KF) (w : World) : Prop where
  pool : Ks w f.pa f.pn f.pool
  fields : Ss 3 KD.cells w f.fa f.fn f.fields
  methods : Ss 8 KM.cells w f.ma f.mn f.methods
  each : ∀ m ∈ f.methods, m.Rd w
theorem KF.Rd.below {f : KF} {w w' : World} (h : f.Rd w) (hb : Below w.heap.size w w') : f.Rd w' := ⟨h.pool.below hb, h.fields.below hb, h.methods.below hb, fun m hm => (h.each m hm).below hb⟩
def isTx (s : List UInt8) (c : KV) : Bool := decide (c.tag = 1 ∧ c.s = s)
def findT (L : List KV) (s : List UInt8) : Nat := (L.findIdx? (isTx s)).getD 0
def clsOk (L : List KV) (i : Int) : Bool := (classAt L i).2
def slotOk (L : List KV) (s : KS) : Bool := if s.tag = 7 then clsOk L s.a else decide (s.tag = 0 ∨ s.tag = 1 ∨ s.tag = 4 ∨ s.tag = 5) && decide (s.a = 0)
def slotsOk (L : List KV) (most : Int) (l : List KS) : Bool := decide ((l.length : Int) ≤ most) && l.all (slotOk L)
def membOk (L : List KV) (fl nm ds : Int) : Bool := decide (fl = 0 ∨ fl = 8) && isT L nm 1 && isT L ds 1
def wideOk (n : Int) : Bool := decide (0 ≤ n ∧ n ≤ 65535)
def trapOk (L : List KV) (t : KT) : Bool := [t.fr, t.tt, t.pl].all wideOk && (decide (t.cl = 0) || clsOk L t.cl)
def mapOk (L : List KV) (p : KP) : Bool := wideOk p.pl && slotsOk L 64 p.loc && slotsOk L 64 p.stk
def sCode : List UInt8 := [67, 111, 100, 101]
def sMap : List UInt8 := [83, 116, 97, 99, 107, 77, 97, 112]
def sizesOk (m : KM) : Bool := decide (0 ≤ m.st ∧ m.st ≤ 64 ∧ 0 ≤ m.lo ∧ m.lo ≤ 64)
def lensOk (m : KM) : Bool := decide (0 < m.code.length ∧ m.code.length ≤ 4096 ∧ m.traps.length ≤ 255 ∧ m.maps.length ≤ 255)
def namesOk (L : List KV) (m : KM) : Bool := decide (0 < findT L sCode ∧ (m.maps.length = 0 ∨ 0 < findT L sMap))
def methOk (L : List KV) (m : KM) : Bool := membOk L m.fl m.nm m.ds && sizesOk m && lensOk m && m.traps.all (trapOk L) && m.maps.all (mapOk L) && namesOk L m
def classOk (f : KF) : Bool := poolOk f.pool && clsOk f.pool f.th && (decide (f.su = 0) || clsOk f.pool f.su) && decide (f.fields.length ≤ 64 ∧ f.methods.length ≤ 64) &&
  f.fields.all (fun d => membOk f.pool d.fl d.nm d.ds) && f.methods.all (methOk f.pool)
theorem all_take {α : Type} (p : α → Bool) (l : List α) (j : Nat) (x : α) (h : l[j]? = some x) : (l.take (j + 1)).all p = ((l.take j).all p && p x) := by
  obtain ⟨hj, he⟩ := List.getElem?_eq_some_iff.1 h
  rw [List.take_succ_eq_append_getElem hj, List.all_append, he]
  simp
theorem Ss.getC {α : Type} {z : Nat} {enc : α → List Value} {w : World} {a : Option Addr} {n : Nat} {xs : List α} (h : Ss z enc w a n xs) (j : Nat) (hj : j < n) : ∃ b off x, a = some ⟨b, off, none⟩ ∧ b < w.heap.size ∧ xs[j]? = some x ∧ ∀ i, i < z → w.cell? ⟨b, off + j * z + i, none⟩ = (enc x)[i]? := by
  obtain ⟨b, off, ha, hlt, hc⟩ := h.2 (by omega)
  have hl : j < xs.length := by rw [h.1]; exact hj
  exact ⟨b, off, xs[j], ha, hlt, List.getElem?_eq_getElem hl, hc j hl⟩
end Go.Proofs.YtclpkipaehpkdaaGreatDoor

namespace Go.Proofs.YtclpkipaehpkdaaGreatDoor
open Go.ChangeShapes Go.WideShapes Go.ChangeAt Go.RowKit
theorem isTx_yes {s : List UInt8} {c : KV} (h : c.tag = 1) : isTx s c = decide (c.s = s) := by unfold isTx; simp [h]
theorem isTx_not {s : List UInt8} {c : KV} (h : c.tag ≠ 1) : isTx s c = false := by unfold isTx; simp [h]
set_option maxRecDepth 100000 in
set_option maxHeartbeats 4000000 in
theorem findc_any (w : World) (c : KV) (s : List UInt8) (g : Nat) (hg : w.heap[g]? = some (.cells #[.string ⟨s.toArray⟩] 9)) :
    Calls Tryz.prog 138 #[kV c, .pointer (some ⟨g, 0, none⟩)] w (BoolRet (isTx s c) w) := by
  obtain ⟨ct, ca, cb, cn, cs⟩ := c
  have lt := row_lt hg
  have q0 := row_cell hg 0 rfl
  have hne : w.heap.size ≠ g := by omega
  have q0' : (w.alloc (.cells #[.int .i64 ct, .int .i64 ca, .int .i64 cb, .int .i64 cn, .string ⟨cs.toArray⟩] 61)).cell? ⟨g, 0, none⟩ = some (.string ⟨s.toArray⟩) := cellS_below (below_1 _ _) q0
  by_cases h : ct = 1
  · subst h
    rw [isTx_yes rfl]
    unfold kV
    clear hg
    go_enter Tryz.func138, Tryz.ntmps138
    go_wp2_with fail
    go_ret
    exact ⟨by show _ = Ending.returned (.bool (decide (cs = s))); congr 2; by_cases h : cs = s <;> simp [h], below_1 _ _⟩
  · rw [isTx_not h]
    unfold kV
    have e1 : (ct == 1) = false := by simp [h]
    clear hg h
    go_enter Tryz.func138, Tryz.ntmps138
    go_wp2_with fail
    go_ret
    exact ⟨rfl, below_1 _ _⟩
def idxT (L : List KV) (s : List UInt8) : Int := match L.findIdx? (isTx s) with | some j => (j : Int) | none => -1
theorem idxT_find (L : List KV) (s : List UInt8) : (findT L s : Int) = max (idxT L s) 0 := by
  unfold findT idxT
  cases L.findIdx? (isTx s) <;> simp <;> omega
theorem idxT_no {L : List KV} {s : List UInt8} (h : ∀ k, k < L.length → isTx s (kAt L k) = false) : idxT L s = -1 := by
  unfold idxT
  rw [List.findIdx?_eq_none_iff.2 (fun x hx => by
    obtain ⟨i, hi, rfl⟩ := List.getElem_of_mem hx
    rw [← kAt_get L i hi]; exact h i hi)]
theorem idxT_at {L : List KV} {s : List UInt8} (j : Nat) (hj : j < L.length) (h : ∀ k, k < j → isTx s (kAt L k) = false) (ht : isTx s (kAt L j) = true) : idxT L s = j := by
  unfold idxT
  rw [List.findIdx?_eq_some_iff_getElem.2 ⟨hj, by rw [← kAt_get L j hj]; exact ht, fun k hk => by rw [← kAt_get L k (by omega), h k hk]; decide⟩]
set_option maxRecDepth 100000 in
set_option maxHeartbeats 4000000 in
theorem index_any (w : World) (a : Option Addr) (n cap : Nat) (L : List KV) (s : List UInt8) (g : Nat) (hs : Ks w a n L) (hn : n ≤ 65536) (hg : w.heap[g]? = some (.cells #[.string ⟨s.toArray⟩] 9)) :
    Calls Tryz.prog 137 #[.slice a n cap, .func (.func 138) #[] #[.pointer (some ⟨g, 0, none⟩)]] w fun e w' => e = .returned (.int .i64 (idxT L s)) ∧ Below w.heap.size w w' := by
  have HS := Lib.hid hs
  have HLn := Lib.hid hs.1
  have HG := Lib.hid hg
  clear hs hg
  go_enter Tryz.func137, Tryz.ntmps137
  go_wp2_with fail
  go_loopg [8] n (fun gn i wr => ∃ j : Nat, j ≤ n ∧ gn = n - j ∧ i = .int .i64 j ∧ Hid (∀ k, k < j → isTx s (kAt L k) = false) ∧ Hid (Below w.heap.size w wr))
  case atStart => exact ⟨0, by omega, by omega, by go_num, Lib.hid (fun k h => by omega), Lib.hid (Below.refl _ _)⟩
  case round =>
    obtain ⟨j, hj, rfl, rfl, HP, HB⟩ := hrel
    by_cases hlt : j < n
    · obtain ⟨b, off, rfl, _, hk⟩ := (HS.out.below HB.out).at j hlt
      obtain ⟨q0, q1, q2, q3, q4⟩ := hk
      have HC := Lib.hid (findc_any wr (kAt L j) s g (row_below HG.out HB.out))
      have HPJ := Lib.hid (idxT_at (L := L) (s := s) j (by rw [HLn.out]; exact hlt) HP.out)
      have HPN := Lib.hid (show isTx s (kAt L j) = false → ∀ k, k < j + 1 → isTx s (kAt L k) = false from fun h k hk => by
        rcases Nat.lt_or_ge k j with hkj | hkj
        · exact HP.out k hkj
        · have : k = j := by omega
          subst this; exact h)
      generalize isTx s (kAt L j) = tx at *
      unfold kV at HC
      generalize (kAt L j).tag = ct at *
      generalize (kAt L j).a = ca at *
      generalize (kAt L j).b = cb at *
      generalize (kAt L j).n = cn at *
      generalize (kAt L j).s = cs at *
      have hj1 : (j : Int) < n := by omega
      go_wp2_with fail
      refine HC.out.mono ?_
      rintro e w1 ⟨rfl, hb⟩
      have HB1 := Lib.hid (HB.out.trans (hb.mono HB.out.size))
      clear hb q0 q1 q2 q3 q4 HC
      cases tx
      · go_wp2_with fail
        go_roundg (n - (j + 1))
        case measure => omega
        case rel => exact ⟨j + 1, by omega, rfl, by go_num, Lib.hid (HPN.out (by simp)), HB1⟩
      · go_wp2_with fail
        go_ret
        exact ⟨by rw [HPJ.out (by simp)]; rfl, HB1.out⟩
    · obtain rfl : j = n := by omega
      have HN := Lib.hid (idxT_no (L := L) (s := s) (by rw [HLn.out]; exact HP.out))
      go_wp2_with fail
      go_ret
      exact ⟨by rw [HN.out]; rfl, HB.out⟩
set_option maxRecDepth 100000 in
set_option maxHeartbeats 4000000 in
theorem find_any (w : World) (a : Option Addr) (n cap : Nat) (L : List KV) (s : List UInt8) (hs : Ks w a n L) (hn : n ≤ 65536) :
    Calls Tryz.prog 92 #[.slice a n cap, .string ⟨s.toArray⟩] w fun e w' => e = .returned (.int .i64 (findT L s)) ∧ Below w.heap.size w w' := by
  have hb1 : Below w.heap.size w (w.alloc (.cells #[.string ⟨s.toArray⟩] 9)) := below_1 _ _
  have HC := Lib.hid (index_any (w.alloc (.cells #[.string ⟨s.toArray⟩] 9)) a n cap L s w.heap.size (hs.below hb1) hn (heap_alloc_last w _))
  have HM := Lib.hid (idxT_find L s)
  have HB := Lib.hid hb1
  clear hs hb1
  go_enter Tryz.func92, Tryz.ntmps92
  go_wp2_with fail
  refine HC.out.mono ?_
  rintro e w1 ⟨rfl, hb⟩
  have HB1 := Lib.hid (HB.out.trans (hb.mono HB.out.size))
  clear hb HC
  generalize idxT L s = r at *
  by_cases hr : r < 0
  · have HR := Lib.hid (show (findT L s : Int) = 0 by have := HM.out; omega)
    go_wp2_with fail
    go_ret
    exact ⟨by first | (rw [HR.out]; rfl) | (rw [HM.out]; rfl), HB1.out⟩
  · have HR := Lib.hid (show (findT L s : Int) = r by have := HM.out; omega)
    go_wp2_with fail
    go_ret
    exact ⟨by first | (rw [HR.out]; rfl) | (rw [HM.out]; rfl), HB1.out⟩
end Go.Proofs.YtclpkipaehpkdaaGreatDoor

