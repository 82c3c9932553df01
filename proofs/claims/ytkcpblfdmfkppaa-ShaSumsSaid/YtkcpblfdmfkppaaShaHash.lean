/- sha: a Hash in memory: New, Write. No condition. -/
import Derived.Test.YtkcpblfdmfkppaaShaAdd
import Derived.Test.YtkcpblfdmfkppaaSs2
import Derived.Test.YtkcpblfdmfkppaaLib3
import Derived.Test.YtkcpblfdmfkppaaRegionE
namespace Go.Proofs.Ytkcpblfdmfkppaa
open Go.ChangeShapes Go.WideShapes Go.ChangeAt Go.RowKit
/-- A Hash in memory. -/
def HBlk (w : World) (g : Nat) (v : V8) (s : Value) (z : Nat) : Prop := SBlk w g v [s, .int .u64 z] 47
theorem HBlk.c8 {w : World} {g : Nat} {v : V8} {s : Value} {z : Nat} (h : HBlk w g v s z) : w.cell? ⟨g, 8, none⟩ = some s := by rw [cell_of_row w g 8 _ _ _ h]; rfl
theorem HBlk.c9 {w : World} {g : Nat} {v : V8} {s : Value} {z : Nat} (h : HBlk w g v s z) : w.cell? ⟨g, 9, none⟩ = some (.int .u64 z) := by rw [cell_of_row w g 9 _ _ _ h]; rfl
theorem HBlk.frz {w : World} {g : Nat} {v : V8} {s : Value} {z : Nat} (h : HBlk w g v s z) (i : Nat) : w.frozen? ⟨g, i, none⟩ = false := (show SBlk _ _ _ _ _ from h).box.2.1 i
theorem HBlk.lt {w : World} {g : Nat} {v : V8} {s : Value} {z : Nat} (h : HBlk w g v s z) : g < w.heap.size := (show SBlk _ _ _ _ _ from h).box.2.2
theorem HBlk.set8 {w : World} {g : Nat} {v : V8} {s : Value} {z : Nat} (h : HBlk w g v s z) (s' : Value) : HBlk (w.setCell ⟨g, 8, none⟩ s') g v s' z := by
  unfold HBlk SBlk at h ⊢
  unfold World.setCell
  simp only [Array.getElem?_modify, h, Option.map_some, if_true]
  congr 2
theorem HBlk.set9 {w : World} {g : Nat} {v : V8} {s : Value} {z : Nat} (h : HBlk w g v s z) (z' : Nat) : HBlk (w.setCell ⟨g, 9, none⟩ (.int .u64 z')) g v s z' := by
  unfold HBlk SBlk at h ⊢
  unfold World.setCell
  simp only [Array.getElem?_modify, h, Option.map_some, if_true]
  congr 2
/-- Bytes don't lie in a Hash. -/
theorem HBlk.apart {w : World} {g : Nat} {v : V8} {a : Option Addr} {m c z : Nat} (h : HBlk w g v (.slice a m c) z) {x : Option Addr} {n : Nat} {xs : List UInt8} (hs : Sl encB w x n xs) : 0 < n → ∀ b o, x = some ⟨b, o, none⟩ → b ≠ g := by
  intro hn b o hx hb
  subst hb
  obtain ⟨b', off, hx', hlt, hc⟩ := hs.2 hn
  rw [hx] at hx'
  cases hx'
  have h0 := hc 0 (by rw [hs.1]; exact hn)
  rw [Nat.add_zero, cell_of_row w b o _ _ _ h, List.getElem?_toArray] at h0
  unfold V8.cells encW encB at h0
  rcases Nat.lt_or_ge o 10 with ho | ho
  · have : o = 0 ∨ o = 1 ∨ o = 2 ∨ o = 3 ∨ o = 4 ∨ o = 5 ∨ o = 6 ∨ o = 7 ∨ o = 8 ∨ o = 9 := by omega
    rcases this with rfl | rfl | rfl | rfl | rfl | rfl | rfl | rfl | rfl | rfl <;> simp at h0
  · rw [List.getElem?_eq_none (by simp; omega)] at h0
    cases h0
theorem Sl.grown {α : Type} {enc : α → Value} {w w' : World} {g n : Nat} {x : Option Addr} {xs : List α} (h : Sl enc w x n xs) (hne : 0 < n → ∀ b o, x = some ⟨b, o, none⟩ → b ≠ g) (hg : w.grownBy w' (some g)) : Sl enc w' x n xs := by
  refine ⟨h.1, fun hn => ?_⟩
  obtain ⟨b, off, hx, hlt, hc⟩ := h.2 hn
  have hb := hne hn b off hx
  have he := hg.block b hlt (fun e => hb (by cases e; rfl))
  refine ⟨b, off, hx, Nat.lt_of_lt_of_le hlt hg.size, fun i hi => ?_⟩
  rw [← hc i hi]
  unfold World.cell?
  rw [he]
theorem grown_trans {w w1 w2 : World} {g : Nat} (h1 : w.grownBy w1 (some g)) (h2 : w1.grownBy w2 (some g)) : w.grownBy w2 (some g) :=
  ⟨h2.os.trans h1.os, h2.tape.trans h1.tape, h2.output.trans h1.output, Nat.le_trans h1.size h2.size, fun k hk hne => (h2.block k (Nat.lt_of_lt_of_le hk h1.size) hne).trans (h1.block k hk hne)⟩
/-- Where the rest lies behind a write. -/
def RestAt (B : Nat) (a a' : Option Addr) : Prop := a' = a ∨ ∃ r o, a' = some ⟨r, o, none⟩ ∧ B ≤ r
def RestN (n B : Nat) (a a' : Option Addr) : Prop := (n = 0 ∧ a' = a) ∨ ∃ r o, a' = some ⟨r, o, none⟩ ∧ B ≤ r
/-- A Hash that has taken bytes. -/
structure HashA (w : World) (g : Nat) (a : Option Addr) (c : Nat) (bs : List UInt8) : Prop where
  blk : HBlk w g (blkV startV bs (bs.length / 64)) (.slice a (bs.length % 64) c) bs.length
  sl : Sl encB w a (bs.length % 64) (bs.drop (64 * (bs.length / 64)))
  cap : bs.length % 64 ≤ c
/-- append onto a slice that is cut to its length. -/
theorem run_app_cut (w : World) (ty : TypeId) {a : Option Addr} {m : Nat} {rs : List UInt8} (hsl : Sl encB w a m rs) {x : Option Addr} {n cx : Nat} {xs : List UInt8} (hx : Sl encB w x n xs) (hl : m + n ≤ 2199023255552) :
    ∃ a' c' w', (Builtin.append_ #[22, 22] ty #[.slice a m m, .slice x n cx]).run Try.prog w = .ok (.slice a' (m + n) c') w' ∧ Sl encB w' a' (m + n) (rs ++ xs) ∧ m + n ≤ c' ∧ Below w.heap.size w w' ∧ RestN n w.heap.size a a' := by
  have hs := hx.src (P := Try.prog) encB_cell Try.underlying22 cx
  by_cases hn : n = 0
  · subst hn
    have hxs : xs = [] := List.eq_nil_of_length_eq_zero hx.1
    subst hxs
    refine ⟨a, m, w, ?_, by simpa using hsl, Nat.le_refl _, Below.refl _ _, .inl ⟨rfl, rfl⟩⟩
    obtain ⟨ht, hinf, hz⟩ := oneN
    obtain ⟨i, hi, hz0, hz1, hz2⟩ := info_parts hinf
    rw [← hz1] at hs
    have hc := hs.cells
    cases a <;> rcases hs.kind with ⟨e', hk⟩ | hk <;> simp [Builtin.append_, run_underlying ht, run_underlying hk, sizeOf, typeInfo, hi, hs.len, hc, storeCells]
  · obtain ⟨v', w', hr, ho, hb⟩ := run_append_full oneN (enc := encB) w.heap.size 22 ty hsl (.slice x n cx) n (xs.map encB) hs (by omega) (Nat.le_refl _) (by omega) (by unfold maxLen; omega) (Nat.le_refl _)
    rw [← List.map_append] at ho
    obtain ⟨a', c', rfl, h1, h2⟩ := Sl.ofOwn ho
    obtain ⟨r, ha, hr1, hr2⟩ := own_addr ho (by omega)
    exact ⟨a', c', w', hr, h1, h2, hb, .inr ⟨r, 0, ha, hr1⟩⟩
theorem wp_app_cut {w : World} {o : Oper} {ac : Act} {K : Act → World → Prop} {Q : Exit → Act → World → Prop} (s y : Operand)
    (ho : o.op = .call { callee := .builtin .append, args := #[s, y], argTypes := #[22, 22] })
    {a : Option Addr} {m : Nat} {rs : List UInt8} (hv : ac.eval s = .slice a m m) (hsl : Sl encB w a m rs) {x : Option Addr} {n cx : Nat} {xs : List UInt8} (hy : ac.eval y = .slice x n cx) (hx : Sl encB w x n xs) (hl : m + n ≤ 2199023255552)
    (h : ∀ a' c' w', Sl encB w' a' (m + n) (rs ++ xs) → m + n ≤ c' → Below w.heap.size w w' → RestN n w.heap.size a a' → K (ac.put o.dst (.slice a' (m + n) c')) w') : Oper.wp Try.prog o ac w K Q := by
  obtain ⟨a', c', w', hr, h1, h2, h3, h4⟩ := run_app_cut w o.type hsl (cx := cx) hx hl
  unfold Oper.wp execOp
  simp only [ho, resolve, invoke, builtin, Sem.run_bind, Sem.run_pure, Result.andThen_ok, List.map_toArray, List.map_cons, List.map_nil, hv, hy, hr]
  exact h a' c' w' h1 h2 h3 h4
/-- The rest can be read. -/
def HS8 (g : Nat) (s : Value) (y : World) : Prop := y.cell? ⟨g, 8, none⟩ = some s
theorem info_state : (Try.prog.info? 45).map (·.size) = some 8 := by kernel_rfl
set_option maxHeartbeats 4000000 in
set_option maxRecDepth 100000 in
theorem New_any (w : World) : Calls Try.prog 9 #[] w fun e w' => e = .returned (.pointer (some ⟨w.heap.size, 0, none⟩)) ∧ HashA w' w.heap.size none 0 [] ∧ Below w.heap.size w w' := by
  go_enter Try.func9, Try.ntmps9
  go_wp2_with fail
  go_ret
  refine ⟨rfl, ⟨?_, Sl.nil _ _, Nat.le_refl _⟩, (Below.refl _ _).alloc (Nat.le_refl _) _⟩
  exact heap_alloc_last w _
set_option maxHeartbeats 4000000 in
set_option maxRecDepth 100000 in
theorem Write_any (w : World) (g : Nat) (a : Option Addr) (c : Nat) (bs : List UInt8) (hh : HashA w g a c bs) (x : Option Addr) (n cx : Nat) (xs : List UInt8) (hx : Sl encB w x n xs) (hcx : n ≤ cx) (hl : bs.length + n ≤ 1099511627776) :
    Calls Try.prog 10 #[.pointer (some ⟨g, 0, none⟩), .slice x n cx] w fun e w' => e = .returned (.tuple #[]) ∧ ∃ a' c', HashA w' g a' c' (bs ++ xs) ∧ w.grownBy w' (some g) ∧ RestN n w.heap.size a a' := by
  have HH := Lib.hid hh
  have HX := Lib.hid hx
  clear hh hx
  obtain ⟨L, hL⟩ : ∃ L, L = bs.length := ⟨_, rfl⟩
  obtain ⟨m, hm⟩ : ∃ m, m = L % 64 := ⟨_, rfl⟩
  have hm2 : m < 64 := by omega
  have hc : m ≤ c := by rw [hm, hL]; exact HH.out.cap
  obtain ⟨v, hv⟩ : ∃ v, v = blkV startV bs (bs.length / 64) := ⟨_, rfl⟩
  have hb := HH.out.blk
  have hsl := HH.out.sl
  rw [← hv, ← hL, ← hm] at hb
  rw [← hL, ← hm] at hsl
  rw [← hL] at hl
  have HL := Lib.hid hL
  have HM := Lib.hid hm
  have HV := Lib.hid hv
  have HBK := Lib.hid hb
  have HSL := Lib.hid hsl
  have c9 := hb.c9
  have f9 := hb.frz 9
  have hn1 : n ≤ 1099511627776 := by omega
  clear hL hm hv hb hsl
  go_enter Try.func10, Try.ntmps10
  go_upto_region 2 with fail
  have hb1 : HBlk (w.setCell ⟨g, 9, none⟩ (.int .u64 ((L : Int) + n))) g v (.slice a m c) (L + n) := by
    have h := HBK.out.set9 (L + n)
    rwa [show ((L + n : Nat) : Int) = (L : Int) + n by omega] at h
  have hg1 : w.grownBy (w.setCell ⟨g, 9, none⟩ (.int .u64 ((L : Int) + n))) (some g) := grown_set (World.grownBy.refl _ _)
  have hs1 := HSL.out.grown (HBK.out.apart HSL.out) hg1
  have hx1 := HX.out.grown (HBK.out.apart HX.out) hg1
  generalize w.setCell ⟨g, 9, none⟩ (.int .u64 ((L : Int) + n)) = w1 at *
  have HB1 := Lib.hid (show HBlk w1.drew g v (.slice a m c) (L + n) from hb1)
  have HG1 := Lib.hid (grown_drew hg1)
  have HS1 := Lib.hid (hs1.below (Below.refl _ _).drew)
  have HX1 := Lib.hid (hx1.below (Below.refl _ _).drew)
  clear hb1 hg1 hs1 hx1 c9 f9
  have l8 := fun y (h : HS8 g (.slice a m c) y) => (show y.cell? ⟨g, 8, none⟩ = some (.slice a m c) from h)
  have hSw : HS8 g (.slice a m c) w1.drew := HB1.out.c8
  have hmc : (m : Int) ≤ c := by omega
  refine wp_region_lexE (HS8 g (.slice a m c)) 20 [(0, true), (1, true), (2, true), (3, true), (4, true), (5, true), (6, true), (7, true), (8, true), (9, true), (10, true), (11, true), (12, true), (13, true), (14, true), (15, true), (16, true), (17, false), (18, true), (19, true)] (by kernel_rfl) (by kernel_rfl) (fun c a d v w h => by cases d <;> exact h) ?_
  generalize w1.drew = w2 at *
  iterate 17
    refine lexE_step (fun K hK => ?_)
    simp only [lexOp, List.getElem?_toArray, List.getElem?_cons_succ, List.getElem?_cons_zero]
    rw [if_pos (by rfl)]
    apply Exists.intro
    refine ⟨fun w' hS' => ?_, hSw, ?_⟩
    · first | (go_simp <;> with_reducible rfl) | (go_simp; go_bits; with_reducible rfl)
    go_simp
    try go_bits
    refine hK _ _ ?_
    clear hK K
  refine lexE_step (fun K hK => ?_)
  simp only [lexOp, List.getElem?_toArray, List.getElem?_cons_succ, List.getElem?_cons_zero]
  rw [if_pos (by rfl)]
  change Oper.wp _ _ _ _ _ _
  refine wp_app_cut _ _ rfl rfl HS1.out rfl HX1.out (by omega) ?_
  intro a2 c2 w3 hs3 hc3 hb3 hr3
  have HB3 := Lib.hid (show HBlk w3 g v (.slice a m c) (L + n) from SBlk.below HB1.out hb3)
  replace hSw : HS8 g (.slice a m c) w3 := HB3.out.c8
  refine ⟨hSw, hK _ _ ?_⟩
  clear hK K
  iterate 2
    refine lexE_step (fun K hK => ?_)
    simp only [lexOp, List.getElem?_toArray, List.getElem?_cons_succ, List.getElem?_cons_zero]
    rw [if_pos (by rfl)]
    apply Exists.intro
    refine ⟨fun w' hS' => ?_, hSw, ?_⟩
    · first | (go_simp <;> with_reducible rfl) | (go_simp; go_bits; with_reducible rfl)
    go_simp
    try go_bits
    refine hK _ _ ?_
    clear hK K
  have c8 := HB3.out.c8
  have f8 := HB3.out.frz 8
  refine lexE_last ?_
  simp only [lastOp, List.getElem?_toArray, List.getElem?_cons_succ, List.getElem?_cons_zero]
  rw [if_pos (by rfl)]
  go_step
  have hs4 := hs3.grown (HB3.out.apart hs3) (grown_set (o := 8) (v := .slice a2 (m + n) c2) (World.grownBy.refl w3 (some g)))
  have HB4 := Lib.hid (HB3.out.set8 (.slice a2 (m + n) c2))
  have HG4 := Lib.hid (grown_set (o := 8) (v := .slice a2 (m + n) c2) (grown_trans HG1.out (grown_below (g := g) hb3)))
  have HS4 := Lib.hid hs4
  have hr4 : RestN n w.heap.size a a2 := hr3.imp id (fun ⟨r, o, h1, h2⟩ => ⟨r, o, h1, Nat.le_trans HG1.out.size h2⟩)
  have HR4 := Lib.hid hr4
  clear hs3 hb3 hr3 hs4 hr4 HB1 HG1 HS1 HX1 HB3 c8 f8 l8 hSw
  generalize w3.setCell ⟨g, 8, none⟩ (.slice a2 (m + n) c2) = w4 at *
  obtain ⟨q, hq⟩ : ∃ q, q = L / 64 := ⟨_, rfl⟩
  obtain ⟨T, hT⟩ : ∃ T, T = bs ++ xs := ⟨_, rfl⟩
  have hTl : T.length = L + n := by rw [hT, List.length_append, ← HL.out, HX.out.1]
  have hv2 : v = blkV startV T q := by
    rw [HV.out, hT, ← HL.out, ← hq, blkV_front _ _ _ _ (by rw [← HL.out]; omega)]
  have hd2 : bs.drop (64 * (L / 64)) ++ xs = T.drop (64 * q) := by
    rw [hT, ← hq, List.drop_append_of_le_length (by rw [← HL.out]; omega)]
  rw [hd2] at HS4
  rw [hv2] at HB4
  have HTL := Lib.hid hTl
  have HT := Lib.hid hT
  have HQ := Lib.hid (show L = 64 * q + m by have := HM.out; omega)
  clear hq hT hTl hv2 hd2 HBK HSL HV HX HH
  go_wp2_with fail
  go_loopg [40] ((m + n) / 64) (fun gn _ wr => ∃ j k a3 c3, k + 64 * j = m + n ∧ k ≤ c3 ∧ gn = (m + n) / 64 - j ∧ Hid (HBlk wr g (blkV startV T (q + j)) (.slice a3 k c3) (L + n)) ∧ Hid (Sl encB wr a3 k (T.drop (64 * (q + j)))) ∧ Hid (w.grownBy wr (some g)) ∧ Hid (RestN n w.heap.size a a3))
  case atStart => exact ⟨0, m + n, a2, c2, by omega, hc3, by omega, HB4, HS4, HG4, HR4⟩
  case round =>
    clear HB4 HS4 HG4 HR4 hc3
    obtain ⟨j, k, a3, c3, hk, hkc, rfl, HB, HS, HG, HR⟩ := hrel
    have c8 := HB.out.c8
    by_cases h64 : 64 ≤ k
    · have h64' : (64 : Int) ≤ k := by omega
      go_upto_region 4 with fail
      have hSw : HS8 g (.slice a3 k c3) wr.drew := HB.out.c8
      have l8 := fun y (h : HS8 g (.slice a3 k c3) y) => (show y.cell? ⟨g, 8, none⟩ = some (.slice a3 k c3) from h)
      have hc64 : (64 : Int) ≤ c3 := by omega
      refine wp_region_lexS (HS8 g (.slice a3 k c3)) (.of [(0, true), (1, true), (2, true), (3, true), (4, true), (5, true), (6, true), (7, true), (8, false)] (.stir [])) (by kernel_rfl) (by kernel_rfl) (fun c a d v w h => by cases d <;> exact h) ?_
      iterate 8
        refine lexS_step (fun K hK => ?_)
        simp only [lexOp, List.getElem?_toArray, List.getElem?_cons_succ, List.getElem?_cons_zero]
        rw [if_pos (by rfl)]
        apply Exists.intro
        refine ⟨fun w' hS' => ?_, hSw, ?_⟩
        · first | (go_simp <;> with_reducible rfl) | (go_simp; go_bits; with_reducible rfl)
        go_simp
        try go_bits
        refine hK _ _ ?_
        clear hK K
      refine lexS_step (fun K hK => ?_)
      simp only [lexOp, List.getElem?_toArray, List.getElem?_cons_succ, List.getElem?_cons_zero]
      rw [if_pos (by rfl)]
      go_step
      refine (add_any wr.drew g _ _ _ a3 c3 ((T.drop (64 * (q + j))).take 64) HB.out ((HS.out.take h64).below (Below.refl _ _).drew) (by omega)).mono ?_
      rintro e w5 ⟨rfl, hb5, hg5⟩
      have HB5 := Lib.hid (show HBlk w5 g (blkV startV T (q + (j + 1))) (.slice a3 k c3) (L + n) from hb5)
      have HS5 := Lib.hid ((HS.out.below (Below.refl _ _).drew).grown (HB.out.apart HS.out) hg5)
      have HG5 := Lib.hid (grown_trans (grown_drew HG.out) hg5)
      replace hSw : HS8 g (.slice a3 k c3) w5 := HB5.out.c8
      refine ⟨hSw, ?_⟩
      go_simp
      refine hK _ _ ?_
      clear hK K hb5 hg5 hSw l8
      refine lexS_stir (fun y => y = w5) (fun y hy => hy ▸ HB5.out.c8) rfl ?_
      refine stir_nil (fun y hy => ?_)
      obtain rfl : w5 = y := hy.symm
      have c8' := HB5.out.c8
      have f8 := HB5.out.frz 8
      obtain ⟨b, off, rfl, hbl, hcells⟩ := HS5.out.2 (by omega)
      clear hbl hcells
      have HRn : Hid (w.heap.size ≤ b) := by
        rcases HR.out with ⟨h0, _⟩ | ⟨r, o, h1, h2⟩
        · omega
        · cases h1
          exact h2
      have hTl := HTL.out
      have hLq := HQ.out
      have hdd : (T.drop (64 * (q + j))).drop 64 = T.drop (64 * (q + (j + 1))) := by rw [List.drop_drop]; congr 1
      have HE : k = 64 → Hid (∀ w' : World, ∀ x : Option Addr, Sl encB w' x 0 (T.drop (64 * (q + (j + 1))))) := fun hk64 => Lib.hid (fun w' x => ⟨by rw [List.length_drop]; omega, fun h => by omega⟩)
      have HDD := Lib.hid hdd
      clear hTl hLq hdd HR
      by_cases hc65 : c3 = 64
      · subst hc65
        obtain rfl : k = 64 := by omega
        have HE2 := HE rfl
        go_wp2_with fail
        have v1 := HB5.out.set8 (.slice (some ⟨b, off, none⟩) 0 0)
        have v2 := grown_set (o := 8) (v := .slice (some ⟨b, off, none⟩) 0 0) HG5.out
        generalize w5.setCell ⟨g, 8, none⟩ (.slice (some ⟨b, off, none⟩) 0 0) = w6 at *
        go_roundg ((m + n) / 64 - (j + 1))
        case measure => omega
        case rel => exact ⟨j + 1, 0, _, 0, by omega, Nat.le_refl _, rfl, Lib.hid v1, Lib.hid (HE2.out _ _), Lib.hid v2, Lib.hid (.inr ⟨b, off, rfl, HRn.out⟩)⟩
      · go_wp2_with fail
        have v1 := HB5.out.set8 (.slice (some ⟨b, off + 64, none⟩) (k - 64) (c3 - 64))
        have v2 := grown_set (o := 8) (v := .slice (some ⟨b, off + 64, none⟩) (k - 64) (c3 - 64)) HG5.out
        have v3 : Sl encB (w5.setCell ⟨g, 8, none⟩ (.slice (some ⟨b, off + 64, none⟩) (k - 64) (c3 - 64))) (some ⟨b, off + 64, none⟩) (k - 64) (T.drop (64 * (q + (j + 1)))) := by
          by_cases hk64 : k = 64
          · have h := (HE hk64).out (w5.setCell ⟨g, 8, none⟩ (.slice (some ⟨b, off + 64, none⟩) (k - 64) (c3 - 64))) (some ⟨b, off + 64, none⟩)
            have e : k - 64 = 0 := by omega
            rw [e] at h ⊢
            exact h
          · have h := HS5.out.grown (HB5.out.apart HS5.out) (grown_set (o := 8) (v := .slice (some ⟨b, off + 64, none⟩) (k - 64) (c3 - 64)) (World.grownBy.refl w5 (some g)))
            obtain ⟨b', off', he, h2⟩ := h.drop (j := 64) (by omega)
            cases he
            rw [HDD.out] at h2
            exact h2
        generalize w5.setCell ⟨g, 8, none⟩ (.slice (some ⟨b, off + 64, none⟩) (k - 64) (c3 - 64)) = w6 at *
        clear HE
        go_roundg ((m + n) / 64 - (j + 1))
        case measure => omega
        case rel => exact ⟨j + 1, k - 64, _, c3 - 64, by omega, by omega, rfl, Lib.hid v1, Lib.hid v3, Lib.hid v2, Lib.hid (.inr ⟨b, off + 64, rfl, HRn.out⟩)⟩
    · have h64' : (k : Int) < 64 := by omega
      go_wp2_with fail
      go_end0
      have hL := HQ.out
      have hLn : (L + n) / 64 = q + j := by omega
      have hmod : (L + n) % 64 = k := by omega
      have hTl := HTL.out
      refine ⟨rfl, a3, c3, ⟨?_, ?_, ?_⟩, HG.out, HR.out⟩
      · rw [← HT.out, hTl, hLn, hmod]
        exact HB.out
      · rw [← HT.out, hTl, hLn, hmod]
        exact HS.out
      · rw [← HT.out, hTl, hmod]
        exact hkc
end Go.Proofs.Ytkcpblfdmfkppaa
