/- asm: own texts, merged (wip/merge2.py). No condition. -/
import Derived.Test.YtclpkipaehpkdaaGreatDoorQ15AsmNames
import Derived.Test.YtclpkipaehpkdaaGreatDoorQ16AsmNames
set_option linter.unusedVariables false
set_option linter.unusedSimpArgs false
namespace Go.Proofs.YtclpkipaehpkdaaGreatDoor
open Go.ChangeShapes Go.WideShapes Go.ChangeAt Go.RowKit Go.Maps
theorem stCon : StE 22 ConT (.agg #[.int .i64 0, .int .i64 0, .int .i64 0, .int .i64 0, .string ⟨#[]⟩]) 5 48 := ⟨by kernel_rfl, by kernel_rfl, rfl⟩
set_option maxRecDepth 100000 in
set_option maxHeartbeats 4000000 in
theorem alneed_any (w : World) (B g : Nat) (s : LW) (ok : Bool) (k : Int) (h : LoS w B g s) :
    Calls Tryz.prog 33 #[.pointer (some ⟨g, 0, none⟩), .bool ok, .int .i64 k] w (LoRet (.tuple #[]) B g (s.need ok k) w) := by
  obtain ⟨a, cap, b, hx⟩ := h
  have H := Lib.hid hx
  obtain ⟨c0, c1, c2, f0, f1, f2, lt⟩ := hx.k.box
  have HN : s.need ok k = ⟨s.l, needE s.e ok k⟩ := rfl
  rw [HN]
  clear hx HN
  generalize hE : needE s.e ok k = E
  cases ok
  · by_cases h0 : s.e = 0
    · have e0 : (s.e == 0) = true := by simpa using h0
      have HE := Lib.hid (show E = k by rw [← hE]; unfold needE; rw [if_pos ⟨rfl, h0⟩])
      clear hE h0
      go_enter Tryz.func33, Tryz.ntmps33
      go_wp2_with fail
      go_end0
      rw [HE.out]
      exact ⟨rfl, ⟨a, cap, b, H.out.set2 k⟩, KeepL.set H.out.nk 2 _⟩
    · have e0 : (s.e == 0) = false := by simpa using h0
      have HE : E = s.e := by rw [← hE]; unfold needE; rw [if_neg (fun h => h0 h.2)]
      rw [HE]
      clear HE hE h0
      go_enter Tryz.func33, Tryz.ntmps33
      go_wp2_with fail
      go_end0
      exact ⟨rfl, ⟨a, cap, b, H.out⟩, KeepL.refl _ _⟩
  · have HE : E = s.e := by rw [← hE]; unfold needE; rw [if_neg (fun h => absurd h.1 (by decide))]
    rw [HE]
    clear HE hE
    go_enter Tryz.func33, Tryz.ntmps33
    go_wp2_with fail
    go_end0
    exact ⟨rfl, ⟨a, cap, b, H.out⟩, KeepL.refl _ _⟩
theorem zeroKInt (w : World) : (zeroValue 3).run Tryz.prog w = .ok (.int .i64 0) w := by kernel_rfl
theorem litK_inj {c k : KV} (hc : KOk c) (hk : KOk k) (h : litK c = litK k) : c = k := by
  have e := keyed_con.inj (keyOf_con hc) (by rw [h]; exact keyOf_con hk)
  obtain ⟨a1, a2, a3, a4, a5⟩ := k
  obtain ⟨b1, b2, b3, b4, b5⟩ := c
  simp [KV.cells] at e
  obtain ⟨rfl, rfl, rfl, rfl, rfl⟩ := e
  rfl
theorem MapK.look {w : World} {b : Nat} {L : List KV} (h : MapK w b L) {c : KV} (hc : KOk c) (ht : c.tag ≠ 0) :
    (Instr.lookup MapKT (.map (some b)) (.agg c.cells.toArray) true).run Tryz.prog w = .ok (.tuple #[.int .i64 (((idxK L c).getD 0 : Nat) : Int), .bool (idxK L c).isSome]) w := by
  obtain ⟨D, h, hd⟩ := h
  obtain ⟨v, ps, hrun, hv⟩ := h.look_ok keyed_con Tryz.underlying90 (zeroKInt w) (plainElem_int Tryz.underlying3 (a := 0) (by decide)) (keyOf_con hc)
  obtain ⟨i, rfl, hi, _⟩ := plainElem_int_inv Tryz.underlying3 hv
  simp only [Prod.mk.injEq] at hi
  have hat := hi.1
  rw [hd c hc ht] at hat
  rw [hrun]
  cases hx : idxK L c with
  | none =>
    rw [hx] at hat
    rw [Maps.has_false_of_atKey (fun z => by rw [hd c hc ht, hx])]
    simp at hat
    simp [← hat]
  | some k =>
    rw [hx] at hat
    rw [Maps.has_true_of_atKey (fun z => by rw [hd c hc ht, hx])]
    simp at hat
    simp [← hat]
theorem idxK_snoc {L : List KV} {c k : KV} (hn : idxK L c = none) : idxK (L ++ [c]) k = if eqK c k = true then some L.length else idxK L k := by
  unfold idxK at hn ⊢
  rw [List.findIdx?_append]
  by_cases h : k = c
  · subst h
    have h1 : eqK k k = true := eqK_iff.2 rfl
    rw [hn, if_pos h1]
    simp [List.findIdx?_cons, h1]
  · have h1 : eqK k c = false := by
      rw [Bool.eq_false_iff]
      intro hh
      exact h (eqK_iff.1 hh).symm
    rw [if_neg (fun hh => h (eqK_iff.1 hh))]
    simp [List.findIdx?_cons, h1]
theorem idxK_kz {L : List KV} {k : KV} (ht : k.tag ≠ 0) : idxK (L ++ [kz]) k = idxK L k := by
  unfold idxK
  rw [List.findIdx?_append]
  have : eqK k kz = false := by
    rw [Bool.eq_false_iff]
    intro hh
    rw [← eqK_iff.1 hh] at ht
    exact ht rfl
  simp [List.findIdx?_cons, this]
theorem MapK.kz {w : World} {b : Nat} {L : List KV} (h : MapK w b L) : MapK w b (L ++ [kz]) := by
  obtain ⟨D, h, hd⟩ := h
  exact ⟨D, h.mono (by simp), fun c hc ht z => by rw [hd c hc ht z, idxK_kz ht]⟩
theorem MapK.store {w : World} {b : Nat} {L : List KV} (h : MapK w b L) {c : KV} (hc : KOk c) (ht : c.tag ≠ 0) (hn : idxK L c = none) (hl : L.length ≤ 1099511627776) :
    ∃ w', (Instr.mapUpdate MapKT (.map (some b)) (.agg c.cells.toArray) (.int .i64 (L.length : Nat))).run Tryz.prog w = .ok () w' ∧ MapK w' b (L ++ [c]) ∧ w.grownBy w' (some b) := by
  obtain ⟨D, h, hd⟩ := h
  obtain ⟨w', hrun, hown, hturn⟩ := h.store keyed_con Tryz.underlying90 (by unfold maxLen; omega) (val := .int .i64 (L.length : Nat)) (keyOf_con hc) (plainElem_int Tryz.underlying3 (intRo_of (by omega)))
  refine ⟨w', hrun, ⟨_, by simpa using hown, fun k hk hkt z => ?_⟩, hturn.grown⟩
  rw [idxK_snoc hn]
  by_cases e : k = c
  · subst e
    rw [if_pos (eqK_iff.2 rfl), Maps.atKey_put_same h.isMap (by trivial)]
  · rw [if_neg (fun hh => e (eqK_iff.1 hh)), Maps.atKey_put_other (fun hh => e (litK_inj hk hc hh)), hd k hk hkt]
theorem MapK.obj {w : World} {b : Nat} {L : List KV} (h : MapK w b L) : ∃ es cl, w.heap[b]? = some (.map es cl) := by
  obtain ⟨D, ⟨es, cl, hm, _⟩, _⟩ := h
  exact ⟨es, cl, hm⟩
theorem own_map {w w' : World} {B : Nat} {e : TypeId} {size : Nat} {v : Value} {n : Nat} {xs : List Value} {b : Nat} (h : w.ownsRow B e size v n xs) (hb : ∃ es cl, w.heap[b]? = some (.map es cl)) (hg : w.grownBy w' (some b)) : w'.ownsRow B e size v n xs := by
  refine ⟨h.1, ?_⟩
  rcases h.2 with h1 | ⟨g, cap, cur, hv, hB, hc, r⟩
  · exact .inl h1
  · refine .inr ⟨g, cap, cur, hv, hB, ?_, r⟩
    have hne : g ≠ b := by
      rintro rfl
      obtain ⟨es, cl, hm⟩ := hb
      rw [hm] at hc
      cases hc
    rw [hg.block g (row_lt hc) (fun e => hne (by simpa using e))]
    exact hc
theorem own_nk {w : World} {B : Nat} {size : Nat} {v : Value} {n : Nat} {xs : List Value} (h : w.ownsRow B ConT size v n xs) : ∀ k, v.ownBlock = some k → B ≤ k ∧ ¬ keepB w.heap[k]? := by
  intro k hk
  rcases h.2 with ⟨h1, _⟩ | ⟨g, cap, cur, hv, hB, hc, r⟩
  · rw [h1] at hk; cases hk
  · rw [hv] at hk
    simp [Value.ownBlock] at hk
    subst hk
    exact ⟨hB, by rw [hc]; exact fun hh => hh.1 rfl⟩
theorem own_no {w : World} {B : Nat} {e : TypeId} {size : Nat} {v : Value} {n : Nat} {xs : List Value} {b : Nat} (h : w.ownsRow B e size v n xs) (hb : ∃ es cl, w.heap[b]? = some (.map es cl)) : some b ≠ v.ownBlock := by
  intro hk
  rcases h.2 with ⟨h1, _⟩ | ⟨g, cap, cur, hv, hB, hc, r⟩
  · rw [h1] at hk; cases hk
  · rw [hv] at hk
    simp [Value.ownBlock] at hk
    subst hk
    obtain ⟨es, cl, hm⟩ := hb
    rw [hm] at hc
    cases hc
structure LoY (w : World) (B g : Nat) (L M : List KV) (er : Int) (a : Option Addr) (cap b : Nat) : Prop where
  k : Blk3 w g (.slice a L.length cap) (.map (some b)) (.int .i64 er) LowT
  o : w.ownsRow B ConT 5 (.slice a L.length cap) L.length (L.flatMap KV.cells)
  m : MapK w b M
  bB : B ≤ b
  gB : B ≤ g
  B0 : 0 < B
  vw : VW w
theorem LoY.x {w : World} {B g : Nat} {L : List KV} {er : Int} {a : Option Addr} {cap b : Nat} (h : LoY w B g L L er a cap b) : LoX w B g ⟨L, er⟩ a cap b := ⟨h.k, h.o, h.m, h.bB, h.gB, h.B0, h.vw⟩
theorem LoX.y {w : World} {B g : Nat} {s : LW} {a : Option Addr} {cap b : Nat} (h : LoX w B g s a cap b) : LoY w B g s.l s.l s.e a cap b := ⟨h.k, h.o, h.m, h.bB, h.gB, h.B0, h.vw⟩
theorem LoY.below {w w' : World} {B g : Nat} {L M : List KV} {er : Int} {a : Option Addr} {cap b : Nat} (h : LoY w B g L M er a cap b) (hb : Below w.heap.size w w') : LoY w' B g L M er a cap b :=
  ⟨h.k.below hb, own_below h.o hb, h.m.below hb, h.bB, h.gB, h.B0, h.vw.below hb⟩
theorem LoY.kz {w : World} {B g : Nat} {L M : List KV} {er : Int} {a : Option Addr} {cap b : Nat} (h : LoY w B g L M er a cap b) : LoY w B g L (M ++ [Go.Proofs.YtclpkipaehpkdaaGreatDoor.kz]) er a cap b := ⟨h.k, h.o, h.m.kz, h.bB, h.gB, h.B0, h.vw⟩
theorem LoY.app {w w9 : World} {B g : Nat} {L M : List KV} {er : Int} {a : Option Addr} {cap b : Nat} {o : Obj} {c : KV} {a9 : Option Addr} {c9 : Nat} (h : LoY w B g L M er a cap b)
    (hg : (w.alloc o).grownBy w9 (Value.slice a L.length cap).ownBlock) (ho : w9.ownsRow B ConT 5 (.slice a9 (L.length + 1) c9) (L.length + 1) ((L ++ [c]).flatMap KV.cells)) :
    LoY (w9.setCell ⟨g, 0, none⟩ (.slice a9 (L.length + 1) c9)) B g (L ++ [c]) M er a9 c9 b ∧ KeepL B w (w9.setCell ⟨g, 0, none⟩ (.slice a9 (L.length + 1) c9)) ∧ w9.heap[g]? = some (.cells #[.slice a L.length cap, .map (some b), .int .i64 er] LowT) := by
  have hal := below_1 w o
  have hya := h.below hal
  have hkt := KeptT.app h.o hg
  have hk9 : w9.heap[g]? = some (.cells #[.slice a L.length cap, .map (some b), .int .i64 er] LowT) := hkt.2 _ _ _ _ h.k (by decide)
  have hm9 : MapK w9 b M := hya.m.kept hg (own_no hya.o hya.m.obj)
  have hke : KeepL B w w9 := (KeepL.of hal).trans (KeepL.grown hg (fun k hk _ => own_nk hya.o k hk))
  have hnk : B ≤ g ∧ ¬ keepB w9.heap[g]? := ⟨h.gB, by rw [hk9]; exact fun hh => hh.2 rfl⟩
  have hbg : b ≠ g := by
    rintro rfl
    obtain ⟨es, cl, hm⟩ := hm9.obj
    rw [hm] at hk9
    cases hk9
  have hkk := hke.trans (KeepL.set hnk 0 (.slice a9 (L.length + 1) c9))
  refine ⟨⟨?_, ?_, hm9.setCell hbg _, h.bB, h.gB, h.B0, hkk.vw h.vw h.B0⟩, hkk, hk9⟩
  · rw [List.length_append, List.length_singleton]
    exact heap_set3 hk9 0 _
  · rw [List.length_append, List.length_singleton]
    exact own_keptT ho (keptT_set hk9 0 _) (by decide)
end Go.Proofs.YtclpkipaehpkdaaGreatDoor

namespace Go.Proofs.YtclpkipaehpkdaaGreatDoor
open Go.ChangeShapes Go.WideShapes Go.ChangeAt Go.RowKit Go.Maps
def SQ (g gx o : Nat) (c : KV) (v : Value) (z : World) : Prop := z.heap[gx]? = some (.cells c.cells.toArray ConT (0, 0)) ∧ z.cell? ⟨g, o, none⟩ = some v
set_option maxRecDepth 100000 in
set_option maxHeartbeats 8000000 in
theorem alput_any (w : World) (B g : Nat) (s : LW) (c : KV) (h : LoS w B g s) (hc : KOk c) (ht : c.tag ≠ 0) (hn : s.l.length ≤ 1099511627776) (hB : B ≤ w.heap.size) :
    Calls Tryz.prog 72 #[.pointer (some ⟨g, 0, none⟩), .agg c.cells.toArray] w (LoRet (.int .i64 ((s.put c).2 : Nat)) B g (s.put c).1 w) := by
  obtain ⟨a, cap, b, hx⟩ := h
  have HX := Lib.hid hx
  have HCK := Lib.hid hc
  have HTG := Lib.hid ht
  obtain ⟨L, er⟩ := s
  dsimp only at hn
  have hb1 : Below w.heap.size w (w.alloc (.cells c.cells.toArray ConT)) := below_1 _ _
  have HB1 := Lib.hid hb1
  have HBX0 := Lib.hid (heap_alloc_last w (.cells c.cells.toArray ConT))
  have HX1 := Lib.hid (hx.below hb1)
  have hgw : g < w.heap.size := hx.lt
  have hbw : b < w.heap.size := hx.m.lt
  obtain ⟨C, hC⟩ : ∃ C, C = c := ⟨_, rfl⟩
  have HCC := Lib.hid hC
  rw [← hC] at HBX0 HX1 HB1 ⊢
  subst hC
  clear hx hc ht hb1
  obtain ⟨ct, ca, cb, cn, cs⟩ := C
  dsimp only [KV.cells] at HBX0 HX1 HB1 ⊢
  obtain ⟨R, hR⟩ : ∃ R, R = (⟨L, er⟩ : LW).put ⟨ct, ca, cb, cn, cs⟩ := ⟨_, rfl⟩
  rw [← hR]
  have HR := Lib.hid hR
  clear hR
  go_enter Tryz.func72, Tryz.ntmps72
  go_upto_region 1 with fail
  generalize w.alloc (.cells #[.int .i64 ct, .int .i64 ca, .int .i64 cb, .int .i64 cn, .string ⟨cs.toArray⟩] ConT) = W at *
  obtain ⟨c0, c1, c2, f0, f1, f2, lt⟩ := HX1.out.k.box
  have k0 := row_cell HBX0.out 0 rfl
  have k1 := row_cell HBX0.out 1 rfl
  have k2 := row_cell HBX0.out 2 rfl
  have k3 := row_cell HBX0.out 3 rfl
  have k4 := row_cell HBX0.out 4 rfl
  have hlk : ∀ n, (Instr.lookup MapKT (.map (some b)) (.agg #[.int .i64 ct, .int .i64 ca, .int .i64 cb, .int .i64 cn, .string ⟨cs.toArray⟩]) true).run Tryz.prog (W.drewN n) = .ok (.tuple #[.int .i64 (((idxK L ⟨ct, ca, cb, cn, cs⟩).getD 0 : Nat) : Int), .bool (idxK L ⟨ct, ca, cb, cn, cs⟩).isSome]) (W.drewN n) :=
    fun n => (HX1.out.m.below (below_dn W n)).look HCK.out HTG.out
  cases hi : idxK L ⟨ct, ca, cb, cn, cs⟩ with
  | some i =>
    rw [hi] at hlk
    dsimp only [Option.getD_some, Option.isSome_some] at hlk
    have HRR := Lib.hid (show R = ((⟨L, er⟩ : LW), i) by rw [HR.out]; unfold LW.put; rw [hi])
    clear hi
    go_quiet (fail)
    go_wp2_with fail
    go_ret
    rw [HRR.out]
    exact ⟨rfl, ⟨a, cap, b, HX1.out.below (below_dn _ _)⟩, KeepL.of (HB1.out.trans ((below_dn _ _).mono HB1.out.size))⟩
  | none =>
    rw [hi] at hlk
    dsimp only [Option.getD_none, Option.isSome_none] at hlk
    have HRR := Lib.hid (show R = ((⟨pushK L ⟨ct, ca, cb, cn, cs⟩, er⟩ : LW).need (decide ((pushK L ⟨ct, ca, cb, cn, cs⟩).length ≤ 1024)) 9, L.length) by rw [HR.out]; unfold LW.put; rw [hi])
    have HI := Lib.hid hi
    clear hi
    go_quiet (fail)
    have hbn := below_dn W nq
    have HB2 := Lib.hid (HB1.out.trans (hbn.mono HB1.out.size))
    have HX2 := Lib.hid (HX1.out.below hbn)
    have HBX2 := Lib.hid (row_below HBX0.out hbn)
    clear hlk hbn c0 c1 c2 f0 f1 f2 lt k0 k1 k2 k3 k4 HX1 HBX0 HB1
    generalize W.drewN nq = W2 at *
    obtain ⟨c0, c1, c2, f0, f1, f2, lt⟩ := HX2.out.k.box
    go_upto_region 5 with fail
    obtain ⟨W5, hup, hm5, hg5⟩ := (HX2.out.m.below ((Below.refl _ _).drew)).store HCK.out HTG.out HI.out hn
    dsimp only [KV.cells] at hup
    have HM5 := Lib.hid hm5
    have HG5 := Lib.hid hg5
    clear hm5 hg5
    refine wp_region_lexE (EqWc W2.drew) 6 [(0, true), (1, true), (2, true), (3, true), (4, true), (5, true)] (by kernel_rfl) (by kernel_rfl) (fun c a d v w h => by cases d <;> exact h) ?_
    have hSw : EqWc W2.drew W2.drew := rfl
    have l0 : ∀ z, EqWc W2.drew z → z.cell? ⟨g, 1, none⟩ = some (.map (some b)) := fun z h => by rw [h]; exact c1
    have l1 : ∀ z, EqWc W2.drew z → z.cell? ⟨w.heap.size, 0, none⟩ = some (.int .i64 ct) := fun z h => by rw [h]; exact row_cell HBX2.out 0 rfl
    have l2 : ∀ z, EqWc W2.drew z → z.cell? ⟨w.heap.size, 1, none⟩ = some (.int .i64 ca) := fun z h => by rw [h]; exact row_cell HBX2.out 1 rfl
    have l3 : ∀ z, EqWc W2.drew z → z.cell? ⟨w.heap.size, 2, none⟩ = some (.int .i64 cb) := fun z h => by rw [h]; exact row_cell HBX2.out 2 rfl
    have l4 : ∀ z, EqWc W2.drew z → z.cell? ⟨w.heap.size, 3, none⟩ = some (.int .i64 cn) := fun z h => by rw [h]; exact row_cell HBX2.out 3 rfl
    have l5 : ∀ z, EqWc W2.drew z → z.cell? ⟨w.heap.size, 4, none⟩ = some (.string ⟨cs.toArray⟩) := fun z h => by rw [h]; exact row_cell HBX2.out 4 rfl
    iterate 6
      refine lexE_step (fun K hK => ?_)
      simp only [lexOp, List.getElem?_toArray, List.getElem?_cons_succ, List.getElem?_cons_zero]
      rw [if_pos (by rfl)]
      apply Exists.intro
      refine ⟨fun w' hS' => ?_, hSw, ?_⟩
      · first | (go_simp <;> with_reducible rfl) | (go_simp; go_bits; with_reducible rfl)
      go_simp
      try go_bits
      refine hK _ _ ?_
      clear hK K
    refine lexE_last ?_
    simp only [lastOp, List.getElem?_toArray, List.getElem?_cons_succ, List.getElem?_cons_zero]
    rw [if_pos (by rfl)]
    go_step
    clear l0 l1 l2 l3 l4 l5 hSw
    have hmb : ∀ k, some b = some k → k < W2.drew.heap.size → B ≤ k ∧ ¬ keepB W2.drew.heap[k]? := fun k e _ => by
      cases e
      exact HX2.out.nm
    have HK5 := Lib.hid (KeepL.grown HG5.out hmb)
    have HB5 := Lib.hid (HB2.out.trans (((Below.refl W2.heap.size W2).drew).mono HB2.out.size))
    have HC5 := Lib.hid ((KeepL.of HB2.out : KeepL B w W2).trans ((KeepL.of ((Below.refl _ _).drew) : KeepL B W2 W2.drew).trans HK5.out))
    have hgb : some g ≠ some b := fun e => HX2.out.bg (by cases e; rfl)
    have HL5 := Lib.hid (show W5.heap[g]? = some (.cells #[.slice a L.length cap, .map (some b), .int .i64 er] LowT) from by rw [HG5.out.block g HX2.out.lt hgb]; exact HX2.out.k)
    have HO5 := Lib.hid (show W5.ownsRow B ConT 5 (.slice a L.length cap) L.length (L.flatMap KV.cells) from own_map (own_below HX2.out.o ((Below.refl _ _).drew)) (HX2.out.m.below ((Below.refl _ _).drew)).obj HG5.out)
    have hbx : some w.heap.size ≠ some b := fun e => by cases e; omega
    have HBQ := Lib.hid (show W5.heap[w.heap.size]? = some (.cells #[.int .i64 ct, .int .i64 ca, .int .i64 cb, .int .i64 cn, .string ⟨cs.toArray⟩] ConT) from by rw [HG5.out.block w.heap.size (row_lt HBX2.out) hbx]; exact HBX2.out)
    have hs5 : w.heap.size < W5.heap.size := Nat.lt_of_lt_of_le (row_lt HBX2.out) HG5.out.size
    have HV5 := Lib.hid (HC5.out.vw HX.out.vw HX.out.B0)
    have hBb : B ≤ b := HX.out.bB
    have hBg : B ≤ g := HX.out.gB
    have hgk := HX.out.bg
    clear HB2 HX2 HBX2 HK5 HG5 HB5 hmb hgb hbx c0 c1 c2 f0 f1 f2 lt hup
    have HY5 := Lib.hid (show LoY W5 B g L (L ++ [⟨ct, ca, cb, cn, cs⟩]) er a cap b from ⟨HL5.out, HO5.out, HM5.out, hBb, hBg, HX.out.B0, HV5.out⟩)
    have hob := fun k (h : (Value.slice a L.length cap).ownBlock = some k) => (HX.out.o.lt k h).2
    have HOB := Lib.hid hob
    clear HL5 HO5 HM5 HV5 hob
    go_wp2_with fail
    go_upto_region 6 with fail
    have HC6 := Lib.hid (HC5.out.trans (KeepL.of ((Below.refl W5.heap.size W5).drew)))
    have HY6 := Lib.hid (HY5.out.below ((Below.refl _ _).drew))
    have hSw : SQ g w.heap.size 0 ⟨ct, ca, cb, cn, cs⟩ (.slice a L.length cap) W5.drew := ⟨HBQ.out, row_cell HY6.out.k 0 rfl⟩
    have hs6 : w.heap.size < W5.drew.heap.size := hs5
    clear HC5 HY5 HBQ hs5
    have l0 : ∀ z, SQ g w.heap.size 0 ⟨ct, ca, cb, cn, cs⟩ (.slice a L.length cap) z → z.cell? ⟨g, 0, none⟩ = some (.slice a L.length cap) := fun z h => h.2
    have l1 : ∀ z, SQ g w.heap.size 0 ⟨ct, ca, cb, cn, cs⟩ (.slice a L.length cap) z → z.cell? ⟨w.heap.size, 0, none⟩ = some (.int .i64 ct) := fun z h => row_cell h.1 0 rfl
    have l2 : ∀ z, SQ g w.heap.size 0 ⟨ct, ca, cb, cn, cs⟩ (.slice a L.length cap) z → z.cell? ⟨w.heap.size, 1, none⟩ = some (.int .i64 ca) := fun z h => row_cell h.1 1 rfl
    have l3 : ∀ z, SQ g w.heap.size 0 ⟨ct, ca, cb, cn, cs⟩ (.slice a L.length cap) z → z.cell? ⟨w.heap.size, 2, none⟩ = some (.int .i64 cb) := fun z h => row_cell h.1 2 rfl
    have l4 : ∀ z, SQ g w.heap.size 0 ⟨ct, ca, cb, cn, cs⟩ (.slice a L.length cap) z → z.cell? ⟨w.heap.size, 3, none⟩ = some (.int .i64 cn) := fun z h => row_cell h.1 3 rfl
    have l5 : ∀ z, SQ g w.heap.size 0 ⟨ct, ca, cb, cn, cs⟩ (.slice a L.length cap) z → z.cell? ⟨w.heap.size, 4, none⟩ = some (.string ⟨cs.toArray⟩) := fun z h => row_cell h.1 4 rfl
    refine wp_region_lexE (SQ g w.heap.size 0 ⟨ct, ca, cb, cn, cs⟩ (.slice a L.length cap)) 10 [(0, true), (1, true), (2, true), (3, true), (4, true), (5, true), (6, false), (7, false), (8, true), (9, true)] (by kernel_rfl) (by kernel_rfl) (fun c a d v w h => by cases d <;> exact h) ?_
    generalize W5.drew = W6 at *
    iterate 6
      refine lexE_step (fun K hK => ?_)
      simp only [lexOp, List.getElem?_toArray, List.getElem?_cons_succ, List.getElem?_cons_zero]
      rw [if_pos (by rfl)]
      apply Exists.intro
      refine ⟨fun w' hS' => ?_, hSw, ?_⟩
      · first | (go_simp <;> with_reducible rfl) | (go_simp; go_bits; with_reducible rfl)
      go_simp
      try go_bits
      refine hK _ _ ?_
      clear hK K
    refine lexE_step (fun K hK => ?_)
    simp only [lexOp, List.getElem?_toArray, List.getElem?_cons_succ, List.getElem?_cons_zero]
    rw [if_pos (by rfl)]
    go_step
    have hal : Below W6.heap.size W6 (W6.alloc (.cells #[.int .i64 ct, .int .i64 ca, .int .i64 cb, .int .i64 cn, .string ⟨cs.toArray⟩] ConT)) := below_1 _ _
    have hSx : SQ g w.heap.size 0 ⟨ct, ca, cb, cn, cs⟩ (.slice a L.length cap) (W6.alloc (.cells #[.int .i64 ct, .int .i64 ca, .int .i64 cb, .int .i64 cn, .string ⟨cs.toArray⟩] ConT)) := ⟨row_below hSw.1 hal, cellS_below hal hSw.2⟩
    refine ⟨hSx, hK _ _ ?_⟩
    clear hK K
    refine lexE_step (fun K hK => ?_)
    simp only [lexOp, List.getElem?_toArray, List.getElem?_cons_succ, List.getElem?_cons_zero]
    rw [if_pos (by rfl)]
    change Oper.wp _ _ _ _ _ _
    refine wp_appSK stCon (ops := #[]) rfl _ _ _ rfl B _ L.length _ rfl (HY6.out.o.alloc _) _ 1 _ rfl (Src.litS (m := 1) rfl rfl stCon.1) (by omega) (by unfold maxLen; omega) (Nat.le_trans hB (by simp; omega)) ?_
    intro v9 w9 hown9 hg9 hb9
    have hown8 : w9.ownsRow B ConT 5 v9 (L.length + 1) ((L ++ [(⟨ct, ca, cb, cn, cs⟩ : KV)]).flatMap KV.cells) := (by rw [List.flatMap_append]; exact hown9)
    obtain ⟨a9, c9, rfl, -, -⟩ := Ss.ofOwn KV.cells_length (by decide) hown8
    have HAP := Lib.hid (HY6.out.app hg9 hown8)
    have HBQ := Lib.hid (show w9.heap[w.heap.size]? = some (.cells #[.int .i64 ct, .int .i64 ca, .int .i64 cb, .int .i64 cn, .string ⟨cs.toArray⟩] ConT) from by
      rw [hg9.block w.heap.size (Nat.lt_of_lt_of_le hs6 hal.size) (fun e => Nat.lt_irrefl _ (HOB.out _ e.symm))]
      exact hSx.1)
    have hSn : SQ g w.heap.size 0 ⟨ct, ca, cb, cn, cs⟩ (.slice a L.length cap) w9 := ⟨HBQ.out, row_cell HAP.out.2.2 0 rfl⟩
    clear hSw hSx hal hown9 hown8 hg9 hb9
    have hSw := hSn
    clear hSn
    refine ⟨hSw, hK _ _ ?_⟩
    clear hK K
    iterate 2
      refine lexE_step (fun K hK => ?_)
      simp only [lexOp, List.getElem?_toArray, List.getElem?_cons_succ, List.getElem?_cons_zero]
      rw [if_pos (by rfl)]
      apply Exists.intro
      refine ⟨fun w' hS' => ?_, hSw, ?_⟩
      · first | (go_simp <;> with_reducible rfl) | (go_simp; go_bits; with_reducible rfl)
      go_simp
      try go_bits
      refine hK _ _ ?_
      clear hK K
    have fo := row_melt HAP.out.2.2 0
    have lto := row_lt HAP.out.2.2
    have co := row_cell HAP.out.2.2 0 rfl
    refine lexE_last ?_
    simp only [lastOp, List.getElem?_toArray, List.getElem?_cons_succ, List.getElem?_cons_zero]
    rw [if_pos (by rfl)]
    go_step
    have HBR := Lib.hid (heap_other HBQ.out (show w.heap.size ≠ g by omega) 0 (.slice a9 (L.length + 1) c9))
    have HY7 := Lib.hid HAP.out.1
    have HC7 := Lib.hid (HC6.out.trans HAP.out.2.1)
    clear HAP HBQ HC6 HY6 l0 l1 l2 l3 l4 l5 hSw fo lto co hs6
    generalize w9.setCell ⟨g, 0, none⟩ (.slice a9 (L.length + 1) c9) = W7 at *
    have k0 : W7.cell? ⟨w.heap.size, 0, none⟩ = some (.int .i64 ct) := row_cell HBR.out 0 rfl
    have HNF := Lib.hid (fun (W : World) (L' : List KV) (h : LoS W B g ⟨L', er⟩) => alneed_any W B g ⟨L', er⟩ (decide (L'.length ≤ 1024)) 9 h)
    by_cases h5 : ct = 5
    · have e5 : (ct == 5) = true := by rw [h5]; rfl
      have HP := Lib.hid (show pushK L ⟨ct, ca, cb, cn, cs⟩ = (L ++ [⟨ct, ca, cb, cn, cs⟩]) ++ [kz] by unfold pushK; rw [if_pos h5])
      rw [HP.out] at HRR
      clear h5
      go_upto_region 8 with fail
      clear k0 e5
      obtain ⟨c0, c1, c2, f0, f1, f2, lt⟩ := HY7.out.k.box
      obtain ⟨L1, hL1⟩ : ∃ L1, L1 = L ++ [(⟨ct, ca, cb, cn, cs⟩ : KV)] := ⟨_, rfl⟩
      have hnb : L1.length ≤ 1099511627777 := by rw [hL1]; simp; omega
      have HS7 : B ≤ W7.heap.size := Nat.le_trans hBg (Nat.le_of_lt HY7.out.k.box.lt)
      rw [← hL1] at c0 HRR
      rw [← hL1] at HY7
      clear hL1 HP
      go_wp2_with (at_builtin; refine wpList_appS_lit stCon rfl _ _ rfl B _ L1.length _ rfl HY7.out.o _ 1 _ _ rfl (by simp) rfl rfl (by omega) (by unfold maxLen; omega) HS7 ?_; intro v9 w9 hown9 hg9 hb9; have hown8 : w9.ownsRow B ConT 5 v9 (L1.length + 1) ((L1 ++ [kz]).flatMap KV.cells) := (by rw [List.flatMap_append]; exact hown9); obtain ⟨b9, d9, rfl, -, -⟩ := Ss.ofOwn KV.cells_length (by decide) hown8; have HAP := Lib.hid (HY7.out.app hg9 hown8); have fo := row_melt HAP.out.2.2 0; have lto := row_lt HAP.out.2.2; have co := row_cell HAP.out.2.2 0 rfl; clear hown9 hown8 hg9 hb9 c0 c1 c2 f0 f1 f2 lt)
      have HN := Lib.hid (HNF.out _ (L1 ++ [kz]) ⟨_, _, b, (HAP.out.1.kz).x⟩)
      rw [show decide (((L1.length : Nat) : Int) + 1 ≤ 1024) = decide ((L1 ++ [kz]).length ≤ 1024) from decide_eq_decide.2 (by rw [List.length_append, List.length_singleton]; omega)]
      refine HN.out.mono ?_
      rintro e W8 ⟨rfl, hs8, hk8⟩
      clear fo lto co
      go_wp2_with fail
      go_ret
      rw [HRR.out]
      exact ⟨rfl, hs8, (HC7.out.trans HAP.out.2.1).trans hk8⟩
    · have e5 : (ct == 5) = false := by simpa using h5
      have HP := Lib.hid (show pushK L ⟨ct, ca, cb, cn, cs⟩ = L ++ [⟨ct, ca, cb, cn, cs⟩] by unfold pushK; rw [if_neg h5, List.append_nil])
      rw [HP.out] at HRR
      clear h5
      obtain ⟨c0, c1, c2, f0, f1, f2, lt⟩ := HY7.out.k.box
      have HN := Lib.hid (HNF.out W7 _ ⟨a9, c9, b, HY7.out.x⟩)
      obtain ⟨nl, hnl⟩ : ∃ nl, nl = (L ++ [(⟨ct, ca, cb, cn, cs⟩ : KV)]).length := ⟨_, rfl⟩
      have hnb : nl ≤ 1099511627777 := by rw [hnl]; simp; omega
      obtain ⟨bq, hbq⟩ : ∃ bq, bq = decide (nl ≤ 1024) := ⟨_, rfl⟩
      have hbi : decide ((nl : Int) ≤ 1024) = bq := by rw [hbq]; exact decide_eq_decide.2 (by omega)
      rw [← hnl] at c0 HN HRR
      rw [← hbq] at HN HRR
      clear hnl hbq
      go_wp2_with fail
      refine HN.out.mono ?_
      rintro e W8 ⟨rfl, hs8, hk8⟩
      go_wp2_with fail
      go_ret
      rw [HRR.out]
      exact ⟨rfl, hs8, HC7.out.trans hk8⟩
end Go.Proofs.YtclpkipaehpkdaaGreatDoor

namespace Go.Proofs.YtclpkipaehpkdaaGreatDoor
open Go.ChangeShapes Go.WideShapes Go.ChangeAt Go.RowKit Go.Maps
theorem KeepL.bnd {B : Nat} {w w' : World} (h : KeepL B w w') (hB : B ≤ w.heap.size) : B ≤ w'.heap.size := Nat.le_trans hB h.size
theorem kok_text {t : List UInt8} (h : t.length ≤ 65536) : KOk ⟨1, 0, 0, 0, t⟩ := ⟨intRo_of (by dsimp only; omega), intRo_of (by dsimp only; omega), intRo_of (by dsimp only; omega), intRo_of (by dsimp only; omega), by show t.length ≤ _; omega⟩
theorem kok_int {tag a b n : Int} (ht : 0 ≤ tag ∧ tag ≤ 65536) (ha : 0 ≤ a ∧ a ≤ 1099511627776) (hb : 0 ≤ b ∧ b ≤ 1099511627776) (hn : IntRo n) : KOk ⟨tag, a, b, n, []⟩ := ⟨intRo_of (by dsimp only; omega), intRo_of (by dsimp only; omega), intRo_of (by dsimp only; omega), hn, by simp⟩
set_option maxRecDepth 100000 in
set_option maxHeartbeats 4000000 in
theorem altext_any (w : World) (B g : Nat) (s : LW) (t : List UInt8) (h : LoS w B g s) (ht : t.length ≤ 65536) (hn : s.l.length ≤ 1099511627776) (hB : B ≤ w.heap.size) :
    Calls Tryz.prog 35 #[.pointer (some ⟨g, 0, none⟩), .string ⟨t.toArray⟩] w (LoRet (.int .i64 ((s.text t).2 : Nat)) B g (s.text t).1 w) := by
  have HP := Lib.hid (alput_any w B g s ⟨1, 0, 0, 0, t⟩ h (kok_text ht) (show (1 : Int) ≠ 0 by decide) hn hB)
  have hr : s.text t = s.put ⟨1, 0, 0, 0, t⟩ := rfl
  rw [hr]
  generalize s.put ⟨1, 0, 0, 0, t⟩ = r at *
  clear hr h
  go_enter Tryz.func35, Tryz.ntmps35
  go_wp2_with fail
  refine HP.out.mono ?_
  rintro e w1 ⟨rfl, hs, hk⟩
  go_wp2_with fail
  go_ret
  exact ⟨rfl, hs, hk⟩
set_option maxRecDepth 100000 in
set_option maxHeartbeats 8000000 in
theorem alclass_any (w : World) (B g : Nat) (s : LW) (t : List UInt8) (arr : Bool) (h : LoS w B g s) (ht : t.length ≤ 65536) (hn : s.l.length ≤ 1000000000100) (hB : B ≤ w.heap.size) :
    Calls Tryz.prog 32 #[.pointer (some ⟨g, 0, none⟩), .string ⟨t.toArray⟩, .bool arr] w (LoRet (.int .i64 ((s.cls t arr).2 : Nat)) B g (s.cls t arr).1 w) := by
  have hvw : VW w := by obtain ⟨a, cap, b, h⟩ := h; exact h.vw
  have HN := Lib.hid (fun W ok (hb : Below w.heap.size w W) => alneed_any W B g s ok 8 (h.below hb))
  have HI := Lib.hid (fun W (hb : Below w.heap.size w W) => IsClass_any W t (by omega) (hvw.below hb))
  have HA := Lib.hid (fun W (hb : Below w.heap.size w W) => isArray_any W t ht (hvw.below hb))
  have HB0 := Lib.hid (Below.refl w.heap.size w)
  have HTL := Lib.hid ht
  unfold LW.cls
  obtain ⟨R, hR⟩ : ∃ R, R = (classB t || (arr && arrayB t)) := ⟨_, rfl⟩
  rw [← hR]
  have HR := hR
  clear hR
  generalize classB t = x1 at *
  generalize arrayB t = x2 at *
  clear h hvw ht
  cases x1
  · cases arr
    · have hR : R = false := HR
      subst hR
      clear HR
      go_enter Tryz.func32, Tryz.ntmps32
      go_wp2_with fail
      refine (HI.out w HB0.out).mono ?_
      rintro e w2 ⟨rfl, hb2⟩
      have HB2 := Lib.hid hb2
      clear hb2
      go_wp2_with fail
      refine (HN.out w2 false HB2.out).mono ?_
      rintro e w5 ⟨rfl, hs5, hk5⟩
      have HT := Lib.hid (altext_any w5 B g (s.need false 8) t hs5 HTL.out (show s.l.length ≤ _ by omega) (Nat.le_trans hB (Nat.le_trans HB2.out.size hk5.size)))
      have HK5 := Lib.hid ((KeepL.of HB2.out).trans hk5)
      have hl6 : ((s.need false 8).text t).1.l.length ≤ s.l.length + 2 := text_len (s.need false 8) t
      have hi6 : ((s.need false 8).text t).2 ≤ s.l.length := put_le (s.need false 8) _
      generalize (s.need false 8).text t = T at *
      obtain ⟨s6, i6⟩ := T
      dsimp only at hl6 hi6
      have HL6 := Lib.hid hl6
      clear hs5 hk5 hl6
      go_wp2_with fail
      refine HT.out.mono ?_
      rintro e w6 ⟨rfl, hs6, hk6⟩
      have HP := Lib.hid (alput_any w6 B g s6 ⟨7, (i6 : Nat), 0, 0, []⟩ hs6 (kok_int (by omega) (by omega) (by omega) (intRo_of (by omega))) (show (7 : Int) ≠ 0 by decide) (by have := HL6.out; omega) ((HK5.out.trans hk6).bnd hB))
      have HK6 := Lib.hid (HK5.out.trans hk6)
      clear hs6 hk6 HT HL6 HK5
      dsimp only [KV.cells] at HP
      generalize s6.put ⟨7, (i6 : Nat), 0, 0, []⟩ = Q at *
      go_wp2_with fail
      refine HP.out.mono ?_
      rintro e w7 ⟨rfl, hs7, hk7⟩
      go_wp2_with fail
      go_ret
      exact ⟨rfl, hs7, HK6.out.trans hk7⟩
    · have hR : R = x2 := HR
      subst hR
      clear HR
      go_enter Tryz.func32, Tryz.ntmps32
      go_wp2_with fail
      refine (HI.out w HB0.out).mono ?_
      rintro e w2 ⟨rfl, hb2⟩
      have HB2 := Lib.hid hb2
      clear hb2
      go_wp2_with fail
      refine (HA.out w2 HB2.out).mono ?_
      rintro e w3 ⟨rfl, hb3⟩
      have HB3 := Lib.hid (HB2.out.trans (hb3.mono HB2.out.size))
      clear hb3
      go_wp2_with fail
      refine (HN.out w3 R HB3.out).mono ?_
      rintro e w5 ⟨rfl, hs5, hk5⟩
      have HT := Lib.hid (altext_any w5 B g (s.need R 8) t hs5 HTL.out (show s.l.length ≤ _ by omega) (Nat.le_trans hB (Nat.le_trans HB3.out.size hk5.size)))
      have HK5 := Lib.hid ((KeepL.of HB3.out).trans hk5)
      have hl6 : ((s.need R 8).text t).1.l.length ≤ s.l.length + 2 := text_len (s.need R 8) t
      have hi6 : ((s.need R 8).text t).2 ≤ s.l.length := put_le (s.need R 8) _
      generalize (s.need R 8).text t = T at *
      obtain ⟨s6, i6⟩ := T
      dsimp only at hl6 hi6
      have HL6 := Lib.hid hl6
      clear hs5 hk5 hl6
      go_wp2_with fail
      refine HT.out.mono ?_
      rintro e w6 ⟨rfl, hs6, hk6⟩
      have HP := Lib.hid (alput_any w6 B g s6 ⟨7, (i6 : Nat), 0, 0, []⟩ hs6 (kok_int (by omega) (by omega) (by omega) (intRo_of (by omega))) (show (7 : Int) ≠ 0 by decide) (by have := HL6.out; omega) ((HK5.out.trans hk6).bnd hB))
      have HK6 := Lib.hid (HK5.out.trans hk6)
      clear hs6 hk6 HT HL6 HK5
      dsimp only [KV.cells] at HP
      generalize s6.put ⟨7, (i6 : Nat), 0, 0, []⟩ = Q at *
      go_wp2_with fail
      refine HP.out.mono ?_
      rintro e w7 ⟨rfl, hs7, hk7⟩
      go_wp2_with fail
      go_ret
      exact ⟨rfl, hs7, HK6.out.trans hk7⟩
  · have hR : R = true := HR
    subst hR
    clear HR
    go_enter Tryz.func32, Tryz.ntmps32
    go_wp2_with fail
    refine (HI.out w HB0.out).mono ?_
    rintro e w2 ⟨rfl, hb2⟩
    have HB2 := Lib.hid hb2
    clear hb2
    go_wp2_with fail
    refine (HN.out w2 true HB2.out).mono ?_
    rintro e w5 ⟨rfl, hs5, hk5⟩
    have HT := Lib.hid (altext_any w5 B g (s.need true 8) t hs5 HTL.out (show s.l.length ≤ _ by omega) (Nat.le_trans hB (Nat.le_trans HB2.out.size hk5.size)))
    have HK5 := Lib.hid ((KeepL.of HB2.out).trans hk5)
    have hl6 : ((s.need true 8).text t).1.l.length ≤ s.l.length + 2 := text_len (s.need true 8) t
    have hi6 : ((s.need true 8).text t).2 ≤ s.l.length := put_le (s.need true 8) _
    generalize (s.need true 8).text t = T at *
    obtain ⟨s6, i6⟩ := T
    dsimp only at hl6 hi6
    have HL6 := Lib.hid hl6
    clear hs5 hk5 hl6
    go_wp2_with fail
    refine HT.out.mono ?_
    rintro e w6 ⟨rfl, hs6, hk6⟩
    have HP := Lib.hid (alput_any w6 B g s6 ⟨7, (i6 : Nat), 0, 0, []⟩ hs6 (kok_int (by omega) (by omega) (by omega) (intRo_of (by omega))) (show (7 : Int) ≠ 0 by decide) (by have := HL6.out; omega) ((HK5.out.trans hk6).bnd hB))
    have HK6 := Lib.hid (HK5.out.trans hk6)
    clear hs6 hk6 HT HL6 HK5
    dsimp only [KV.cells] at HP
    generalize s6.put ⟨7, (i6 : Nat), 0, 0, []⟩ = Q at *
    go_wp2_with fail
    refine HP.out.mono ?_
    rintro e w7 ⟨rfl, hs7, hk7⟩
    go_wp2_with fail
    go_ret
    exact ⟨rfl, hs7, HK6.out.trans hk7⟩
end Go.Proofs.YtclpkipaehpkdaaGreatDoor

namespace Go.Proofs.YtclpkipaehpkdaaGreatDoor
open Go.ChangeShapes Go.WideShapes Go.ChangeAt Go.RowKit Go.Maps
theorem insF_fields : Tryz.prog.underlying InsT = some (.struct (Tryz.prog.fieldsOf InsT)) := by kernel_rfl
theorem insF_held : Tryz.prog.stoodInHeld InsT = false := by kernel_rfl
theorem insF_guard : Tryz.prog.eqGuardType Tryz.prog.depth InsT = false := by kernel_rfl
theorem insF_list : (Tryz.prog.fieldsOf InsT).toList.map (fun f => (f.name, f.type, f.offset)) = [("Op", 5, 0), ("N", 2, 1), ("M", 3, 2), ("Class", 9, 3), ("Name", 9, 4), ("Desc", 9, 5), ("Text", 9, 6)] := by kernel_rfl
def sameI (x y : IN) : Bool := decide (x.op = y.op ∧ x.n = y.n ∧ x.m = y.m ∧ x.cl = y.cl ∧ x.nm = y.nm ∧ x.ds = y.ds ∧ x.tx = y.tx)
theorem run_equalI (w : World) (d : Nat) (x y : IN) : (Op.equalIn (d + 1 + 1) InsT (.agg x.cells.toArray) (.agg y.cells.toArray)).run Tryz.prog w = .ok (sameI x y) w := by
  unfold IN.cells
  rw [run_equalIn_struct w (d + 1) _ _ _ insF_fields insF_held]
  have hl := insF_list
  match hf : (Tryz.prog.fieldsOf InsT).toList, hl with
  | [f0, f1, f2, f3, f4, f5, f6], hl =>
    simp only [List.map_cons, List.map_nil, List.cons.injEq, Prod.mk.injEq, and_true] at hl
    obtain ⟨⟨n0, t0, o0⟩, ⟨n1, t1, o1⟩, ⟨n2, t2, o2⟩, ⟨n3, t3, o3⟩, ⟨n4, t4, o4⟩, ⟨n5, t5, o5⟩, ⟨n6, t6, o6⟩⟩ := hl
    simp only [Op.eqFields, n0, n1, n2, n3, n4, n5, n6, t0, t1, t2, t3, t4, t5, t6, o0, o1, o2, o3, o4, o5, o6]
    have b : ∀ (e : Value) (i : Nat) (t : TypeId) (d' : TypeDesc) (cs : Array Value) (w : World), Tryz.prog.underlying t = some d' → (match d' with | .struct _ | .array _ _ => false | _ => true) = true → cs[i]? = some e → (part t cs i).run Tryz.prog w = .ok e w := by
      intro e i t d' cs w h1 h2 h3
      cases d' <;> simp [part, isAgg, run_underlying h1, h3] at h2 ⊢
    have i0 : ∀ (i : Nat) (cs : Array Value) (w : World) (h : i < cs.size), (part 3 cs i).run Tryz.prog w = .ok cs[i] w := fun i cs w h => b _ i _ _ cs w Tryz.underlying3 rfl (Array.getElem?_eq_getElem h)
    have i1 : ∀ (i : Nat) (cs : Array Value) (w : World) (h : i < cs.size), (part 5 cs i).run Tryz.prog w = .ok cs[i] w := fun i cs w h => b _ i _ _ cs w Tryz.underlying5 rfl (Array.getElem?_eq_getElem h)
    have i3 : ∀ (i : Nat) (cs : Array Value) (w : World) (h : i < cs.size), (part 2 cs i).run Tryz.prog w = .ok cs[i] w := fun i cs w h => b _ i _ _ cs w Tryz.underlying2 rfl (Array.getElem?_eq_getElem h)
    have i4 : ∀ (i : Nat) (cs : Array Value) (w : World) (h : i < cs.size), (part 9 cs i).run Tryz.prog w = .ok cs[i] w := fun i cs w h => b _ i _ _ cs w Tryz.underlying9 rfl (Array.getElem?_eq_getElem h)
    by_cases g0 : x.op = y.op
    · by_cases g1 : x.n = y.n
      · by_cases g2 : x.m = y.m
        · by_cases g3 : x.cl = y.cl
          · by_cases g4 : x.nm = y.nm
            · by_cases g5 : x.ds = y.ds
              · by_cases g6 : x.tx = y.tx <;> simp [i0, i1, i3, i4, run_equalIn_int _ _ _ _ _ _ _ Tryz.underlying3, run_equalIn_int _ _ _ _ _ _ _ Tryz.underlying2, run_equalIn_int _ _ _ _ _ _ _ Tryz.underlying5, run_equalIn_string _ _ _ _ _ Tryz.underlying9, g0, g1, g2, g3, g4, g5, g6, sameI, bytes_toList]
              · simp [i0, i1, i3, i4, run_equalIn_int _ _ _ _ _ _ _ Tryz.underlying3, run_equalIn_int _ _ _ _ _ _ _ Tryz.underlying2, run_equalIn_int _ _ _ _ _ _ _ Tryz.underlying5, run_equalIn_string _ _ _ _ _ Tryz.underlying9, g0, g1, g2, g3, g4, g5, sameI, bytes_toList]
            · simp [i0, i1, i3, i4, run_equalIn_int _ _ _ _ _ _ _ Tryz.underlying3, run_equalIn_int _ _ _ _ _ _ _ Tryz.underlying2, run_equalIn_int _ _ _ _ _ _ _ Tryz.underlying5, run_equalIn_string _ _ _ _ _ Tryz.underlying9, g0, g1, g2, g3, g4, sameI, bytes_toList]
          · simp [i0, i1, i3, i4, run_equalIn_int _ _ _ _ _ _ _ Tryz.underlying3, run_equalIn_int _ _ _ _ _ _ _ Tryz.underlying2, run_equalIn_int _ _ _ _ _ _ _ Tryz.underlying5, run_equalIn_string _ _ _ _ _ Tryz.underlying9, g0, g1, g2, g3, sameI, bytes_toList]
        · simp [i0, i1, i3, run_equalIn_int _ _ _ _ _ _ _ Tryz.underlying3, run_equalIn_int _ _ _ _ _ _ _ Tryz.underlying2, run_equalIn_int _ _ _ _ _ _ _ Tryz.underlying5, g0, g1, g2, sameI]
      · simp [i1, i3, run_equalIn_int _ _ _ _ _ _ _ Tryz.underlying2, run_equalIn_int _ _ _ _ _ _ _ Tryz.underlying5, g0, g1, sameI]
    · have g0' : ¬ (x.op : Int) = (y.op : Int) := by omega
      simp [i1, run_equalIn_int _ _ _ _ _ _ _ Tryz.underlying5, g0, g0', sameI]
  | [], hl | [_], hl | [_, _], hl | [_, _, _], hl | [_, _, _, _], hl | [_, _, _, _, _], hl | [_, _, _, _, _, _], hl | _ :: _ :: _ :: _ :: _ :: _ :: _ :: _ :: _, hl => simp at hl
set_option maxRecDepth 100000 in
set_option maxHeartbeats 4000000 in
theorem aplain_any (w : World) (x : IN) (hop : x.op < 256) : Calls Tryz.prog 120 #[.agg x.cells.toArray] w fun e w' => e = .returned (.bool (plainI x)) ∧ Below w.heap.size w w' := by
  have HF := Lib.hid (fun w => Form_any w x.op hop)
  obtain ⟨f, hf⟩ : ∃ f, f = formN x.op := ⟨_, rfl⟩
  rw [← hf] at HF
  obtain ⟨R, hR⟩ : ∃ R, R = plainI x := ⟨_, rfl⟩
  rw [← hR]
  unfold plainI at hR
  rw [← hf] at hR
  have HR := Lib.hid hR
  have HEQ := fun W (y : IN) => run_equalI W 9998 x y
  clear hf hR hop
  obtain ⟨op, n, m, cl, nm, ds, tx⟩ := x
  dsimp only [IN.cells] at HR HEQ HF ⊢
  have hgd := insF_guard
  go_enter Tryz.func120, Tryz.ntmps120
  go_wp2_with fail
  refine (HF.out _).mono ?_
  rintro e w1 ⟨rfl, hb1⟩
  have hxa : ((w.alloc (.cells #[.int .u8 (op : Nat), .int .i64 n, .int .i64 m, .string ⟨cl.toArray⟩, .string ⟨nm.toArray⟩, .string ⟨ds.toArray⟩, .string ⟨tx.toArray⟩] InsT)).alloc (.cells #[.int .u8 (op : Nat), .int .i64 n, .int .i64 0, .string ⟨#[]⟩, .string ⟨#[]⟩, .string ⟨#[]⟩, .string ⟨#[]⟩] InsT)).heap[w.heap.size]? = some (.cells #[.int .u8 (op : Nat), .int .i64 n, .int .i64 m, .string ⟨cl.toArray⟩, .string ⟨nm.toArray⟩, .string ⟨ds.toArray⟩, .string ⟨tx.toArray⟩] InsT (0, 0)) := by
    rw [Below.heap_alloc _ _ _ (by simp)]
    exact heap_alloc_last w _
  have hya := heap_alloc_last (w.alloc (.cells #[.int .u8 (op : Nat), .int .i64 n, .int .i64 m, .string ⟨cl.toArray⟩, .string ⟨nm.toArray⟩, .string ⟨ds.toArray⟩, .string ⟨tx.toArray⟩] InsT)) (.cells #[.int .u8 (op : Nat), .int .i64 n, .int .i64 0, .string ⟨#[]⟩, .string ⟨#[]⟩, .string ⟨#[]⟩, .string ⟨#[]⟩] InsT)
  have hsz : (w.alloc (.cells #[.int .u8 (op : Nat), .int .i64 n, .int .i64 m, .string ⟨cl.toArray⟩, .string ⟨nm.toArray⟩, .string ⟨ds.toArray⟩, .string ⟨tx.toArray⟩] InsT)).heap.size = w.heap.size + 1 := by simp
  rw [hsz] at hya
  have HB1 := Lib.hid ((((Below.refl w.heap.size w).alloc (Nat.le_refl _) _).alloc (by simp) _).trans (hb1.mono (by simp; omega)))
  have HXB := Lib.hid (show BlkI w.heap.size ⟨op, n, m, cl, nm, ds, tx⟩ w1 from row_below hxa hb1)
  have HYB := Lib.hid (show BlkI (w.heap.size + 1) ⟨op, n, 0, [], [], [], []⟩ w1 from row_below hya hb1)
  clear hxa hya hb1 hsz
  obtain ⟨i0, i1, i2, i3, i4, i5, i6, -, -, -, -, -, -⟩ := HXB.out.box
  obtain ⟨j0, j1, j2, j3, j4, j5, j6, f1, f2, f3, f4, f5, f6⟩ := HYB.out.box
  dsimp only at i0 i1 i2 i3 i4 i5 i6 j0 j1 j2 j3 j4 j5 j6
  by_cases f8 : f = 8
  · have e8 : ((f : Int) == 8) = true := by subst f8; rfl
    have he : ∀ W, (Op.equalIn 10000 InsT (.agg #[.int .u8 (op : Nat), .int .i64 n, .int .i64 m, .string ⟨cl.toArray⟩, .string ⟨nm.toArray⟩, .string ⟨ds.toArray⟩, .string ⟨tx.toArray⟩]) (.agg #[.int .u8 (op : Nat), .int .i64 n, .int .i64 m, .string ⟨#[]⟩, .string ⟨#[]⟩, .string ⟨#[]⟩, .string ⟨#[]⟩])).run Tryz.prog W = .ok R W := fun W => by
      have h := HEQ W ⟨op, n, m, [], [], [], []⟩
      rw [show sameI ⟨op, n, m, cl, nm, ds, tx⟩ ⟨op, n, m, [], [], [], []⟩ = R by rw [HR.out]; unfold sameI; simp [f8]] at h
      exact h
    clear HEQ f8
    go_wp2_with fail
    go_ret
    exact ⟨rfl, HB1.out.setCell (show w.heap.size ≤ w.heap.size + 1 by omega) _⟩
  · have e8 : ((f : Int) == 8) = false := by rw [beq_eq_false_iff_ne]; omega
    have he : ∀ W, (Op.equalIn 10000 InsT (.agg #[.int .u8 (op : Nat), .int .i64 n, .int .i64 m, .string ⟨cl.toArray⟩, .string ⟨nm.toArray⟩, .string ⟨ds.toArray⟩, .string ⟨tx.toArray⟩]) (.agg #[.int .u8 (op : Nat), .int .i64 n, .int .i64 0, .string ⟨#[]⟩, .string ⟨#[]⟩, .string ⟨#[]⟩, .string ⟨#[]⟩])).run Tryz.prog W = .ok R W := fun W => by
      have h := HEQ W ⟨op, n, 0, [], [], [], []⟩
      rw [show sameI ⟨op, n, m, cl, nm, ds, tx⟩ ⟨op, n, 0, [], [], [], []⟩ = R by rw [HR.out]; unfold sameI; simp [f8]] at h
      exact h
    clear HEQ f8
    go_wp2_with fail
    go_ret
    exact ⟨rfl, HB1.out⟩
end Go.Proofs.YtclpkipaehpkdaaGreatDoor

namespace Go.Proofs.YtclpkipaehpkdaaGreatDoor
open Go.ChangeShapes Go.WideShapes Go.ChangeAt Go.RowKit Go.Maps
theorem wrap32I_eq (n : Int) : IntKind.i32.wrap n = wrap32I n := by
  unfold wrap32I IntKind.wrap
  simp [IntKind.bits, IntKind.signed]
  omega
set_option maxRecDepth 100000 in
set_option maxHeartbeats 4000000 in
theorem alsmall_any (w : World) (B g : Nat) (s : LW) (n : Int) (h : LoS w B g s) : Calls Tryz.prog 121 #[.pointer (some ⟨g, 0, none⟩), .int .i64 n] w (LoRet (.int .i64 (wrap32I n)) B g (s.need (int32B n) 8) w) := by
  have HN := Lib.hid (fun ok => alneed_any w B g s ok 8 h)
  obtain ⟨R, hR⟩ : ∃ R, R = int32B n := ⟨_, rfl⟩
  rw [← hR]
  unfold int32B at hR
  obtain ⟨q, hq⟩ : ∃ q, q = wrap32I n := ⟨_, rfl⟩
  rw [← hq]
  have hw : IntKind.i32.wrap n = q := by rw [hq]; exact wrap32I_eq n
  have hqb : -2147483648 ≤ q ∧ q ≤ 2147483647 := by rw [hq]; unfold wrap32I; omega
  obtain ⟨q0, q1⟩ := hqb
  have hw2 : IntKind.i64.wrap q = q := by rw [IntKind.wrap_i64]; omega
  clear h hq
  by_cases h1 : -2147483648 ≤ n
  · have d1 : decide (-2147483648 ≤ n) = true := decide_eq_true h1
    by_cases h2 : n < 2147483648
    · have d2 : decide (n < 2147483648) = true := decide_eq_true h2
      have hRR : R = true := by rw [hR]; exact decide_eq_true (by omega)
      subst hRR
      clear hR
      go_enter Tryz.func121, Tryz.ntmps121
      go_wp2_with fail
      refine (HN.out true).mono ?_
      rintro e w1 ⟨rfl, hs, hk⟩
      go_wp2_with fail
      go_ret
      exact ⟨rfl, hs, hk⟩
    · have d2 : decide (n < 2147483648) = false := decide_eq_false h2
      have hRR : R = false := by rw [hR]; exact decide_eq_false (by omega)
      subst hRR
      clear hR
      go_enter Tryz.func121, Tryz.ntmps121
      go_wp2_with fail
      refine (HN.out false).mono ?_
      rintro e w1 ⟨rfl, hs, hk⟩
      go_wp2_with fail
      go_ret
      exact ⟨rfl, hs, hk⟩
  · have d1 : decide (-2147483648 ≤ n) = false := decide_eq_false h1
    have hRR : R = false := by rw [hR]; exact decide_eq_false (by omega)
    subst hRR
    clear hR
    go_enter Tryz.func121, Tryz.ntmps121
    go_wp2_with fail
    refine (HN.out false).mono ?_
    rintro e w1 ⟨rfl, hs, hk⟩
    go_wp2_with fail
    go_ret
    exact ⟨rfl, hs, hk⟩
end Go.Proofs.YtclpkipaehpkdaaGreatDoor

