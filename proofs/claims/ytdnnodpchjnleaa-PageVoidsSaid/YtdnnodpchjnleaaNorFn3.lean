/- nor: Program. No condition. -/
import Derived.Test.YtdnnodpchjnleaaNorFn2
import Derived.Test.YtdnnodpchjnleaaNorBits
import Derived.Deep.LoopGhost
namespace Go.Proofs.Ytdnnodpchjnleaa
open Go.ChangeShapes Go.WideShapes Go.ChangeAt Go.RowKit
/-- Nothing but block g has turned. -/
structure OnlyAt (g : Nat) (w w' : World) : Prop where
  os : w'.os = w.os
  tape : w'.tape = w.tape
  output : w'.output = w.output
  size : w'.heap.size = w.heap.size
  block : ∀ k, k ≠ g → w'.heap[k]? = w.heap[k]?
theorem OnlyAt.refl (g : Nat) (w : World) : OnlyAt g w w := ⟨rfl, rfl, rfl, rfl, fun _ _ => rfl⟩
theorem OnlyAt.row (w : World) (g : Nat) (cs : Array Value) : OnlyAt g w (w.setRow g cs) := ⟨rfl, rfl, rfl, by simp [World.setRow], fun k hk => setRow_other w g k cs hk⟩
theorem OnlyAt.kept {g gb gc x : Nat} {w w1 w2 : World} (h : OnlyAt x w1 w2) (hk : Kept g gb gc w w1) (hx : x = g ∨ x = gb ∨ x = gc) : Kept g gb gc w w2 :=
  hk.trans ⟨h.os, h.tape, h.output, by rw [h.size]; exact Nat.le_refl _, fun k _ a b c => h.block k (by rcases hx with rfl | rfl | rfl <;> assumption)⟩
/-- copy into a row that is known whole: nothing else turns. -/
theorem wpList_copy_at {P : Program} {w : World} {ops : Array Oper} {rest : List Oper} {o : Oper} {a : Act} {Q : Exit → Act → World → Prop} (hgd : o.guard = none) (d s : Operand) (dT sT : TypeId)
    (ho : o.op = .call { callee := .builtin .copy, args := #[d, s], argTypes := #[dT, sT] }) (elem : TypeId) (hu : P.underlying dT = some (.slice elem)) (hsz : (P.info? elem).map (·.size) = some 1)
    (dp sp : Option Addr) (dLen dCap sLen sCap : Nat) (hd : a.eval d = .slice dp dLen dCap) (hs : a.eval s = .slice sp sLen sCap)
    (g off : Nat) (cur : List Value) (t : TypeId) (hg : w.heap[g]? = some (.cells cur.toArray t (0, 0))) (cs : List Value) (hn : cs.length = Nat.min sLen dLen)
    (hpos : 0 < cs.length → dp = some ⟨g, off, none⟩ ∧ ∃ ad, sp = some ad ∧ ∀ j v, cs[j]? = some v → w.cell? (ad.add j) = some v)
    (hfit : off + cs.length ≤ cur.length) (h1 : ∀ v ∈ cs, v.oneCell' = true)
    (h : ∀ w', Hid (w'.heap[g]? = some (.cells (splice cur off cs).toArray t (0, 0))) → OnlyAt g w w' → wpList P ops Q rest (a.put o.dst (goInt cs.length)) w') :
    wpList P ops Q (o :: rest) a w := by
  by_cases h0 : cs.length = 0
  · obtain rfl : cs = [] := List.eq_nil_of_length_eq_zero h0
    refine wpList_copy_nothing hgd d s dT sT ho elem hu hsz dp sp dLen dCap sLen sCap hd hs (by simpa using hn.symm) ?_
    exact h w (show _ = _ by simpa [splice] using hg) (OnlyAt.refl _ _)
  · obtain ⟨rfl, ad, rfl, hsrc⟩ := hpos (by omega)
    refine wpList_copy_own hgd d s dT sT ho elem hu hsz g off dLen dCap ad sLen sCap hd hs cur.toArray t hg cs hn hsrc (by simpa using hfit) h1 ?_
    exact h _ (show _ = _ by simpa [splice] using setRow_heap w g _ _ t _ hg) (OnlyAt.row _ _ _)
theorem splice_take {α : Type} {L : List α} {N p : Nat} {cs : List α} (h : p + cs.length ≤ N) (hN : N ≤ L.length) : (splice L p cs).take N = splice (L.take N) p cs := by
  have e1 : (L.take N).take p = L.take p := by rw [List.take_take, Nat.min_eq_left (by omega)]
  have e2 : (L.take N).drop (p + cs.length) = (L.drop (p + cs.length)).take (N - (p + cs.length)) := by rw [List.drop_take]
  have l1 : (L.take p).length = p := by simp; omega
  have e3 : (L.take p).take N = L.take p := by rw [List.take_take, Nat.min_eq_right (by omega)]
  have e4 : cs.take (N - p) = cs := List.take_of_length_le (by omega)
  unfold splice
  rw [e1, e2, List.take_append, l1, List.take_append, e3, e4, show N - p - cs.length = N - (p + cs.length) by omega]
theorem lay_map {xs : List UInt8} {p : Nat} {b : List UInt8} : (Fl.lay xs p b).map encB = splice (xs.map encB) p (b.map encB) := by
  unfold Fl.lay splice
  simp [List.map_take, List.map_drop]
theorem Fl.Ok.withBs {f : Fl} (h : f.Ok) {xs : List UInt8} (hl : xs.length = f.bs.length) : ({ f with bs := xs } : Fl).Ok :=
  ⟨h.s1, h.s2, h.z1, h.z2, h.l1, h.l2, by rw [← h.hb]; exact hl, h.hc, h.hn, h.f1, h.f2, h.k1, h.k2⟩
/-- Bytes copied into a flash. -/
theorem IsFl.laid {tF eb ec : TypeId} {w w2 : World} {g gb gc cb cc p : Nat} {f : Fl} (h : IsFl tF eb ec w g gb gc cb cc f) {cur : Array Value} (hg : w.heap[gb]? = some (.cells cur eb)) (c : List UInt8) (hp : p + c.length ≤ f.bs.length)
    (hg2 : w2.heap[gb]? = some (.cells (splice cur.toList p (c.map encB)).toArray eb)) (ho : OnlyAt gb w w2) : IsFl tF eb ec w2 g gb gc cb cc { f with bs := Fl.lay f.bs p c } := by
  have hl := Fl.lay_length f.bs p c hp
  refine ⟨by rw [ho.block _ h.n1]; exact h.st, ?_, h.rc.eq (ho.block _ (Ne.symm h.n3)), h.n1, h.n2, h.n3, h.ok.withBs hl⟩
  obtain ⟨cur', hg', r1, r2, r3, r4, r5⟩ := h.rb
  rw [hg] at hg'
  cases hg'
  have hlen := h.len
  refine ⟨_, hg2, r1, r2, by rw [List.size_toArray, length_splice _ _ _ (by simp; omega)]; simpa using r3, ?_, ?_⟩
  · show List.take _ (splice cur.toList p (c.map encB)) = _
    rw [lay_map, ← r4]
    exact splice_take (by simp; omega) (by simp; omega)
  · show ((Fl.lay f.bs p c).map encB).length = _
    rw [List.length_map, hl]; exact hlen
theorem IsFl.setByte {tF eb ec : TypeId} {w : World} {g gb gc cb cc : Nat} {f : Fl} (h : IsFl tF eb ec w g gb gc cb cc f) (i : Nat) (y : UInt8) : IsFl tF eb ec (w.setCell ⟨gb, i, none⟩ (encB y)) g gb gc cb cc { f with bs := f.bs.set i y } := by
  refine ⟨by rw [heap_setO h.n1]; exact h.st, ?_, h.rc.eq (heap_setO (Ne.symm h.n3) _ _), h.n1, h.n2, h.n3, h.ok.withBs (by simp)⟩
  have := h.rb.set i (encB y)
  rw [← List.map_set] at this
  exact this
theorem u8_xorAll (y : UInt8) : bits .xor .u8 (if IntKind.u8.signed = true then -1 else IntKind.u8.max) (y.toNat : Int) = ((~~~y).toNat : Int) := by
  have h : ∀ n : Fin 256, bits .xor .u8 (if IntKind.u8.signed = true then -1 else IntKind.u8.max) (((UInt8.ofFin n).toNat : Nat) : Int) = ((~~~(UInt8.ofFin n)).toNat : Int) := by decide +kernel
  exact h y.toFin
structure TornS (g bx i : Nat) (m y : UInt8) (w : World) : Prop where
  c8 : w.cell? ⟨g, 8, none⟩ = some (.int .u8 (m.toNat : Int))
  cb : w.cell? ⟨bx, i, none⟩ = some (.int .u8 (y.toNat : Int))
theorem prog_no {f : Fl} {p : Int} {b : List UInt8} (h : f.readE p b.length ≠ 0) : f.progE p b = f.readE p b.length ∧ f.prog p b = f := by
  unfold Fl.progE Fl.prog Fl.progs Fl.readE at *
  cases hd : f.down with
  | true => simp
  | false =>
    rw [hd] at h
    simp only [Bool.false_eq_true, if_false] at h ⊢
    have ht : ¬ f.there p b.length := fun a => h (if_pos a)
    rw [if_neg ht, if_neg ht, decide_eq_false ht]
    simp
theorem prog_unfit {f : Fl} {p : Int} {b : List UInt8} (h : f.readE p b.length = 0) (hf : f.fits p.toNat b = false) : f.progE p b = 3 ∧ f.prog p b = f := by
  obtain ⟨hd, ht⟩ := readE_yes h
  unfold Fl.progE Fl.prog Fl.progs
  rw [hd, if_neg (by decide), if_pos ht, hf]
  simp
theorem fits_iff {f : Fl} {p : Nat} {b : List UInt8} : f.fits p b = true ↔ ∀ j, j < b.length → (b.getD j 0 &&& f.bs.getD (p + j) 0) = b.getD j 0 := by
  unfold Fl.fits
  rw [List.all_eq_true]
  simp [List.mem_range]
set_option maxRecDepth 100000 in
set_option maxHeartbeats 8000000 in
theorem Program_any (w : World) (g gb gc cb cc : Nat) (f : Fl) (hf : FlA w g gb gc cb cc f) (p : Int) (a : Option Addr) (n cap : Nat) (bs : List UInt8) (hs : Sl encB w a n bs) (hcap : n ≤ cap) (hp : IntR p) (hn : n ≤ maxLen)
    (h1 : NotIn a n g) (h2 : NotIn a n gb) (h3 : NotIn a n gc) :
    Calls Try.prog 15 #[.pointer (some ⟨g, 0, none⟩), .int .i64 p, .slice a n cap] w (Turned 71 w g gb gc cb cc (f.prog p bs) (.returned (.int .i64 (f.progE p bs)))) := by
  have hbl := hs.1
  unfold maxLen at hn
  by_cases h : f.readE p n = 0
  case neg =>
    have hS := Lib.hid (span_no w g gb gc cb cc f hf p n hp (by unfold IntR; omega) h)
    obtain ⟨e1, e2⟩ := prog_no (f := f) (p := p) (b := bs) (by rw [hbl]; exact h)
    rw [e1, e2, hbl]
    have HF := Lib.hid hf
    generalize f.readE p n = er at hS h ⊢
    have z1 : (er == 0) = false := eqi_no h
    have z2 : (er != 0) = true := by simp [h]
    clear e1 e2 h hs hf hbl
    go_enter Try.func15, Try.ntmps15
    go_wp2_with fail
    with_reducible refine hS.out.mono ?_
    rintro e w1 ⟨rfl, rfl⟩
    go_wp2_with fail
    go_ret
    exact ⟨rfl, HF.out, Kept.refl _ _ _ _⟩
  obtain ⟨hd, ht⟩ := readE_yes h
  have ht' := ht
  unfold Fl.there at ht'
  obtain ⟨p, rfl⟩ : ∃ k : Nat, p = k := ⟨p.toNat, by omega⟩
  have hl := hf.len
  have hq := hf.caps.2.2
  have hpn : p + n ≤ f.bs.length := by omega
  have hS := Lib.hid (span_yes w g gb gc cb cc f hf p n hd (by omega))
  have HF := Lib.hid hf
  have HS := Lib.hid hs
  have HE := Lib.hid h
  have HBL := Lib.hid hbl
  have HPN := Lib.hid hpn
  have hn4 : n ≤ 4194304 := by omega
  clear h hd ht ht' hf hs hbl hpn hl
  go_enter Try.func15, Try.ntmps15
  go_wp2_with fail
  with_reducible refine hS.out.mono ?_
  rintro e w1 ⟨⟨o, ho, rfl⟩, rfl⟩
  have HOP := Lib.hid ho
  clear ho
  go_wp2_with fail
  go_loopg [26] n (fun gn i wr => wr = w ∧ ∃ k : Nat, k ≤ n ∧ gn = n - k ∧ i = .int .i64 k ∧ Hid (∀ j, j < k → (bs.getD j 0 &&& f.bs.getD (p + j) 0) = bs.getD j 0))
  case atStart => exact ⟨rfl, 0, by omega, by omega, by go_num, fun j hj => by omega⟩
  case round =>
    obtain ⟨rfl, k, hk, rfl, rfl, HT⟩ := hrel
    by_cases hlt : k < n
    · obtain ⟨bx, ox, rfl, hbx, hcx⟩ := HS.out.2 (by omega)
      obtain rfl := HOP.out (by omega)
      have hkb : k < bs.length := by rw [HBL.out]; exact hlt
      have hkf : o + k < f.bs.length := by have := HPN.out; omega
      have cx : wr.cell? ⟨bx, ox + k, none⟩ = some (.int .u8 ((bs.getD k 0).toNat : Int)) := by rw [hcx k hkb]; simp [List.getD, hkb, encB]
      have cy : wr.cell? ⟨gb, o + k, none⟩ = some (.int .u8 ((f.bs.getD (o + k) 0).toNat : Int)) := by
        rw [(HF.out.rb.cell (o + k) (by have := HF.out.len; omega)).1]
        simp [List.getD, hkf, encB]
      obtain ⟨v, hv⟩ : ∃ v, bits .andNot .u8 ((bs.getD k 0).toNat : Int) ((f.bs.getD (o + k) 0).toNat : Int) = v := ⟨_, rfl⟩
      have hv0 : v = 0 ↔ (bs.getD k 0 &&& f.bs.getD (o + k) 0) = bs.getD k 0 := by
        rw [← hv, u8_andNot, ← u8_clear]
        constructor
        · intro h; apply UInt8.toNat_inj.1; show _ = 0; omega
        · intro h; rw [h]; rfl
      have HV0 := Lib.hid hv0
      have hux := u8_lt (bs.getD k 0)
      have huy := u8_lt (f.bs.getD (o + k) 0)
      generalize ((bs.getD k 0).toNat : Int) = x at cx hv hux
      generalize ((f.bs.getD (o + k) 0).toNat : Int) = y at cy hv huy
      clear hcx hv0 hkb hkf
      by_cases hz : v = 0
      · have z1 : (v == 0) = true := eqi_yes hz
        have z2 : (v != 0) = false := by simp [hz]
        have HT2 := Lib.hid (show ∀ j, j < k + 1 → (bs.getD j 0 &&& f.bs.getD (o + j) 0) = bs.getD j 0 from fun j hj => by
          by_cases e : j = k
          · subst e; exact HV0.out.1 hz
          · exact HT.out j (by omega))
        clear hz
        go_wp2_with fail
        go_roundg (n - (k + 1))
        case measure => omega
        case rel => exact ⟨rfl, k + 1, by omega, rfl, by go_num, HT2⟩
      · have z1 : (v == 0) = false := eqi_no hz
        have z2 : (v != 0) = true := by simp [hz]
        have hnf : f.fits o bs = false := by
          rw [Bool.eq_false_iff]
          intro h
          exact hz (HV0.out.2 (fits_iff.1 h k (by rw [HBL.out]; exact hlt)))
        obtain ⟨e1, e2⟩ := prog_unfit (f := f) (p := (o : Int)) (b := bs) (by rw [HBL.out]; exact HE.out) (by simpa using hnf)
        have HE1 := Lib.hid e1
        have HE2 := Lib.hid e2
        clear hz hnf e1 e2
        go_wp2_with fail
        go_ret
        exact ⟨by rw [HE1.out]; rfl, by rw [HE2.out]; exact HF.out, Kept.refl _ _ _ _⟩
    · obtain rfl : k = n := by omega
      have hft : f.fits p bs = true := fits_iff.2 fun j hj => HT.out j (by have := HBL.out; omega)
      obtain ⟨hd, ht⟩ := readE_yes HE.out
      rw [← HBL.out] at ht
      have hT := Lib.hid (torn_any wr g gb gc cb cc f HF.out k hn4)
      cases hw : f.whole with
      | true =>
        have hw0 : f.left ≠ 0 := by intro e; unfold Fl.whole at hw; rw [e] at hw; cases hw
        obtain ⟨e1, e2⟩ := Fl.prog_whole (f := f) (p := (p : Int)) (b := bs) hd ht (by simpa using hft) hw0
        have HE1 := Lib.hid e1
        have HE2 := Lib.hid e2
        have HOK := Lib.hid (Fl.prog_ok HF.out.ok (p : Int) bs)
        rw [hw] at hT
        simp only [if_true, Bool.not_true] at hT
        clear hft hd ht hw hw0 e1 e2 HT
        go_wp2_with fail
        with_reducible refine hT.out.mono ?_
        rintro e W1 ⟨rfl, hF1, hK1⟩
        have S1 := Lib.hid (HS.out.kept hK1 h1 h2 h3)
        have HF1 := Lib.hid hF1
        have HK1 := Lib.hid hK1
        obtain ⟨cur, hg, r1, r2, r3, r4, r5⟩ := hF1.rb
        obtain ⟨t1, t2, t3, t4, t5, t6, t7⟩ := f.tick_fields
        rw [t1, t2] at r1 r4 r5
        rw [t4] at r4 r5
        have hcl : cb ≤ cur.size := r3
        have hcl2 : p + k ≤ cur.toList.length := by have := HPN.out; have := HF.out.len; simp; omega
        have HG := Lib.hid (show W1.heap[gb]? = some (.cells cur.toList.toArray 5) by simpa using hg)
        have HR4 := Lib.hid r4
        have HT := Lib.hid (And.intro t1 (And.intro t2 (And.intro r1 (And.intro r2 r3))))
        have hkc : (k : Int) ≤ cap := by omega
        have hk0 : (0 : Int) ≤ k := by omega
        have hsrc : 0 < (bs.map encB).length → (some (⟨gb, o, none⟩ : Addr)) = some ⟨gb, p, none⟩ ∧ ∃ ad, a = some ad ∧ ∀ j v, (bs.map encB)[j]? = some v → W1.cell? (ad.add j) = some v := by
          intro h0
          have hk : 0 < k := by have := HBL.out; simpa [this] using h0
          obtain ⟨bx, ox, rfl, hbx, hcx⟩ := S1.out.2 hk
          refine ⟨by rw [HOP.out hk], _, rfl, fun j v hv => ?_⟩
          rw [List.getElem?_map] at hv
          have hj : j < bs.length := by
            rcases Nat.lt_or_ge j bs.length with h | h
            · exact h
            · rw [List.getElem?_eq_none h] at hv; cases hv
          rw [List.getElem?_eq_getElem hj] at hv
          cases hv
          have hadd : (⟨bx, ox, none⟩ : Addr).add j = ⟨bx, ox + j, none⟩ := by unfold Addr.add; split <;> simp_all
          rw [hadd]
          exact hcx j hj
        have HSRC := Lib.hid hsrc
        clear hF1 hK1 hg r1 r2 r3 r4 r5 t1 t2 t3 t4 t5 t6 t7 hsrc hT
        have HNN := Lib.hid (show (bs.map encB).length = Nat.min k k by rw [List.length_map, HBL.out]; exact (Nat.min_self k).symm)
        have HFF := Lib.hid (show p + (bs.map encB).length ≤ cur.toList.length by rw [List.length_map, HBL.out]; exact hcl2)
        clear hcl hcl2
        go_wp2_with ((with_reducible refine wpList_copy_at rfl _ _ _ _ rfl 5 Try.underlying23 (by kernel_rfl) _ _ k k k cap rfl rfl gb p cur.toList 5 HG.out (bs.map encB) HNN.out HSRC.out HFF.out (encB_one bs) ?_); intro w2 hg2 ho2; have HG2 := Lib.hid hg2.out; have HO2 := Lib.hid ho2; clear hg2 ho2)
        go_ret
        obtain ⟨t1, t2, r1, r2, r3⟩ := HT.out
        refine ⟨by rw [HE1.out]; rfl, ?_, HO2.out.kept HK1.out (.inr (.inl rfl))⟩
        rw [HE2.out]
        have hok := HOK.out
        rw [HE2.out] at hok
        have hst := HF1.out.st
        have hrow : RowAt w2 5 gb (f.S * f.Z) cb ((Fl.lay f.bs p bs).map encB) := by
          refine ⟨(splice cur.toList p (bs.map encB)).toArray, HG2.out, r1, r2, by rw [List.size_toArray, length_splice _ _ _ HFF.out]; simpa using r3, ?_, ?_⟩
          · rw [lay_map, ← HR4.out]
            exact splice_take (by rw [List.length_map, HBL.out]; have := HPN.out; have := HF.out.len; omega) (by simp only [Array.length_toList]; omega)
          · rw [List.length_map, Fl.lay_length _ _ _ (by rw [HBL.out]; exact HPN.out), HF.out.len]
        refine ⟨?_, by simp only [t1, t2, Int.toNat_natCast]; exact hrow, ?_, HF.out.n1, HF.out.n2, HF.out.n3, hok⟩
        · rw [HO2.out.block _ HF.out.n1]; exact hst
        · have := HF1.out.rc.eq (HO2.out.block _ (Ne.symm HF.out.n3)); exact this
      | false =>
        have hw0 : f.left = 0 := by unfold Fl.whole at hw; simpa using hw
        obtain ⟨e1, e2⟩ := Fl.prog_torn (f := f) (p := (p : Int)) (b := bs) hd ht (by simpa using hft) hw0
        have HE1 := Lib.hid e1
        have HE2 := Lib.hid e2
        have HL0 := Lib.hid hw0
        rw [hw] at hT
        simp only [Bool.false_eq_true, if_false, Bool.not_false] at hT
        have hpl := f.part_le k
        obtain ⟨q, hq⟩ : ∃ q, f.part k = q := ⟨_, rfl⟩
        rw [hq] at hT hpl
        have HQ := Lib.hid hq
        clear hft hd ht hw hw0 e1 e2 HT hq
        go_wp2_with fail
        with_reducible refine hT.out.mono ?_
        rintro e W1 ⟨rfl, hF1, hK1⟩
        have S1 := Lib.hid (HS.out.kept hK1 h1 h2 h3)
        have HF1 := Lib.hid hF1
        have HK1 := Lib.hid hK1
        obtain ⟨cur, hg, r1, r2, r3, r4, r5⟩ := hF1.rb
        obtain ⟨t1, t2, t3, t4, t5, t6, t7⟩ := f.tick_fields
        rw [t1, t2] at r1
        have hbl := HBL.out
        have htl : (bs.take q).length = q := by simp; omega
        have hcl2 : p + q ≤ cur.toList.length := by have := HPN.out; have := HF.out.len; simp; omega
        have HG := Lib.hid (show W1.heap[gb]? = some (.cells cur.toList.toArray 5) by simpa using hg)
        have HGC := Lib.hid hg
        have hqc : (q : Int) ≤ cap := by omega
        have hq0 : (0 : Int) ≤ q := by omega
        have hsrc : 0 < ((bs.take q).map encB).length → (some (⟨gb, o, none⟩ : Addr)) = some ⟨gb, p, none⟩ ∧ ∃ ad, a = some ad ∧ ∀ j v, ((bs.take q).map encB)[j]? = some v → W1.cell? (ad.add j) = some v := by
          intro h0
          have hq1 : 0 < q := by rw [List.length_map, htl] at h0; exact h0
          obtain ⟨bx, ox, rfl, hbx, hcx⟩ := (S1.out.take hpl).2 hq1
          refine ⟨by rw [HOP.out (by omega)], _, rfl, fun j v hv => ?_⟩
          rw [List.getElem?_map] at hv
          have hj : j < (bs.take q).length := by
            rcases Nat.lt_or_ge j (bs.take q).length with h | h
            · exact h
            · rw [List.getElem?_eq_none h] at hv; cases hv
          rw [List.getElem?_eq_getElem hj] at hv
          cases hv
          have hadd : (⟨bx, ox, none⟩ : Addr).add j = ⟨bx, ox + j, none⟩ := by unfold Addr.add; split <;> simp_all
          rw [hadd]
          exact hcx j hj
        have HSRC := Lib.hid hsrc
        have HNN := Lib.hid (show ((bs.take q).map encB).length = Nat.min q k by rw [List.length_map, htl]; exact (Nat.min_eq_left hpl).symm)
        have HFF := Lib.hid (show p + ((bs.take q).map encB).length ≤ cur.toList.length by rw [List.length_map, htl]; exact hcl2)
        have HTL := Lib.hid htl
        clear hF1 hK1 hg r1 r2 r3 r4 r5 t1 t2 t3 t5 t6 t7 hsrc hT htl hbl hcl2 t4
        go_wp2_with ((with_reducible refine wpList_copy_at rfl _ _ _ _ rfl 5 Try.underlying23 (by kernel_rfl) _ _ k k q cap rfl rfl gb p cur.toList 5 HG.out ((bs.take q).map encB) HNN.out HSRC.out HFF.out (encB_one _) ?_); intro w2 hg2 ho2; have HG2 := Lib.hid hg2.out; have HO2 := Lib.hid ho2; clear hg2 ho2)
        · have hqk : q < k := by omega
          have hTk : f.tick = { f with down := true } := by unfold Fl.tick; rw [if_pos HL0.out]
          have hF := HF1.out
          rw [hTk] at hF
          have HF2 := Lib.hid (hF.laid HGC.out (bs.take q) (by rw [HTL.out]; have := HPN.out; show p + q ≤ f.bs.length; omega) HG2.out HO2.out)
          have HK2 := Lib.hid (HO2.out.kept HK1.out (.inr (.inl rfl)))
          have S2 := HS.out.kept HK2.out h1 h2 h3
          obtain ⟨bx, ox, rfl, hbx, hcx⟩ := S2.2 (by omega)
          have ho : p = o := (HOP.out (by omega)).symm
          subst ho
          have hne : bx ≠ gb := h2 (by omega) _ _ rfl
          have hne1 : g ≠ gb := HF.out.n1
          have hc1 := hcx q (by rw [HBL.out]; exact hqk)
          obtain ⟨y, hy⟩ : ∃ y, bs[q]'(by rw [HBL.out]; exact hqk) = y := ⟨_, rfl⟩
          rw [hy] at hc1
          have hr := HF2.out.rb.cell (p + q) (by have := HPN.out; have := HF.out.len; show p + q < f.S * f.Z; omega)
          obtain ⟨c0, c1, c2, c3, c4, c5, c6, c7, c8⟩ := HF2.out.cells
          have hS2 : TornS g bx (ox + q) f.mask y w2 := ⟨c8, hc1⟩
          clear hF S2 hcx c0 c1 c2 c3 c4 c5 c6 c7 c8 hc1 HSRC HG HG2 HGC HO2 HF1 HK1 S1
          obtain ⟨x, hx⟩ : ∃ x, (Fl.lay f.bs p (bs.take q)).getD (p + q) 0 = x := ⟨_, rfl⟩
          have hlt : p + q < (Fl.lay f.bs p (bs.take q)).length := by have := HF2.out.len; have h4 := HF.out.len; have := HPN.out; rw [Fl.lay_length _ _ _ (by rw [HTL.out]; omega)]; omega
          have hgx : w2.drew.cell? ⟨gb, p + q, none⟩ = some (.int .u8 (x.toNat : Int)) := by
            show w2.cell? ⟨gb, p + q, none⟩ = _
            rw [hr.1, ← hx]
            simp [List.getD, hlt, encB]
          have hfz : w2.drew.frozen? ⟨gb, p + q, none⟩ = false := hr.2
          have hSw : TornS g bx (ox + q) f.mask y w2.drew := ⟨hS2.1, hS2.2⟩
          have HF3 := Lib.hid (show FlA w2.drew g gb gc cb cc _ from ⟨HF2.out.st, HF2.out.rb, HF2.out.rc, HF2.out.n1, HF2.out.n2, HF2.out.n3, HF2.out.ok⟩)
          have HK3 := Lib.hid HK2.out.drew
          clear HF2 HK2 hS2 hr
          have HSw := Lib.hid hSw
          refine wp_region_lexS (TornS g bx (ox + q) f.mask y) (.of [(0, true), (1, true), (2, true), (4, true), (5, true), (6, true), (7, true), (8, true), (9, true), (10, true), (11, true), (12, true), (13, true), (14, true), (3, false), (15, true), (16, true), (17, false)] (.stir [])) (by kernel_rfl) (by kernel_rfl) (fun c a d v w h => by cases d <;> exact h) ?_
          have L1 := fun w' (h : TornS g bx (ox + q) f.mask y w') => h.1
          have L2 := fun w' (h : TornS g bx (ox + q) f.mask y w') => h.2
          have hqc2 : (q : Int) < k := by omega
          generalize hW : w2.drew = W3 at HF3 HK3 HSw hSw hgx hfz ⊢
          clear hW
          iterate 14
            refine lexS_step (fun K hK => ?_)
            simp only [lexOp, List.getElem?_toArray, List.getElem?_cons_succ, List.getElem?_cons_zero]
            rw [if_pos (by rfl)]
            apply Exists.intro
            refine ⟨fun w' hS' => ?_, hSw, ?_⟩
            · first | (go_simp <;> with_reducible rfl) | (go_simp; go_bits; with_reducible rfl)
            go_simp
            try go_bits
            refine hK _ _ ?_
            clear hK K
          refine lexS_step (fun K hK => ?_)
          simp only [lexOp, List.getElem?_toArray, List.getElem?_cons_succ, List.getElem?_cons_zero]
          rw [if_pos (by rfl)]
          go_step
          refine hK _ _ ?_
          clear hK K
          iterate 2
            refine lexS_step (fun K hK => ?_)
            simp only [lexOp, List.getElem?_toArray, List.getElem?_cons_succ, List.getElem?_cons_zero]
            rw [if_pos (by rfl)]
            apply Exists.intro
            refine ⟨fun w' hS' => ?_, hSw, ?_⟩
            · first | (go_simp <;> with_reducible rfl) | (go_simp; go_bits; with_reducible rfl)
            go_simp
            try go_bits
            refine hK _ _ ?_
            clear hK K
          refine lexS_step (fun K hK => ?_)
          simp only [lexOp, List.getElem?_toArray, List.getElem?_cons_succ, List.getElem?_cons_zero]
          rw [if_pos (by rfl)]
          go_step
          rw [u8_xorAll, u8_and, u8_andNot, u8_torn, ← u8_not]
          have HF4 := Lib.hid (HF3.out.setByte (p + q) (x &&& (y ||| (255 - f.mask))))
          have HK4 := Lib.hid (HK3.out.set (o := p + q) (.inr (.inl rfl)) (encB (x &&& (y ||| (255 - f.mask)))))
          have hS4 : TornS g bx (ox + q) f.mask y (W3.setCell ⟨gb, p + q, none⟩ (encB (x &&& (y ||| (255 - f.mask))))) := ⟨by rw [cell_other hne1]; exact HSw.out.1, by rw [cell_other hne]; exact HSw.out.2⟩
          have henc : encB (x &&& (y ||| (255 - f.mask))) = Value.int .u8 (((x &&& (y ||| (255 - f.mask))).toNat : Nat) : Int) := rfl
          rw [henc] at HF4 HK4 hS4
          generalize hW : W3.setCell ⟨gb, p + q, none⟩ (Value.int .u8 (((x &&& (y ||| (255 - f.mask))).toNat : Nat) : Int)) = W4 at HF4 HK4 hS4 ⊢
          clear hW
          refine ⟨hS4, hK _ _ ?_⟩
          clear hK K
          refine lexS_stir (fun y => y = W4) (fun y hy => hy ▸ hS4) rfl ?_
          refine stir_nil (fun z hz => ?_)
          subst hz
          go_wp2_with fail
          go_ret
          refine ⟨by rw [HE1.out]; rfl, ?_, HK4.out⟩
          rw [HE2.out]
          have hB : f.progB ((p : Int)).toNat bs = (Fl.lay f.bs p (bs.take q)).set (p + q) (x &&& (y ||| (255 - f.mask))) := by
            unfold Fl.progB
            have hw : f.whole = false := by unfold Fl.whole; simp [HL0.out]
            rw [hw, HBL.out, HQ.out]
            simp only [Bool.false_eq_true, if_false, Int.toNat_natCast]
            rw [if_pos hqk, hx, ← hy]
            congr 2
            have : q < bs.length := by rw [HBL.out]; exact hqk
            simp [List.getD, this]
          rw [hB]
          exact HF4.out
        · go_ret
          have hTk : f.tick = { f with down := true } := by unfold Fl.tick; rw [if_pos HL0.out]
          have hF := HF1.out
          rw [hTk] at hF
          have HL := hF.laid HGC.out (bs.take q) (by rw [HTL.out]; have := HPN.out; show p + q ≤ f.bs.length; omega) HG2.out HO2.out
          refine ⟨by rw [HE1.out]; rfl, ?_, HO2.out.kept HK1.out (.inr (.inl rfl))⟩
          rw [HE2.out]
          have hB : f.progB ((p : Int)).toNat bs = Fl.lay f.bs p (bs.take q) := by
            unfold Fl.progB
            have hw : f.whole = false := by unfold Fl.whole; simp [HL0.out]
            rw [hw, HBL.out, HQ.out]
            simp only [Bool.false_eq_true, if_false, Int.toNat_natCast]
            rw [if_neg (by omega)]
          rw [hB]
          exact HL
end Go.Proofs.Ytdnnodpchjnleaa
