/- klass: which errors there are; a class's beginnings. Plain. -/
import Derived.Test.YtnfhiakdbakpgaaQ31KlassCuts
import Derived.Test.YtnfhiakdbakpgaaQ00KlassCuts
import Derived.Lib.SmallJoins
import Derived.OpenShut
namespace Go.Proofs.Ytnfhiakdbakpgaa
open Go.RowKit
/-- What may be wrong. -/
def E3 (e : Int) : Prop := e = 0 ∨ e = 6 ∨ e = 8
theorem getR_e3 (bs : List UInt8) (p n : Nat) (h1 : 1 ≤ n) (h8 : n ≤ 8) : E3 (getR bs p n).2 := by
  unfold getR
  rw [if_neg (by omega)]
  split
  · exact .inr (.inl rfl)
  · exact .inl rfl
def Er {α : Type} (m : RM α) : Prop := ∀ s : St, E3 s.2 → E3 (m s).2.2
theorem Er.pure {α : Type} (a : α) : Er (pureR a) := fun _ h => h
theorem Er.bind {α β : Type} {f : RM α} {g : α → RM β} (hf : Er f) (hg : ∀ a, Er (g a)) : Er (bindR f g) := fun s h => hg _ _ (hf s h)
theorem Er.get (bs : List UInt8) (n : Nat) (h1 : 1 ≤ n) (h8 : n ≤ 8) : Er (getS bs n) := fun s h => by
  unfold getS
  split
  · exact h
  · exact getR_e3 bs s.1 n h1 h8
theorem Er.bad (b : St → Bool) : Er (badS b) := fun s h => by
  unfold badS
  split
  · exact .inr (.inr rfl)
  · exact h
theorem Er.one (bs : List UInt8) (m : Nat) (h1 : 1 ≤ m) (h8 : m ≤ 8) (s : St) (x : Int) (h : E3 s.2) : E3 (mustOne bs m s x).2 := by
  unfold mustOne
  split
  · exact .inr (.inr rfl)
  · exact Er.get bs m h1 h8 s h
theorem Er.must (bs : List UInt8) (m : Nat) (h1 : 1 ≤ m) (h8 : m ≤ 8) (l : List Int) : Er (mustS bs m l) := fun s h => by
  show E3 (l.foldl (mustOne bs m) s).2
  induction l generalizing s with
  | nil => exact h
  | cons x t ih => exact ih _ (Er.one bs m h1 h8 s x h)
theorem Er.row {α : Type} {one : RM α} (ho : Er one) : ∀ n, Er (rowS one n)
  | 0 => fun _ h => h
  | n + 1 => fun s h => by
    unfold rowS
    split
    · exact h
    · exact Er.row ho n _ (ho s h)
theorem Er.times {α : Type} {one : RM α} (ho : Er one) (most n : Int) : Er (timesS most one n) := Er.bind (Er.bad _) fun _ => Er.row ho _
theorem Er.bytes (bs : List UInt8) (n : Int) : Er (bytesS bs n) := fun s h => by
  unfold bytesS
  split
  · exact h
  · split
    · exact .inr (.inl rfl)
    · exact .inl rfl
theorem Er.sized {α : Type} (bs : List UInt8) {one : RM α} (ho : Er one) : Er (sizedS bs one) := fun s h => by
  have h1 := ho _ (Er.get bs 4 (by decide) (by decide) s h)
  unfold sizedS
  split
  · exact .inr (.inr rfl)
  · exact h1
theorem Er.get2 (bs : List UInt8) : Er (getS bs 2) := Er.get bs 2 (by decide) (by decide)
theorem Er.slot (bs : List UInt8) : Er (slotS bs) := Er.bind (Er.get bs 1 (by decide) (by decide)) fun tg => by
  split
  · exact Er.bind (Er.get2 bs) fun _ => Er.pure _
  · exact Er.pure _
theorem Er.slots (bs : List UInt8) (most : Int) : Er (slotsS bs most) := Er.bind (Er.get2 bs) fun _ => Er.times (Er.slot bs) _ _
theorem Er.kmap (bs : List UInt8) : Er (kmapS bs) := Er.bind (Er.get2 bs) fun _ => Er.bind (Er.slots bs _) fun _ => Er.bind (Er.slots bs _) fun _ => Er.pure _
theorem Er.trap (bs : List UInt8) : Er (trapS bs) := Er.bind (Er.get2 bs) fun _ => Er.bind (Er.get2 bs) fun _ => Er.bind (Er.get2 bs) fun _ => Er.bind (Er.get2 bs) fun _ => Er.pure _
theorem Er.maps (bs : List UInt8) : Er (mapsS bs) := Er.bind (Er.get2 bs) fun _ => Er.bind (Er.bad _) fun _ => Er.times (Er.kmap bs) _ _
theorem Er.tail (bs : List UInt8) (L : List KV) (k : Int) : Er (tailS bs L k) := by
  unfold tailS
  split
  · exact Er.pure _
  · split
    · exact Er.bind (Er.must bs 2 (by decide) (by decide) _) fun _ => Er.sized bs (Er.maps bs)
    · exact fun s _ => .inr (.inr rfl)
theorem Er.code (bs : List UInt8) (L : List KV) (a b c : Int) : Er (kcodeS bs L a b c) := Er.bind (Er.get2 bs) fun _ => Er.bind (Er.get2 bs) fun _ => Er.bind (Er.get bs 4 (by decide) (by decide)) fun _ => Er.bind (Er.bytes bs _) fun _ =>
  Er.bind (Er.get2 bs) fun _ => Er.bind (Er.times (Er.trap bs) _ _) fun _ => Er.bind (Er.get2 bs) fun _ => Er.bind (Er.tail bs L _) fun _ => Er.pure _
theorem Er.meth (bs : List UInt8) (L : List KV) : Er (methS bs L) := Er.bind (Er.get2 bs) fun _ => Er.bind (Er.get2 bs) fun _ => Er.bind (Er.get2 bs) fun _ => Er.bind (Er.must bs 2 (by decide) (by decide) _) fun _ => Er.sized bs (Er.code bs L _ _ _)
theorem Er.field (bs : List UInt8) : Er (fieldS bs) := Er.bind (Er.get2 bs) fun _ => Er.bind (Er.get2 bs) fun _ => Er.bind (Er.get2 bs) fun _ => Er.bind (Er.must bs 2 (by decide) (by decide) _) fun _ => Er.pure _
theorem Er.rest (bs : List UInt8) (L : List KV) : Er (restS bs L) := Er.bind (Er.must bs 2 (by decide) (by decide) _) fun _ => Er.bind (Er.get2 bs) fun _ => Er.bind (Er.get2 bs) fun _ => Er.bind (Er.must bs 2 (by decide) (by decide) _) fun _ => Er.bind (Er.get2 bs) fun _ =>
  Er.bind (Er.times (Er.field bs) _ _) fun _ => Er.bind (Er.get2 bs) fun _ => Er.bind (Er.times (Er.meth bs L) _ _) fun _ => Er.bind (Er.must bs 2 (by decide) (by decide) _) fun _ => Er.pure _
theorem nextR_e3 (bs : List UInt8) (p : Nat) (m : Nat) (h1 : 1 ≤ m) (h8 : m ≤ 8) : E3 (nextR bs p 0 m).2.2 := by
  unfold nextR
  rw [if_pos rfl]
  exact getR_e3 bs p m h1 h8
theorem textR_e3 (bs : List UInt8) (p : Nat) (e : Int) (m : Nat) (h : E3 e) : E3 (textR bs p e m).2.2 := by
  unfold textR
  split
  · exact h
  · split
    · exact .inr (.inl rfl)
    · exact .inl rfl
theorem oneR_e3 (bs : List UInt8) (p : Nat) : E3 (oneR bs p).2.2 := by
  unfold oneR
  have h1 := nextR_e3 bs p 1 (by decide) (by decide)
  dsimp only
  split
  · exact h1
  · have h2 := nextR_e3 bs (nextR bs p 0 1).2.1 2 (by decide) (by decide)
    have h4 := nextR_e3 bs (nextR bs p 0 1).2.1 4 (by decide) (by decide)
    have h8 := nextR_e3 bs (nextR bs p 0 1).2.1 8 (by decide) (by decide)
    split
    · exact textR_e3 _ _ _ _ h2
    · split
      · exact h4
      · split
        · exact h8
        · split
          · exact h2
          · split
            · exact h4
            · exact .inr (.inr rfl)
theorem parF_e3 (bs : List UInt8) (count : Nat) : ∀ (fuel p : Nat) (acc : List KV), E3 (parF bs count fuel p acc).1
  | 0, p, acc => .inl rfl
  | fuel + 1, p, acc => by
    unfold parF
    split
    · exact .inl rfl
    · split
      · exact oneR_e3 bs p
      · exact parF_e3 bs count fuel _ _
theorem parseK_e3 (bs : List UInt8) : E3 (parseK bs).1 := by
  unfold parseK
  split
  · exact nextR_e3 bs 0 2 (by decide) (by decide)
  · split
    · exact .inr (.inr rfl)
    · split
      · exact parF_e3 bs _ _ _ _
      · split
        · exact .inr (.inr rfl)
        · exact .inl rfl
theorem parseF_err (bs : List UInt8) (h : (parseF bs).2 ≠ 0) : (parseF bs).1 = kf0 ∧ ((parseF bs).2 = 6 ∨ (parseF bs).2 = 8) := by
  have key : ∀ e : Int, E3 e → e ≠ 0 → e = 6 ∨ e = 8 := fun e he hn => by
    rcases he with h | h | h
    · exact absurd h hn
    · exact .inl h
    · exact .inr h
  have h0 : E3 (headS bs).2 := Er.must bs 2 (by decide) (by decide) [0, 45] _ (Er.must bs 4 (by decide) (by decide) [3405691582] (0, 0) (.inl rfl))
  unfold parseF at h ⊢
  split at h
  · rename_i hh
    rw [if_pos hh]
    exact ⟨rfl, key _ h0 hh⟩
  · rename_i hh
    rw [if_neg hh]
    split at h
    · rename_i h2
      rw [if_pos h2]
      exact ⟨rfl, key _ (parseK_e3 _) h2⟩
    · rename_i h2
      rw [if_neg h2]
      dsimp only at h ⊢
      have h9 := Er.rest bs (parseK (bs.drop (headS bs).1)).2.2 ((headS bs).1 + (parseK (bs.drop (headS bs).1)).2.1, 0) (.inl rfl)
      split at h
      · rename_i h3
        rw [if_pos h3]
        exact ⟨rfl, key _ h9 h3⟩
      · rename_i h3
        rw [if_neg h3]
        split at h
        · rename_i h4
          rw [if_pos h4]
          exact ⟨rfl, .inr rfl⟩
        · exact absurd rfl h
def NumK (c : KV) : Prop := -9223372036854775808 ≤ c.n ∧ c.n ≤ 9223372036854775807
theorem signB_num (v : Int) : (-9223372036854775808 ≤ signB v 4 ∧ signB v 4 ≤ 9223372036854775807) ∧ (-9223372036854775808 ≤ signB v 8 ∧ signB v 8 ≤ 9223372036854775807) := by
  rw [signB_4, signB_8]
  unfold wrap32 wrap64
  omega
theorem oneR_num (bs : List UInt8) (p : Nat) : NumK (oneR bs p).1 := by
  have z : ∀ a b : Int, ∀ t : Int, ∀ s : List UInt8, NumK ⟨t, a, b, 0, s⟩ := fun a b t s => ⟨by show (-9223372036854775808 : Int) ≤ 0; omega, by show (0 : Int) ≤ _; omega⟩
  unfold oneR
  dsimp only
  split
  · exact z _ _ _ _
  · split
    · exact z _ _ _ _
    · split
      · exact (signB_num _).1
      · split
        · exact (signB_num _).2
        · split
          · exact z _ _ _ _
          · split
            · exact z _ _ _ _
            · exact z _ _ _ _
theorem kz_num : NumK kz := ⟨by decide, by decide⟩
theorem parF_num (bs : List UInt8) (count : Nat) : ∀ (fuel p : Nat) (acc : List KV), (∀ c ∈ acc, NumK c) → ∀ c ∈ (parF bs count fuel p acc).2.2, NumK c
  | 0, p, acc, h => h
  | fuel + 1, p, acc, h => by
    unfold parF
    split
    · exact h
    · split
      · intro c hc; cases hc
      · refine parF_num bs count fuel _ _ fun c hc => ?_
        rcases List.mem_append.1 hc with hc | hc
        · rcases List.mem_append.1 hc with hc | hc
          · exact h c hc
          · rw [List.mem_singleton.1 hc]; exact oneR_num bs p
        · split at hc
          · rw [List.mem_singleton.1 hc]; exact kz_num
          · cases hc
theorem parseK_num (bs : List UInt8) : ∀ c ∈ (parseK bs).2.2, NumK c := by
  unfold parseK
  split
  · intro c hc; cases hc
  · split
    · intro c hc; cases hc
    · split
      · intro c hc; cases hc
      · split
        · intro c hc; cases hc
        · exact parF_num bs _ _ _ _ (fun c hc => by rw [List.mem_singleton.1 hc]; exact kz_num)
theorem parseF_num (bs : List UInt8) : ∀ c ∈ (parseF bs).1.pool, NumK c := by
  unfold parseF
  split
  · intro c hc; cases hc
  · split
    · intro c hc; cases hc
    · dsimp only
      split
      · intro c hc; cases hc
      · split
        · intro c hc; cases hc
        · exact parseK_num _
/-- No beginning of a class's bytes is a class. -/
theorem parseF_cut (f : KF) (h : classOk f = true) (hs : (classB f).length < 4294967296) (hw : ∀ c ∈ f.pool, -9223372036854775808 ≤ c.n ∧ c.n ≤ 9223372036854775807) (q : Nat) (hq : q < (classB f).length) : (parseF ((classB f).take q)).2 ≠ 0 := by
  intro h0
  obtain ⟨h1, h2⟩ := parseF_inv _ h0
  have h3 := parseF_num ((classB f).take q)
  generalize (parseF ((classB f).take q)).1 = g at *
  have hl : (classB g).length = q := by rw [h1, List.length_take]; omega
  have h4 := parseF_class g h2 (by omega) h3 (by rw [classOk_p]; exact h2) ((classB f).drop q)
  have hne : (classB f).drop q ≠ [] := fun e => by
    have := congrArg List.length e
    rw [List.length_drop, List.length_nil] at this
    omega
  rw [if_neg hne, h1, List.take_append_drop] at h4
  have h5 := parseF_class f h hs hw (by rw [classOk_p]; exact h) []
  rw [List.append_nil, if_pos rfl, h4] at h5
  have := congrArg Prod.snd h5
  simp at this
theorem parseF_more (f : KF) (h : classOk f = true) (hs : (classB f).length < 4294967296) (hw : ∀ c ∈ f.pool, -9223372036854775808 ≤ c.n ∧ c.n ≤ 9223372036854775807) (more : List UInt8) (hm : more ≠ []) : (parseF (classB f ++ more)).2 ≠ 0 := by
  rw [parseF_class f h hs hw (by rw [classOk_p]; exact h) more, if_neg hm]
  decide
theorem parseF_same (f : KF) (h : classOk f = true) (hs : (classB f).length < 4294967296) (hw : ∀ c ∈ f.pool, -9223372036854775808 ≤ c.n ∧ c.n ≤ 9223372036854775807) : parseF (classB f) = (f.p, 0) := by
  have h5 := parseF_class f h hs hw (by rw [classOk_p]; exact h) []
  rwa [List.append_nil, if_pos rfl] at h5
end Go.Proofs.Ytnfhiakdbakpgaa
/- bytes that came in. No condition. -/
namespace Go.Proofs.Ytnfhiakdbakpgaa
open Go.ChangeShapes Go.WideShapes Go.ChangeAt Go.RowKit Go.Joins Go.Deep
section
variable {H : Type} {enc : TypeId × Value → H} {w : World} {r : Reach} {b0 : Nat} {v : Value} {d : DataW H} {p : List MemPlace}
set_option maxRecDepth 100000 in
theorem row_of {fuel : Nat} {v : Value} {x : DataW H × List MemPlace} (hf : DataW.trod enc Try.prog w 0 (fun _ => true) true fuel 29 [v] = some x) : ∃ a n cap z, v = .slice a n cap ∧ IsRow .u8 w a n cap z := by
  rcases open_ints Try.underlying29 Try.underlying5 (by kernel_rfl) hf with ⟨hcs, _⟩ | ⟨x, l, c, zs, hcs, _, hl, hm, hz, _, hcell, hwz⟩
  · simp at hcs
    exact ⟨none, 0, 0, [], hcs, .inl ⟨rfl, rfl, rfl, rfl⟩⟩
  · simp at hcs
    exact ⟨_, _, _, zs, hcs, .inr ⟨_, rfl, hl, hm, by simpa using hz, hcell, hwz⟩⟩
set_option maxRecDepth 100000 in
theorem open_bytes (hv : Value.okWide Try.prog w r b0 29 v) (h : DataW.Trod enc Try.prog w 0 (fun _ => true) true 29 v d p) : ∃ a n cap z, v = .slice a n cap ∧ IsRow .u8 w a n cap z := by
  obtain ⟨a, n, cap, rfl⟩ := okWide_slice Try.underlying29 hv
  obtain ⟨fuel, hf⟩ := h
  exact row_of (by simpa [Value.cells] using hf)
end
end Go.Proofs.Ytnfhiakdbakpgaa
/- klass: KlassReads (printed by gen/kllaw.py). No condition. -/
namespace Go.Proofs.Ytnfhiakdbakpgaa
open Go.ChangeShapes Go.WideShapes Go.ChangeAt Go.RowKit
theorem row_slK {w : World} {a : Option Addr} {n cap : Nat} {z : List Int} (h : IsRow .u8 w a n cap z) : ∃ bs, Sl encB w a n bs ∧ n ≤ cap ∧ n ≤ maxLen := by
  obtain ⟨bs, hb, hm⟩ := Bs.ofRow h
  exact ⟨bs, hb.sl, Row.cap h, hm⟩
set_option maxRecDepth 100000 in
set_option maxHeartbeats 16000000 in
theorem walk_KlassReads (a : Option Addr) (n cap : Nat) (z : List Int) (w : World) (h0 : IsRow .u8 w a n cap z) :
    Calls Try.prog 4 #[.slice a n cap] w fun e w' => e = .returned (.bool true) ∧ Below w.heap.size w w' := by
  obtain ⟨bs, hs, hc, hm⟩ := row_slK h0
  have HS := Lib.hid hs
  have HLn := Lib.hid hs.1
  have HF := Lib.hid (fixed14 w)
  have hn9 : n ≤ 9223372036854775807 := by unfold maxLen at hm; omega
  clear h0 hs hm
  go_enter Try.func4, Try.ntmps4
  go_wp2_with fail
  refine HF.out.mono ?_
  rintro e w1 ⟨rfl, hb1⟩
  have HB1 := Lib.hid hb1
  have HS1 := Lib.hid (HS.out.below hb1)
  clear hb1 HF HS
  by_cases h3 : 3000 < n
  · have ed : decide ((3000 : Int) < n) = true := by simp; omega
    go_wp2_with fail
    go_ret
    exact ⟨rfl, HB1.out⟩
  have ed : decide ((3000 : Int) < n) = false := by simp; omega
  have hn3 : n ≤ 3000 := by omega
  clear h3
  have HP := Lib.hid (KParse_any w1 a n cap bs HS1.out (by omega) hc)
  have HE := Lib.hid (parseF_err bs)
  have HI := Lib.hid (parseF_inv bs)
  obtain ⟨R, hR⟩ : ∃ R, R = parseF bs := ⟨_, rfl⟩
  rw [← hR] at HP HE HI
  clear hR
  obtain ⟨r, re⟩ := R
  dsimp only at HE HI
  go_wp2_with fail
  refine HP.out.mono ?_
  rintro e w2 ⟨x, hxp, rfl, hxr, hxf, hb2⟩
  dsimp only at hxp ⊢
  have HXP := Lib.hid hxp
  have HX2 := Lib.hid hxr
  have HB2 := Lib.hid (HB1.out.trans (hb2.mono HB1.out.size))
  have HS2 := Lib.hid (HS1.out.below hb2)
  clear hxp hxr hxf hb2 HP HB1 HS1
  obtain ⟨xa, xn, xc, xpool, xth, xsu, xfa, xfn, xfc, xfields, xma, xmn, xmc, xmethods⟩ := x
  unfold KF.vals
  dsimp only
  go_upto_region 6 with fail
  have hal := below_1 w2 (.cells #[.slice xa xn xc, .int .i64 xth, .int .i64 xsu, .slice xfa xfn xfc, .slice xma xmn xmc] 26)
  have HX3 := Lib.hid (HX2.out.below hal)
  have HR3 := Lib.hid (heap_alloc_last w2 (.cells #[.slice xa xn xc, .int .i64 xth, .int .i64 xsu, .slice xfa xfn xfc, .slice xma xmn xmc] 26))
  have HB3 := Lib.hid (HB2.out.trans (hal.mono HB2.out.size))
  have HS3 := Lib.hid (HS2.out.below hal)
  clear hal HX2 HB2 HS2
  generalize w2.alloc (.cells #[.slice xa xn xc, .int .i64 xth, .int .i64 xsu, .slice xfa xfn xfc, .slice xma xmn xmc] 26) = w3 at *
  generalize w2.heap.size = b2 at *
  have k0 := row_cell HR3.out 0 rfl
  have k1 := row_cell HR3.out 1 rfl
  have k2 := row_cell HR3.out 2 rfl
  have k3 := row_cell HR3.out 3 rfl
  have k4 := row_cell HR3.out 4 rfl
  dsimp at k0 k1 k2 k3 k4
  by_cases he : re = 0
  case neg =>
    have hee := HE.out he
    have HX0 := Lib.hid (show (⟨xa, xn, xc, xpool, xth, xsu, xfa, xfn, xfc, xfields, xma, xmn, xmc, xmethods⟩ : KF).p = kf0.p from HXP.out.trans hee.1)
    have HSM := Lib.hid (show (⟨xa, xn, xc, xpool, xth, xsu, xfa, xfn, xfc, xfields, xma, xmn, xmc, xmethods⟩ : KF).Sml from by
      have h1 := HX0.out
      have h2 := HX3.out.pool.1
      have h3 := HX3.out.fields.1
      have h4 := HX3.out.methods.1
      simp only [KF.p, kf0, KF.mk.injEq, List.map_eq_nil_iff, List.map_nil] at h1
      obtain ⟨-, -, -, g1, -, -, -, -, -, g2, -, -, -, g3⟩ := h1
      dsimp only at h2 h3 h4
      subst g1 g2 g3
      rw [List.length_nil] at h2 h3 h4
      exact ⟨by dsimp only; omega, by dsimp only; omega, by dsimp only; omega, fun m hm => by cases hm⟩)
    have HSA := Lib.hid (Same_yes w3 _ kf0 HX3.out (kf0_rd w3) HX0.out HSM.out)
    unfold KF.vals kf0 at HSA
    dsimp only at HSA
    rcases hee.2 with rfl | rfl
    · clear he hee HE HI
      go_wp2_with fail
      refine HSA.out.mono ?_
      rintro e w4 ⟨rfl, hb⟩
      go_wp2_with fail
      go_ret
      exact ⟨rfl, HB3.out.trans (hb.mono HB3.out.size)⟩
    · clear he hee HE HI
      go_wp2_with fail
      refine HSA.out.mono ?_
      rintro e w4 ⟨rfl, hb⟩
      go_wp2_with fail
      go_ret
      exact ⟨rfl, HB3.out.trans (hb.mono HB3.out.size)⟩
  obtain rfl : re = 0 := he
  have hi := HI.out rfl
  rw [← HXP.out, classB_p, classOk_p] at hi
  obtain ⟨hcb, hck⟩ := hi
  have HFT := Lib.hid (ok_fit hck HX3.out)
  have HPO := Lib.hid (((classOk_iff _).1 hck).1)
  have HBY := Lib.hid (fun u (h : Below w3.heap.size w3 u) => rBytes_any u _ (HX3.out.below h) HFT.out.1.pn HFT.out.1.ps HPO.out (by rw [hcb, HLn.out]; omega))
  rw [hcb] at HBY
  unfold KF.vals at HBY
  dsimp only at HBY
  have HCK := Lib.hid hck
  clear hcb hck HE HI HPO
  go_upto_region 8 with fail
  have hSw : Below w3.heap.size w3 w3.drew := (Below.refl _ _).drew
  have l0 := fun u (h : Below w3.heap.size w3 u) => cellS_below h k0
  have l1 := fun u (h : Below w3.heap.size w3 u) => cellS_below h k1
  have l2 := fun u (h : Below w3.heap.size w3 u) => cellS_below h k2
  have l3 := fun u (h : Below w3.heap.size w3 u) => cellS_below h k3
  have l4 := fun u (h : Below w3.heap.size w3 u) => cellS_below h k4
  have cvb := fun u (h : Below w3.heap.size w3 u) => run_conv (HS3.out.below h) cap
  have HRI2 := Lib.hid (show Calls Try.prog 10 #[.agg #[.slice xa xn xc, .int .i64 xth, .int .i64 xsu, .slice xfa xfn xfc, .slice xma xmn xmc]] w3.drew (BoolRet true w3.drew) by
    have h := rRight_any w3.drew _ (HX3.out.below (Below.refl _ _).drew) HFT.out.1.pn HFT.out.1.ps HFT.out.2.1
    rw [HCK.out] at h
    exact h)
  clear k0 k1 k2 k3 k4 HFT HCK
  refine wp_region_lexS (Below w3.heap.size w3) (.of [(0, true), (1, false), (2, true), (3, true), (6, true), (7, true), (4, false)] (.stir [(5, true), (8, true), (9, true), (10, true)])) (by kernel_rfl) (by kernel_rfl) (fun c a d v w h => by cases d <;> exact h) ?_
  iterate 1
    refine lexS_step (fun K hK => ?_)
    simp only [lexOp, List.getElem?_toArray, List.getElem?_cons_succ, List.getElem?_cons_zero]
    rw [if_pos (by rfl)]
    apply Exists.intro
    refine ⟨fun w' hS' => ?_, hSw, ?_⟩
    · first | (go_simp <;> with_reducible rfl) | (go_simp; go_bits; with_reducible rfl)
    go_simp
    try go_bits
    refine hK _ _ ?_
    clear hK K
  refine lexS_step (fun K hK => ?_)
  simp only [lexOp, List.getElem?_toArray, List.getElem?_cons_succ, List.getElem?_cons_zero]
  rw [if_pos (by rfl)]
  go_step
  refine HRI2.out.mono ?_
  rintro e w4 ⟨rfl, hb4⟩
  replace hSw : Below w3.heap.size w3 w4 := hSw.trans (hb4.mono hSw.size)
  clear hb4 HRI2
  go_simp
  first | refine hK _ _ ?_ | refine ⟨hSw, hK _ _ ?_⟩
  clear hK K
  iterate 4
    refine lexS_step (fun K hK => ?_)
    simp only [lexOp, List.getElem?_toArray, List.getElem?_cons_succ, List.getElem?_cons_zero]
    rw [if_pos (by rfl)]
    apply Exists.intro
    refine ⟨fun w' hS' => ?_, hSw, ?_⟩
    · first | (go_simp <;> with_reducible rfl) | (go_simp; go_bits; with_reducible rfl)
    go_simp
    try go_bits
    refine hK _ _ ?_
    clear hK K
  refine lexS_step (fun K hK => ?_)
  simp only [lexOp, List.getElem?_toArray, List.getElem?_cons_succ, List.getElem?_cons_zero]
  rw [if_pos (by rfl)]
  go_step
  refine (HBY.out w4 hSw).mono ?_
  rintro e w5 ⟨v5, m5, rfl, ho5, hb5⟩
  obtain ⟨a5, c5, rfl, hs5, -⟩ := Sl.ofOwn ho5
  replace hSw : Below w3.heap.size w3 w5 := hSw.trans (hb5.mono hSw.size)
  have cv5 := fun u (h : Below w5.heap.size w5 u) => run_conv (hs5.below h) c5
  have ebb : (bs == bs) = true := by simp
  clear ho5 hb5 HBY hs5
  go_simp
  first | refine hK _ _ ?_ | refine ⟨hSw, hK _ _ ?_⟩
  clear hK K l0 l1 l2 l3 l4 cvb
  have HB5 := Lib.hid (HB3.out.trans (hSw.mono HB3.out.size))
  refine lexS_stir (Below w5.heap.size w5) (fun y hy => hSw.trans (hy.mono hSw.size)) (Below.refl _ _) ?_
  clear hSw
  iterate 4
    refine stir_step (fun K hK => ?_)
    simp only [stirOp, List.getElem?_toArray, List.getElem?_cons_succ, List.getElem?_cons_zero]
    rw [if_pos (by rfl)]
    apply Exists.intro
    refine ⟨fun w' hS' => ?_, ?_⟩
    · first | (go_simp <;> with_reducible rfl) | (go_simp; go_bits; with_reducible rfl)
    go_simp
    try go_bits
    refine hK _ ?_
    clear hK K
  refine stir_nil (fun u hu => ?_)
  clear cv5
  go_wp2_with fail
  go_ret
  exact ⟨rfl, HB5.out.trans (hu.mono HB5.out.size)⟩
end Go.Proofs.Ytnfhiakdbakpgaa
/- klass: KlassBytes (printed by gen/kllaw.py). No condition. -/
namespace Go.Proofs.Ytnfhiakdbakpgaa
open Go.ChangeShapes Go.WideShapes Go.ChangeAt Go.RowKit
set_option maxRecDepth 100000 in
set_option maxHeartbeats 32000000 in
theorem walk_KlassBytes (f : KF) (w : World) (h0 : IsFile w f) :
    Calls Try.prog 3 #[.agg f.vals] w fun e w' => e = .returned (.bool true) ∧ Below w.heap.size w w' := by
  obtain ⟨hr, hbig, hnum, hfl, hmf⟩ := h0
  have HX := Lib.hid hr
  have HBG := Lib.hid hbig
  have HNM := Lib.hid hnum
  have HFL := Lib.hid hfl
  have HMF := Lib.hid hmf
  clear hr hbig hnum hfl hmf
  obtain ⟨pa, pn, pc, pool, th, su, fa, fn, fc, fields, ma, mn, mc, methods⟩ := f
  unfold KF.vals
  dsimp only
  have hal0 := below_1 w (.cells #[.slice pa pn pc, .int .i64 th, .int .i64 su, .slice fa fn fc, .slice ma mn mc] 26)
  have HT0 := Lib.hid (heap_alloc_last w (.cells #[.slice pa pn pc, .int .i64 th, .int .i64 su, .slice fa fn fc, .slice ma mn mc] 26))
  have HB0 := Lib.hid hal0
  clear hal0
  go_enter Try.func3, Try.ntmps3
  go_upto_region 1 with fail
  generalize w.alloc (.cells #[.slice pa pn pc, .int .i64 th, .int .i64 su, .slice fa fn fc, .slice ma mn mc] 26) = w0 at *
  obtain ⟨bf, hbf⟩ : ∃ b, b = w.heap.size := ⟨_, rfl⟩
  rw [← hbf] at HT0 ⊢
  clear hbf
  have HFX := Lib.hid (fixed14 w0)
  go_wp2_with fail
  refine HFX.out.mono ?_
  rintro e w1 ⟨rfl, hb1⟩
  have HB1 := Lib.hid (HB0.out.trans (hb1.mono HB0.out.size))
  have HT1 := Lib.hid (row_below HT0.out hb1)
  clear hb1 HFX HT0 HB0
  have k0 := row_cell HT1.out 0 rfl
  have k1 := row_cell HT1.out 1 rfl
  have k2 := row_cell HT1.out 2 rfl
  have k3 := row_cell HT1.out 3 rfl
  have k4 := row_cell HT1.out 4 rfl
  dsimp at k0 k1 k2 k3 k4
  have HFW := Lib.hid (kfew_any w1 _ (HX.out.below HB1.out) HBG.out)
  unfold KF.vals at HFW
  dsimp only at HFW
  go_wp2_with fail
  refine HFW.out.mono ?_
  rintro e w2 ⟨bw, rfl, hb2, hfw⟩
  have HB2 := Lib.hid (HB1.out.trans (hb2.mono HB1.out.size))
  have HT2 := Lib.hid (row_below HT1.out hb2)
  have HFEW := Lib.hid hfw
  clear hb2 hfw HFW HT1 HB1 k0 k1 k2 k3 k4
  cases bw with
  | false =>
    go_wp2_with fail
    go_ret
    exact ⟨rfl, HB2.out⟩
  | true =>
  have HFP := Lib.hid (HFEW.out rfl)
  have HFIT := Lib.hid (HFP.out.fit HX.out HFL.out HMF.out)
  have HSML := Lib.hid (HFP.out.sml HX.out)
  have HBND := Lib.hid (few_bound w _ HX.out (by have h1 := HFP.out.1; have h2 := HX.out.pool.1; dsimp only at h1 h2 ⊢; omega) HFP.out.2.2.2.1 HFP.out.2.1 HFP.out.2.2.1 HFP.out.2.2.2.2)
  clear HFEW
  have HBY := Lib.hid (KBytes_any w2 _ (HX.out.below HB2.out) HFIT.out (fun _ => by have := HBND.out; omega))
  have k0 := row_cell HT2.out 0 rfl
  have k1 := row_cell HT2.out 1 rfl
  have k2 := row_cell HT2.out 2 rfl
  have k3 := row_cell HT2.out 3 rfl
  have k4 := row_cell HT2.out 4 rfl
  dsimp at k0 k1 k2 k3 k4
  go_wp2_with fail
  refine HBY.out.mono ?_
  rintro e w3 (⟨hno, rfl, hb3⟩ | ⟨hok, v3, m3, rfl, ho3, hb3⟩)
  · have HB3 := Lib.hid (HB2.out.trans (hb3.mono HB2.out.size))
    have HT3 := Lib.hid (row_below HT2.out hb3)
    clear hb3 HBY HT2 HB2 k0 k1 k2 k3 k4
    have k0 := row_cell HT3.out 0 rfl
    have k1 := row_cell HT3.out 1 rfl
    have k2 := row_cell HT3.out 2 rfl
    have k3 := row_cell HT3.out 3 rfl
    have k4 := row_cell HT3.out 4 rfl
    dsimp at k0 k1 k2 k3 k4
    have HRI := rRight_any w3 _ (HX.out.below HB3.out) HFIT.out.pn HFIT.out.ps HBG.out
    have HCH := fun u (h : Below w.heap.size w u) => KCheck_any u _ (HX.out.below h) HFIT.out
    unfold KCheckRet at HCH
    rw [hno] at HRI HCH
    unfold KF.vals at HRI
    dsimp only at HRI HCH
    replace HRI := Lib.hid HRI
    replace HCH := Lib.hid HCH
    clear hno
    go_wp2_with fail
    refine HRI.out.mono ?_
    rintro e w4 ⟨rfl, hb4⟩
    have HB4 := Lib.hid (HB3.out.trans (hb4.mono HB3.out.size))
    have HT4 := Lib.hid (row_below HT3.out hb4)
    clear hb4 HRI HT3 HB3 k0 k1 k2 k3 k4
    have k0 := row_cell HT4.out 0 rfl
    have k1 := row_cell HT4.out 1 rfl
    have k2 := row_cell HT4.out 2 rfl
    have k3 := row_cell HT4.out 3 rfl
    have k4 := row_cell HT4.out 4 rfl
    dsimp at k0 k1 k2 k3 k4
    go_wp2_with fail
    refine (HCH.out w4 HB4.out).mono ?_
    rintro e w5 ⟨rfl, hb5⟩
    go_wp2_with fail
    go_ret
    exact ⟨rfl, HB4.out.trans (hb5.mono HB4.out.size)⟩
  obtain ⟨a3, c3, rfl, hs3, hc3⟩ := Sl.ofOwn ho3
  have HM3 := Lib.hid (own_lenB ho3)
  have HS3 := Lib.hid hs3
  have HB3 := Lib.hid (HB2.out.trans (hb3.mono HB2.out.size))
  have HT3 := Lib.hid (row_below HT2.out hb3)
  have HOK := Lib.hid hok
  clear hs3 ho3 hb3 HBY HT2 HB2 k0 k1 k2 k3 k4
  have k0 := row_cell HT3.out 0 rfl
  have k1 := row_cell HT3.out 1 rfl
  have k2 := row_cell HT3.out 2 rfl
  have k3 := row_cell HT3.out 3 rfl
  have k4 := row_cell HT3.out 4 rfl
  dsimp at k0 k1 k2 k3 k4
  have HRI := rRight_any w3 _ (HX.out.below HB3.out) HFIT.out.pn HFIT.out.ps HBG.out
  have HCH := fun u (h : Below w.heap.size w u) => KCheck_any u _ (HX.out.below h) HFIT.out
  unfold KCheckRet at HCH
  rw [hok] at HRI HCH
  unfold KF.vals at HRI
  dsimp only at HRI HCH
  replace HRI := Lib.hid HRI
  replace HCH := Lib.hid HCH
  have HRB := Lib.hid (fun u (h : Below w.heap.size w u) => rBytes_any u _ (HX.out.below h) HFIT.out.pn HFIT.out.ps ((classOk_iff _).1 HOK.out).1 (by have := HBND.out; omega))
  unfold KF.vals at HRB
  dsimp only at HRB
  have HPS := Lib.hid (parseF_same _ HOK.out (by have := HBND.out; omega) HNM.out)
  obtain ⟨bs, hbs⟩ : ∃ bs, bs = classB (⟨pa, pn, pc, pool, th, su, fa, fn, fc, fields, ma, mn, mc, methods⟩ : KF) := ⟨_, rfl⟩
  rw [← hbs] at HS3 HM3 HRB HPS HBND
  have hm3 : m3 ≤ 60000 := by have h1 := HM3.out; have h2 := HBND.out; omega
  clear hok hbs
  go_wp2_with fail
  refine HRI.out.mono ?_
  rintro e w4 ⟨rfl, hb4⟩
  have HB4 := Lib.hid (HB3.out.trans (hb4.mono HB3.out.size))
  have HT4 := Lib.hid (row_below HT3.out hb4)
  have HS4 := Lib.hid (HS3.out.below hb4)
  clear hb4 HRI HT3 HB3 HS3 k0 k1 k2 k3 k4
  have HPA := Lib.hid (KParse_any w4 a3 m3 c3 bs HS4.out (by omega) hc3)
  rw [HPS.out] at HPA
  go_wp2_with fail
  refine HPA.out.mono ?_
  rintro e w5 ⟨x, hxp, rfl, hxr, hxf, hb5⟩
  dsimp only at hxp ⊢
  have HXP := Lib.hid hxp
  have HX5 := Lib.hid hxr
  have HXS := Lib.hid (show x.Sml from (ok_fit (by rw [← classOk_p, hxp, classOk_p]; exact HOK.out) hxr).2.2)
  have HB5 := Lib.hid (HB4.out.trans (hb5.mono HB4.out.size))
  have HT5 := Lib.hid (row_below HT4.out hb5)
  have HS5 := Lib.hid (HS4.out.below hb5)
  clear hxp hxr hxf hb5 HPA HB4 HT4 HS4
  obtain ⟨xa, xn, xc, xpool, xth, xsu, xfa, xfn, xfc, xfields, xma, xmn, xmc, xmethods⟩ := x
  unfold KF.vals
  dsimp only
  go_upto_region 9 with fail
  have hal := below_1 w5 (.cells #[.slice xa xn xc, .int .i64 xth, .int .i64 xsu, .slice xfa xfn xfc, .slice xma xmn xmc] 26)
  have HX6 := Lib.hid (HX5.out.below hal)
  have HR6 := Lib.hid (heap_alloc_last w5 (.cells #[.slice xa xn xc, .int .i64 xth, .int .i64 xsu, .slice xfa xfn xfc, .slice xma xmn xmc] 26))
  have HB6 := Lib.hid (HB5.out.trans (hal.mono HB5.out.size))
  have HT6 := Lib.hid (row_below HT5.out hal)
  have HS6 := Lib.hid (HS5.out.below hal)
  clear hal HX5 HB5 HT5 HS5
  generalize w5.alloc (.cells #[.slice xa xn xc, .int .i64 xth, .int .i64 xsu, .slice xfa xfn xfc, .slice xma xmn xmc] 26) = w6 at *
  generalize w5.heap.size = b5 at *
  have k0 := row_cell HT6.out 0 rfl
  have k1 := row_cell HT6.out 1 rfl
  have k2 := row_cell HT6.out 2 rfl
  have k3 := row_cell HT6.out 3 rfl
  have k4 := row_cell HT6.out 4 rfl
  dsimp at k0 k1 k2 k3 k4
  have j0 := row_cell HR6.out 0 rfl
  have j1 := row_cell HR6.out 1 rfl
  have j2 := row_cell HR6.out 2 rfl
  have j3 := row_cell HR6.out 3 rfl
  have j4 := row_cell HR6.out 4 rfl
  dsimp at j0 j1 j2 j3 j4
  have hSw : Below w6.heap.size w6 w6.drew := (Below.refl _ _).drew
  have l0 := fun u (h : Below w6.heap.size w6 u) => cellS_below h k0
  have l1 := fun u (h : Below w6.heap.size w6 u) => cellS_below h k1
  have l2 := fun u (h : Below w6.heap.size w6 u) => cellS_below h k2
  have l3 := fun u (h : Below w6.heap.size w6 u) => cellS_below h k3
  have l4 := fun u (h : Below w6.heap.size w6 u) => cellS_below h k4
  have n0 := fun u (h : Below w6.heap.size w6 u) => cellS_below h j0
  have n1 := fun u (h : Below w6.heap.size w6 u) => cellS_below h j1
  have n2 := fun u (h : Below w6.heap.size w6 u) => cellS_below h j2
  have n3 := fun u (h : Below w6.heap.size w6 u) => cellS_below h j3
  have n4 := fun u (h : Below w6.heap.size w6 u) => cellS_below h j4
  have cvb := fun u (h : Below w6.heap.size w6 u) => run_conv (HS6.out.below h) c3
  clear k0 k1 k2 k3 k4 j0 j1 j2 j3 j4
  refine wp_region_lexS (Below w6.heap.size w6) (.of [(0, true), (1, true), (2, true), (3, true), (4, true), (5, true), (6, true), (7, true), (8, false), (9, true), (10, true), (11, true), (12, true), (13, true), (14, true), (15, false)] (.stir [(16, true), (17, true), (18, true), (19, true), (20, true), (21, true), (22, false), (23, true), (24, true)])) (by kernel_rfl) (by kernel_rfl) (fun c a d v w h => by cases d <;> exact h) ?_
  iterate 8
    refine lexS_step (fun K hK => ?_)
    simp only [lexOp, List.getElem?_toArray, List.getElem?_cons_succ, List.getElem?_cons_zero]
    rw [if_pos (by rfl)]
    apply Exists.intro
    refine ⟨fun w' hS' => ?_, hSw, ?_⟩
    · first | (go_simp <;> with_reducible rfl) | (go_simp; go_bits; with_reducible rfl)
    go_simp
    try go_bits
    refine hK _ _ ?_
    clear hK K
  refine lexS_step (fun K hK => ?_)
  simp only [lexOp, List.getElem?_toArray, List.getElem?_cons_succ, List.getElem?_cons_zero]
  rw [if_pos (by rfl)]
  go_step
  refine (HCH.out _ (HB6.out.trans (hSw.mono HB6.out.size))).mono ?_
  rintro e w7 ⟨rfl, hb7⟩
  replace hSw : Below w6.heap.size w6 w7 := hSw.trans (hb7.mono hSw.size)
  clear hb7 HCH
  go_simp
  first | refine hK _ _ ?_ | refine ⟨hSw, hK _ _ ?_⟩
  clear hK K
  iterate 6
    refine lexS_step (fun K hK => ?_)
    simp only [lexOp, List.getElem?_toArray, List.getElem?_cons_succ, List.getElem?_cons_zero]
    rw [if_pos (by rfl)]
    apply Exists.intro
    refine ⟨fun w' hS' => ?_, hSw, ?_⟩
    · first | (go_simp <;> with_reducible rfl) | (go_simp; go_bits; with_reducible rfl)
    go_simp
    try go_bits
    refine hK _ _ ?_
    clear hK K
  refine lexS_step (fun K hK => ?_)
  simp only [lexOp, List.getElem?_toArray, List.getElem?_cons_succ, List.getElem?_cons_zero]
  rw [if_pos (by rfl)]
  go_step
  refine (HRB.out w7 (HB6.out.trans (hSw.mono HB6.out.size))).mono ?_
  rintro e w8 ⟨v8, m8, rfl, ho8, hb8⟩
  obtain ⟨a8, c8, rfl, hs8, -⟩ := Sl.ofOwn ho8
  replace hSw : Below w6.heap.size w6 w8 := hSw.trans (hb8.mono hSw.size)
  have cv8 := fun u (h : Below w8.heap.size w8 u) => run_conv (hs8.below h) c8
  have ebb : (bs == bs) = true := by simp
  clear ho8 hb8 HRB hs8
  go_simp
  first | refine hK _ _ ?_ | refine ⟨hSw, hK _ _ ?_⟩
  clear hK K cvb
  have HB8 := Lib.hid (HB6.out.trans (hSw.mono HB6.out.size))
  have HXA := Lib.hid (fun u (h : Below w8.heap.size w8 u) => Same_yes u _ _ ((HX6.out.below hSw).below h) ((HX.out.below HB8.out).below h) HXP.out HXS.out)
  unfold KF.vals at HXA
  dsimp only at HXA
  have p0 := fun u (h : Below w8.heap.size w8 u) => l0 u (hSw.trans (h.mono hSw.size))
  have p1 := fun u (h : Below w8.heap.size w8 u) => l1 u (hSw.trans (h.mono hSw.size))
  have p2 := fun u (h : Below w8.heap.size w8 u) => l2 u (hSw.trans (h.mono hSw.size))
  have p3 := fun u (h : Below w8.heap.size w8 u) => l3 u (hSw.trans (h.mono hSw.size))
  have p4 := fun u (h : Below w8.heap.size w8 u) => l4 u (hSw.trans (h.mono hSw.size))
  have r0 := fun u (h : Below w8.heap.size w8 u) => n0 u (hSw.trans (h.mono hSw.size))
  have r1 := fun u (h : Below w8.heap.size w8 u) => n1 u (hSw.trans (h.mono hSw.size))
  have r2 := fun u (h : Below w8.heap.size w8 u) => n2 u (hSw.trans (h.mono hSw.size))
  have r3 := fun u (h : Below w8.heap.size w8 u) => n3 u (hSw.trans (h.mono hSw.size))
  have r4 := fun u (h : Below w8.heap.size w8 u) => n4 u (hSw.trans (h.mono hSw.size))
  clear l0 l1 l2 l3 l4 n0 n1 n2 n3 n4
  refine lexS_stir (Below w8.heap.size w8) (fun y hy => hSw.trans (hy.mono hSw.size)) (Below.refl _ _) ?_
  clear hSw
  iterate 6
    refine stir_step (fun K hK => ?_)
    simp only [stirOp, List.getElem?_toArray, List.getElem?_cons_succ, List.getElem?_cons_zero]
    rw [if_pos (by rfl)]
    apply Exists.intro
    refine ⟨fun w' hS' => ?_, ?_⟩
    · first | (go_simp <;> with_reducible rfl) | (go_simp; go_bits; with_reducible rfl)
    go_simp
    try go_bits
    refine hK _ ?_
    clear hK K
  refine stir_step (fun K hK => ?_)
  simp only [stirOp, List.getElem?_toArray, List.getElem?_cons_succ, List.getElem?_cons_zero]
  rw [if_pos (by rfl)]
  apply Exists.intro
  refine ⟨fun w' hS' => ?_, ?_⟩
  · go_simp
    exact Stirs.call (Calls.mono ((HXA.out w' hS')) fun e w'' h => ⟨h.1, (fun hb'' => hS'.trans (hb''.mono hS'.size)) h.2⟩)
  go_simp
  refine hK _ ?_
  clear hK K
  iterate 2
    refine stir_step (fun K hK => ?_)
    simp only [stirOp, List.getElem?_toArray, List.getElem?_cons_succ, List.getElem?_cons_zero]
    rw [if_pos (by rfl)]
    apply Exists.intro
    refine ⟨fun w' hS' => ?_, ?_⟩
    · first | (go_simp <;> with_reducible rfl) | (go_simp; go_bits; with_reducible rfl)
    go_simp
    try go_bits
    refine hK _ ?_
    clear hK K
  refine stir_nil (fun u hu => ?_)
  clear p0 p1 p2 p3 p4 r0 r1 r2 r3 r4 cv8
  go_wp2_with fail
  go_ret
  exact ⟨rfl, HB8.out.trans (hu.mono HB8.out.size)⟩
end Go.Proofs.Ytnfhiakdbakpgaa
/- klass: KlassCuts (printed by gen/kllaw.py). No condition. -/
namespace Go.Proofs.Ytnfhiakdbakpgaa
open Go.ChangeShapes Go.WideShapes Go.ChangeAt Go.RowKit
set_option maxRecDepth 100000 in
set_option maxHeartbeats 32000000 in
theorem walk_KlassCutsX (f : KF) (ct : Nat) (hct : ct ≤ 65535) (a : Option Addr) (n cap : Nat) (ms : List UInt8) (w : World) (h0 : IsFile w f) (hms : Sl encB w a n ms) :
    Calls Try.prog 5 #[.agg f.vals, .int .u16 (ct : Nat), .slice a n cap] w fun e w' => e = .returned (.bool true) ∧ Below w.heap.size w w' := by
  obtain ⟨hr, hbig, hnum, hfl, hmf⟩ := h0
  have HX := Lib.hid hr
  have HBG := Lib.hid hbig
  have HNM := Lib.hid hnum
  have HFL := Lib.hid hfl
  have HMF := Lib.hid hmf
  have HMS := Lib.hid hms
  have HMN := Lib.hid hms.1
  clear hr hbig hnum hfl hmf hms
  obtain ⟨pa, pn, pc, pool, th, su, fa, fn, fc, fields, ma, mn, mc, methods⟩ := f
  unfold KF.vals
  dsimp only
  have hal0 := below_1 w (.cells #[.slice pa pn pc, .int .i64 th, .int .i64 su, .slice fa fn fc, .slice ma mn mc] 26)
  have HT0 := Lib.hid (heap_alloc_last w (.cells #[.slice pa pn pc, .int .i64 th, .int .i64 su, .slice fa fn fc, .slice ma mn mc] 26))
  have HB0 := Lib.hid hal0
  clear hal0
  go_enter Try.func5, Try.ntmps5
  go_upto_region 1 with fail
  generalize w.alloc (.cells #[.slice pa pn pc, .int .i64 th, .int .i64 su, .slice fa fn fc, .slice ma mn mc] 26) = w0 at *
  obtain ⟨bf, hbf⟩ : ∃ b, b = w.heap.size := ⟨_, rfl⟩
  rw [← hbf] at HT0 ⊢
  clear hbf
  have HFX := Lib.hid (fixed14 w0)
  go_wp2_with fail
  refine HFX.out.mono ?_
  rintro e w1 ⟨rfl, hb1⟩
  have HB1 := Lib.hid (HB0.out.trans (hb1.mono HB0.out.size))
  have HT1 := Lib.hid (row_below HT0.out hb1)
  clear hb1 HFX HT0 HB0
  have k0 := row_cell HT1.out 0 rfl
  have k1 := row_cell HT1.out 1 rfl
  have k2 := row_cell HT1.out 2 rfl
  have k3 := row_cell HT1.out 3 rfl
  have k4 := row_cell HT1.out 4 rfl
  dsimp at k0 k1 k2 k3 k4
  have HFW := Lib.hid (kfew_any w1 _ (HX.out.below HB1.out) HBG.out)
  unfold KF.vals at HFW
  dsimp only at HFW
  go_wp2_with fail
  refine HFW.out.mono ?_
  rintro e w2 ⟨bw, rfl, hb2, hfw⟩
  have HB2 := Lib.hid (HB1.out.trans (hb2.mono HB1.out.size))
  have HT2 := Lib.hid (row_below HT1.out hb2)
  have HFEW := Lib.hid hfw
  clear hb2 hfw HFW HT1 HB1 k0 k1 k2 k3 k4
  cases bw with
  | false =>
    go_wp2_with fail
    go_ret
    exact ⟨rfl, HB2.out⟩
  | true =>
  have HFP := Lib.hid (HFEW.out rfl)
  have HFIT := Lib.hid (HFP.out.fit HX.out HFL.out HMF.out)
  have HSML := Lib.hid (HFP.out.sml HX.out)
  have HBND := Lib.hid (few_bound w _ HX.out (by have h1 := HFP.out.1; have h2 := HX.out.pool.1; dsimp only at h1 h2 ⊢; omega) HFP.out.2.2.2.1 HFP.out.2.1 HFP.out.2.2.1 HFP.out.2.2.2.2)
  clear HFEW
  have k0 := row_cell HT2.out 0 rfl
  have k1 := row_cell HT2.out 1 rfl
  have k2 := row_cell HT2.out 2 rfl
  have k3 := row_cell HT2.out 3 rfl
  have k4 := row_cell HT2.out 4 rfl
  dsimp at k0 k1 k2 k3 k4
  have HRI := rRight_any w2 _ (HX.out.below HB2.out) HFIT.out.pn HFIT.out.ps HBG.out
  obtain ⟨ck, hck⟩ : ∃ ck, ck = classOk (⟨pa, pn, pc, pool, th, su, fa, fn, fc, fields, ma, mn, mc, methods⟩ : KF) := ⟨_, rfl⟩
  rw [← hck] at HRI
  have HCK := Lib.hid hck.symm
  unfold KF.vals at HRI
  dsimp only at HRI
  replace HRI := Lib.hid HRI
  clear hck
  go_wp2_with fail
  refine HRI.out.mono ?_
  rintro e w3 ⟨rfl, hb3⟩
  have HB3 := Lib.hid (HB2.out.trans (hb3.mono HB2.out.size))
  have HT3 := Lib.hid (row_below HT2.out hb3)
  clear hb3 HRI HT2 HB2 k0 k1 k2 k3 k4
  have k0 := row_cell HT3.out 0 rfl
  have k1 := row_cell HT3.out 1 rfl
  have k2 := row_cell HT3.out 2 rfl
  have k3 := row_cell HT3.out 3 rfl
  have k4 := row_cell HT3.out 4 rfl
  dsimp at k0 k1 k2 k3 k4
  cases ck with
  | false =>
    go_wp2_with fail
    go_ret
    exact ⟨rfl, HB3.out⟩
  | true =>
  by_cases h1 : 100 < n
  · have e1 : decide ((100 : Int) < n) = true := by simp; omega
    go_wp2_with fail
    go_ret
    exact ⟨rfl, HB3.out⟩
  have e1 : decide ((100 : Int) < n) = false := by simp; omega
  by_cases h2 : n = 0
  · have e2 : ((n : Int) == 0) = true := by simp [h2]
    clear h2
    go_wp2_with fail
    go_ret
    exact ⟨rfl, HB3.out⟩
  have e2 : ((n : Int) == 0) = false := by simp [h2]
  have hn100 : n ≤ 100 := by omega
  have HN0 := Lib.hid (show ms ≠ [] from fun e => h2 (by rw [← HMN.out, e]; rfl))
  clear h1 h2
  have HRB := Lib.hid (rBytes_any w3 _ (HX.out.below HB3.out) HFIT.out.pn HFIT.out.ps ((classOk_iff _).1 HCK.out).1 (by have := HBND.out; omega))
  unfold KF.vals at HRB
  dsimp only at HRB
  have HL0 := Lib.hid (classB_len (⟨pa, pn, pc, pool, th, su, fa, fn, fc, fields, ma, mn, mc, methods⟩ : KF))
  have HCU := Lib.hid (parseF_cut _ HCK.out (by have := HBND.out; omega) HNM.out)
  have HMO := Lib.hid (parseF_more _ HCK.out (by have := HBND.out; omega) HNM.out ms HN0.out)
  obtain ⟨bs, hbs⟩ : ∃ bs, bs = classB (⟨pa, pn, pc, pool, th, su, fa, fn, fc, fields, ma, mn, mc, methods⟩ : KF) := ⟨_, rfl⟩
  rw [← hbs] at HRB HL0 HCU HMO HBND
  clear hbs
  go_wp2_with fail
  refine HRB.out.mono ?_
  rintro e w4 ⟨v4, L, rfl, ho4, hb4⟩
  obtain ⟨a4, c4, rfl, hs4, hc4⟩ := Sl.ofOwn ho4
  have HLL := Lib.hid (own_lenB ho4)
  have HS4 := Lib.hid hs4
  have HB4 := Lib.hid (HB3.out.trans (hb4.mono HB3.out.size))
  have hL : L ≤ 60000 := by have h1 := HLL.out; have h2 := HBND.out; omega
  have hL0 : 0 < L := by have h1 := HLL.out; have h2 := HL0.out; omega
  clear hs4 ho4 hb4 HRB HT3 HB3 k0 k1 k2 k3 k4
  obtain ⟨q, hq⟩ : ∃ q, q = ct % L := ⟨_, rfl⟩
  have hqL : q < L := by rw [hq]; exact Nat.mod_lt _ hL0
  have eq1 : ((ct : Nat) : Int).tmod (L : Int) = (q : Int) := by rw [hq]; rfl
  have em : ((L : Int) == 0) = false := by simp; omega
  have hqk : (q : Int) ≤ c4 := by omega
  have HQ := Lib.hid (HCU.out q (by have := HLL.out; omega))
  have HPA := Lib.hid (KParse_any w4 a4 q c4 (bs.take q) (HS4.out.take (by omega)) (by omega) (by omega))
  obtain ⟨R1, hR1⟩ : ∃ R1, R1 = parseF (bs.take q) := ⟨_, rfl⟩
  rw [← hR1] at HQ HPA
  obtain ⟨r1, z1⟩ := R1
  dsimp only at HQ
  have hz1 : (z1 != 0) = true := by simpa using HQ.out
  clear hq hR1 HCU HQ
  go_wp2_with fail
  refine HPA.out.mono ?_
  rintro e w5 ⟨x, -, rfl, -, -, hb5⟩
  dsimp only
  have HS5 := Lib.hid (HS4.out.below hb5)
  have HB5 := Lib.hid (HB4.out.trans (hb5.mono HB4.out.size))
  clear hb5 HPA HS4 HB4
  obtain ⟨xa, xn, xc, xpool, xth, xsu, xfa, xfn, xfc, xfields, xma, xmn, xmc, xmethods⟩ := x
  unfold KF.vals
  dsimp only
  go_upto_region 7 with fail
  have hal := below_1 w5 (.cells #[.slice xa xn xc, .int .i64 xth, .int .i64 xsu, .slice xfa xfn xfc, .slice xma xmn xmc] 26)
  have HS6 := Lib.hid (HS5.out.below hal)
  have HB6 := Lib.hid (HB5.out.trans (hal.mono HB5.out.size))
  clear hal HS5 HB5
  generalize w5.alloc (.cells #[.slice xa xn xc, .int .i64 xth, .int .i64 xsu, .slice xfa xfn xfc, .slice xma xmn xmc] 26) = w6 at *
  generalize w5.heap.size = b5 at *
  have HE0 := Lib.hid (own_empty w6 w6.heap.size 5 (Nat.le_refl _))
  have HBE := Lib.hid (below_1 w6 (.cells #[] 5))
  have HMS6 := Lib.hid (HMS.out.below HB6.out)
  go_wp2_with (at_builtin; first
    | (refine wpList_app1 oneN rfl _ _ _ rfl w6.heap.size _ 0 _ rfl HE0.out _ L _ rfl ((HS6.out.below HBE.out).src encB_cell Try.underlying29 c4) (by omega) (by unfold maxLen; omega) HBE.out.size ?_; intro v7 w7 hown7 _ hb7; rw [List.map_nil, List.nil_append, Nat.zero_add] at hown7; obtain ⟨a7, c7, rfl, _, _⟩ := Sl.ofOwn hown7; have HO7 := Lib.hid hown7; have HB7 := Lib.hid (HBE.out.trans hb7); clear hown7 hb7 HE0)
    | (refine wpList_app1 oneN rfl _ _ _ rfl w6.heap.size _ L _ rfl HO7.out _ n _ rfl ((HMS6.out.below HB7.out).src encB_cell Try.underlying29 cap) (by omega) (by unfold maxLen; omega) HB7.out.size ?_; intro v8 w8 hown8 _ hb8; rw [← List.map_append] at hown8; obtain ⟨a8, c8, rfl, hs8, hc8⟩ := Sl.ofOwn hown8; have HS8 := Lib.hid hs8; have HB8 := Lib.hid (HB6.out.trans ((HB7.out.trans hb8).mono HB6.out.size)); clear hown8 hb8 hs8))
  refine (KParse_any _ a8 (L + n) c8 (bs ++ ms) HS8.out (by omega) hc8).mono ?_
  obtain ⟨R2, hR2⟩ : ∃ R2, R2 = parseF (bs ++ ms) := ⟨_, rfl⟩
  rw [← hR2] at HMO ⊢
  obtain ⟨r2, z2⟩ := R2
  have hz2 : (z2 != 0) = true := by simpa using HMO.out
  clear hR2
  rintro e w9 ⟨x, -, rfl, -, -, hb9⟩
  dsimp only
  have HB9 := Lib.hid (HB8.out.trans (hb9.mono HB8.out.size))
  clear hb9
  obtain ⟨ya, yn, yc, ypool, yth, ysu, yfa, yfn, yfc, yfields, yma, ymn, ymc, ymethods⟩ := x
  unfold KF.vals
  dsimp only
  have hal := below_1 w9 (.cells #[.slice ya yn yc, .int .i64 yth, .int .i64 ysu, .slice yfa yfn yfc, .slice yma ymn ymc] 26)
  have HB10 := Lib.hid (HB9.out.trans (hal.mono HB9.out.size))
  clear hal
  go_wp2_with fail
  go_ret
  exact ⟨rfl, HB10.out⟩
theorem walk_KlassCuts (f : KF) (cut : Int) (a : Option Addr) (n cap : Nat) (z : List Int) (w : World) (h0 : IsFile w f) (h1 : (Lit.int .u16 cut).wf = true) (h2 : IsRow .u8 w a n cap z) :
    Calls Try.prog 5 #[.agg f.vals, .int .u16 cut, .slice a n cap] w fun e w' => e = .returned (.bool true) ∧ Below w.heap.size w w' := by
  obtain ⟨ms, hms, _, _⟩ := row_slK h2
  have hr : 0 ≤ cut ∧ cut ≤ 65535 := by
    unfold Lit.wf at h1
    simp only [Bool.and_eq_true, decide_eq_true_eq] at h1
    exact h1
  obtain ⟨ct, rfl⟩ : ∃ k : Nat, cut = (k : Int) := ⟨cut.toNat, by omega⟩
  exact walk_KlassCutsX f ct (by omega) a n cap ms w h0 hms
end Go.Proofs.Ytnfhiakdbakpgaa
