/- image: what is few makes few bytes, in plain Lean. No condition. -/
import Derived.Test.YtbcldlbmbdfejaaQ20ImageBytes
import Derived.Test.YtbcldlbmbdfejaaQ19ImageBytes
import Derived.Test.YtbcldlbmbdfejaaQ16ImageBytes
namespace Go.Proofs.Ytbcldlbmbdfejaa
open Go.ChangeShapes Go.WideShapes Go.ChangeAt Go.RowKit
theorem classes_le (l : List CW) (h : ∀ c ∈ l, c.refs.length = c.rn ∧ c.table.length = c.tn) : (l.flatMap CW.bytes).length ≤ 60 * l.length + 50 * costC l := by
  induction l with
  | nil => simp
  | cons c l ih =>
    have h1 := h c (List.mem_cons_self ..)
    have h2 := ih fun y hy => h y (List.mem_cons_of_mem _ hy)
    rw [List.flatMap_cons, List.length_append, CW.bytes_len, intsB_len, intsB_len, h1.1, h1.2]
    have e : costC (c :: l) = (c.rn + c.tn + c.name.length / 50) + costC l := by unfold costC; simp
    rw [e, List.length_cons]
    omega
theorem methods_le (l : List MW) : (l.flatMap MW.bytes).length ≤ 110 * l.length + 50 * costM l := by
  induction l with
  | nil => simp
  | cons c l ih =>
    rw [List.flatMap_cons, List.length_append, MW.bytes_len]
    have e : costM (c :: l) = (c.name.length / 50 + c.desc.length / 50) + costM l := by unfold costM; simp
    rw [e, List.length_cons]
    omega
theorem texts_le (n : Nat) (hn : n ≤ 2) (l : List (List UInt8)) (h : ∀ t ∈ l, t.length ≤ 300) : (l.flatMap fun s => textB s n).length ≤ 302 * l.length := by
  induction l with
  | nil => simp
  | cons c l ih =>
    have h1 := h c (List.mem_cons_self ..)
    have h2 := ih fun y hy => h y (List.mem_cons_of_mem _ hy)
    rw [List.flatMap_cons, List.length_append, textB_len, List.length_cons]
    omega
theorem traps_le (l : List KW) (h : ∀ k ∈ l, k.traps.length ≤ 60) : sizeK l ≤ 494 * l.length := by
  induction l with
  | nil => simp [sizeK]
  | cons c l ih =>
    have h1 := h c (List.mem_cons_self ..)
    have h2 := ih fun y hy => h y (List.mem_cons_of_mem _ hy)
    have e : sizeK (c :: l) = (14 + 8 * c.traps.length) + sizeK l := by unfold sizeK; simp
    rw [e, List.length_cons]
    omega
theorem few_bound {w : World} {x : XW} (hx : x.Rd w) {F : List BV} {n : Nat} (h1 : Few25P x) (h2 : SmallP F n) : x.ks.length = x.ms.length → F.length = x.ks.length → startX x + lensL (F.map (·.data)) ≤ 1000000 := by
  intro hm _
  obtain ⟨f1, f2, f3, f4, f5, f6, f7⟩ := h1
  obtain ⟨g1, g2⟩ := h2
  have hkl := hx.k.1
  have hml := hx.m.1
  have hcl := hx.c.1
  have hsl := hx.s.1
  have hyl := hx.y.1
  have hxl := hx.tx.1
  have hf := f1 (by omega)
  have b1 := classes_le x.cs fun c hc => ⟨(hx.cr c hc).r.1, (hx.cr c hc).t.1⟩
  have b2 := methods_le x.ms
  have b3 := texts_le 1 (by omega) x.ys f5
  have b4 := texts_le 2 (by omega) x.xs f6
  have b5 := traps_le x.ks fun k hk => by rw [(hx.kr k hk).t.1]; exact f7 k hk
  have b6 := intsB_len x.ss
  unfold startX tabB
  simp only [List.length_append, putB_length, rowB_len]
  have b7 : magicB.length = 4 := rfl
  omega
end Go.Proofs.Ytbcldlbmbdfejaa
/- image: no beginning of an image's bytes is one, nor they with more behind; in plain Lean. No condition. -/
namespace Go.Proofs.Ytbcldlbmbdfejaa
open Go.ChangeShapes Go.WideShapes Go.ChangeAt Go.RowKit
/-- What ends well reads the same with more behind. -/
def Mono {α : Type} (R : List UInt8 → RM α) : Prop := ∀ (bs t : List UInt8) (s : St), (R bs s).2.2 = 0 → s.2 = 0 ∧ R (bs ++ t) s = R bs s
theorem Mono.pure {α : Type} (v : α) : Mono (fun _ => pureR v) := fun bs t s h => ⟨h, rfl⟩
theorem Mono.bind {α β : Type} {R : List UInt8 → RM α} {G : List UInt8 → α → RM β} (h1 : Mono R) (h2 : ∀ v, Mono (fun bs => G bs v)) : Mono (fun bs => bindR (R bs) (G bs)) := by
  intro bs t s h
  have h : (G bs (R bs s).1 (R bs s).2).2.2 = 0 := h
  obtain ⟨e1, e2⟩ := h2 _ bs t _ h
  obtain ⟨e3, e4⟩ := h1 bs t s e1
  refine ⟨e3, ?_⟩
  show G (bs ++ t) (R (bs ++ t) s).1 (R (bs ++ t) s).2 = G bs (R bs s).1 (R bs s).2
  rw [e4]
  exact e2
theorem getS_in (b : List UInt8) (n : Nat) (s : St) (h : s.2 = 0) : getS b n s = ((getR b s.1 n).1, (s.1 + n, (getR b s.1 n).2)) := by
  unfold getS
  rw [if_neg (by omega)]
theorem getR_in (b : List UInt8) (p n : Nat) (h1 : 1 ≤ n) (h8 : n ≤ 8) (hp : p + n ≤ b.length) : getR b p n = (((getN ((b.drop p).take n) : Nat) : Int), 0) := by
  unfold getR
  rw [if_neg (by omega), if_neg (by omega)]
  rfl
theorem Mono.get (n : Nat) (h1 : 1 ≤ n) (h8 : n ≤ 8) : Mono (fun bs => getS bs n) := by
  intro bs t s h
  simp only at h ⊢
  by_cases h0 : s.2 = 0
  · refine ⟨h0, ?_⟩
    rw [getS_in bs n s h0] at h
    simp only at h
    have hp : s.1 + n ≤ bs.length := by
      rcases getR_err bs s.1 n h1 h8 with ⟨_, hp⟩ | ⟨e, _⟩
      · exact hp
      · rw [e] at h; omega
    have e : getR (bs ++ t) s.1 n = getR bs s.1 n := by
      rw [getR_in bs s.1 n h1 h8 hp, getR_in (bs ++ t) s.1 n h1 h8 (by rw [List.length_append]; omega), List.drop_append_of_le_length (by omega), List.take_append_of_le_length (by rw [List.length_drop]; omega)]
    rw [getS_in bs n s h0, getS_in (bs ++ t) n s h0, e]
  · exfalso
    unfold getS at h
    rw [if_pos h0] at h
    exact h0 h
theorem Mono.less : Mono lessS := by
  intro bs t s h
  obtain ⟨e1, e2⟩ := Mono.get 2 (by omega) (by omega) bs t s h
  simp only at e2
  exact ⟨e1, by unfold lessS; rw [e2]⟩
theorem textT_in (b : List UInt8) (v : Int) (s : St) (h : s.2 = 0) : Go.Proofs.Ytbcldlbmbdfejaa.textT b v s = if (b.length : Int) - s.1 < v then ([], (s.1, 6)) else ((b.drop s.1).take v.toNat, (s.1 + v.toNat, 0)) := by
  unfold Go.Proofs.Ytbcldlbmbdfejaa.textT
  rw [if_neg (by omega)]
theorem Mono.textT (v : Int) : Mono (fun bs => Go.Proofs.Ytbcldlbmbdfejaa.textT bs v) := by
  intro bs t s h
  simp only at h ⊢
  by_cases h0 : s.2 = 0
  · refine ⟨h0, ?_⟩
    rw [textT_in bs v s h0] at h
    rw [textT_in bs v s h0, textT_in (bs ++ t) v s h0]
    by_cases h1 : (bs.length : Int) - s.1 < v
    · rw [if_pos h1] at h
      simp at h
    · have h2 : ¬ ((bs ++ t).length : Int) - s.1 < v := by rw [List.length_append]; omega
      rw [if_neg h1, if_neg h2]
      by_cases hv : v ≤ 0
      · rw [show v.toNat = 0 by omega]
        rfl
      · rw [List.drop_append_of_le_length (by omega), List.take_append_of_le_length (by rw [List.length_drop]; omega)]
  · exfalso
    unfold Go.Proofs.Ytbcldlbmbdfejaa.textT at h
    rw [if_pos h0] at h
    exact h0 h
theorem Mono.text (n : Nat) (h1 : 1 ≤ n) (h8 : n ≤ 8) : Mono (fun bs => textS bs n) := Mono.bind (Mono.get n h1 h8) fun v => Mono.textT v
theorem Mono.stat (v : Int) : Mono (fun _ => statS v) := by
  intro bs t s h
  refine ⟨?_, rfl⟩
  simp only [statS] at h
  split at h
  · simp at h
  · exact h
theorem Mono.row {α : Type} {R : List UInt8 → RM α} (h1 : Mono R) (n : Nat) : Mono (fun bs => rowS (R bs) n) := by
  induction n with
  | zero => exact Mono.pure []
  | succ n ih =>
    intro bs t s h
    simp only [rowS] at h ⊢
    by_cases h0 : s.2 = 0
    · refine ⟨h0, ?_⟩
      rw [if_neg (by omega)] at h
      rw [if_neg (by omega), if_neg (by omega)]
      simp only at h
      obtain ⟨e1, e2⟩ := ih bs t _ h
      obtain ⟨_, e4⟩ := h1 bs t s e1
      simp only at e2
      rw [e4, e2]
    · rw [if_pos h0] at h
      exact absurd h h0
theorem Mono.many {α : Type} {R : List UInt8 → RM α} (h1 : Mono R) : Mono (fun bs => manyS bs (R bs)) := Mono.bind (Mono.get 2 (by omega) (by omega)) fun v => Mono.row h1 v.toNat
theorem Mono.ints : Mono (fun bs => manyS bs (getS bs 2)) := Mono.many (Mono.get 2 (by omega) (by omega))
theorem Mono.cls : Mono classS :=
  Mono.bind (Mono.text 1 (by omega) (by omega)) fun _ => Mono.bind Mono.less fun _ => Mono.bind (Mono.get 2 (by omega) (by omega)) fun _ => Mono.bind Mono.ints fun _ => Mono.bind Mono.ints fun _ => Mono.pure _
theorem Mono.meth : Mono methodS :=
  Mono.bind (Mono.get 2 (by omega) (by omega)) fun _ => Mono.bind (Mono.text 1 (by omega) (by omega)) fun _ => Mono.bind (Mono.text 1 (by omega) (by omega)) fun _ => Mono.bind (Mono.get 1 (by omega) (by omega)) fun v => Mono.bind (Mono.stat v) fun _ => Mono.bind Mono.less fun _ => Mono.bind Mono.less fun _ => Mono.pure _
theorem Mono.trap : Mono trapS :=
  Mono.bind (Mono.get 2 (by omega) (by omega)) fun _ => Mono.bind (Mono.get 2 (by omega) (by omega)) fun _ => Mono.bind (Mono.get 2 (by omega) (by omega)) fun _ => Mono.bind Mono.less fun _ => Mono.pure _
theorem Mono.code : Mono codeS :=
  Mono.bind (Mono.get 4 (by omega) (by omega)) fun _ => Mono.bind (Mono.get 2 (by omega) (by omega)) fun _ => Mono.bind (Mono.get 2 (by omega) (by omega)) fun _ => Mono.bind (Mono.get 2 (by omega) (by omega)) fun _ => Mono.bind (Mono.get 2 (by omega) (by omega)) fun _ => Mono.bind (Mono.many Mono.trap) fun _ => Mono.pure _
theorem Mono.image : Mono imageS :=
  Mono.bind (Mono.many Mono.cls) fun _ => Mono.bind (Mono.many Mono.meth) fun ms => Mono.bind (Mono.get 2 (by omega) (by omega)) fun _ => Mono.bind Mono.ints fun _ => Mono.bind (Mono.many (Mono.text 1 (by omega) (by omega))) fun _ => Mono.bind (Mono.many (Mono.text 2 (by omega) (by omega))) fun _ => Mono.bind (Mono.get 2 (by omega) (by omega)) fun _ => Mono.bind (Mono.row Mono.code ms.length) fun _ => Mono.pure _
theorem laid_fin (l : List KP) (pos f1 f2 : Int) (h1 : laidP l pos f1 = true) (h2 : laidP l pos f2 = true) : f1 = f2 := by
  induction l generalizing pos with
  | nil =>
    simp only [laidP, decide_eq_true_eq] at h1 h2
    omega
  | cons k l ih =>
    simp only [laidP] at h1 h2
    split at h1
    · simp at h1
    · rename_i hk
      rw [if_neg hk] at h2
      exact ih _ h1 h2
theorem parse_ok {bs : List UInt8} (h : (parseR bs).2 = 0) : (imageS bs (4, 0)).2.2 = 0 ∧ laidP (imageS bs (4, 0)).1.ks (imageS bs (4, 0)).2.1 bs.length = true := by
  unfold parseR at h
  split at h
  · simp at h
  split at h
  · simp at h
  split at h
  · rename_i h1
    exact absurd h h1
  · rename_i h1
    split at h
    · simp at h
    · rename_i h2
      exact ⟨by omega, by simpa using h2⟩
/-- Of two bytes of which one begins the other, only the same can both be images. -/
theorem parse_ext {bs t : List UInt8} (h1 : (parseR bs).2 = 0) (h2 : (parseR (bs ++ t)).2 = 0) : t = [] := by
  obtain ⟨e1, e2⟩ := parse_ok h1
  obtain ⟨e3, e4⟩ := parse_ok h2
  obtain ⟨_, e5⟩ := Mono.image bs t (4, 0) e1
  rw [e5] at e4
  have := laid_fin _ _ _ _ e2 e4
  rw [List.length_append] at this
  exact List.eq_nil_of_length_eq_zero (by omega)
theorem parse_cut {bs : List UInt8} (h : (parseR bs).2 = 0) (c : Nat) (hc : c < bs.length) : (parseR (bs.take c)).2 ≠ 0 := by
  intro h2
  have e : bs = bs.take c ++ bs.drop c := (List.take_append_drop c bs).symm
  rw [e] at h
  have := parse_ext h2 h
  have h3 : (bs.drop c).length = 0 := by rw [this]; rfl
  rw [List.length_drop] at h3
  omega
theorem parse_more {bs : List UInt8} (h : (parseR bs).2 = 0) (m : UInt8) : (parseR (bs ++ [m])).2 ≠ 0 := fun h2 => by
  have := parse_ext h h2
  simp at this
end Go.Proofs.Ytbcldlbmbdfejaa
/- image: ImageCuts. No condition. -/
namespace Go.Proofs.Ytbcldlbmbdfejaa
open Go.ChangeShapes Go.WideShapes Go.ChangeAt Go.RowKit
theorem XW.Rd.below {w w' : World} {x : XW} (hx : x.Rd w) (h : Below w.heap.size w w') : x.Rd w' := ⟨hx.c.below h, fun c hc => (hx.cr c hc).below h, hx.m.below h, hx.s.below h, hx.y.below h, hx.tx.below h, hx.k.below h, fun k hk => ⟨(hx.kr k hk).t.below h, (hx.kr k hk).tc⟩⟩
set_option maxRecDepth 100000 in
set_option maxHeartbeats 16000000 in
theorem walk_ImageCutsX (w : World) (x : XW) (hx : x.Rd w) (hr : x.Right) (hft : x.Fit) (a : Option Addr) (n cap : Nat) (hB : IsBss w a n cap) (cut more : Nat) (hcut : cut < 65536) (hmore : more < 256) :
    Calls Try.prog 4 #[.agg x.vals, .slice a n cap, .int .u16 cut, .int .u8 more] w fun e w' => e = .returned (.bool true) ∧ Below w.heap.size w w' := by
  obtain ⟨hcap, hmx, F, hF, hFF⟩ := hB
  have HF := Lib.hid hF
  have HFF := Lib.hid hFF
  have hn9 : n ≤ 9223372036854775807 := by unfold maxLen at hmx; omega
  clear hF hFF hmx
  have HC := Lib.hid (fun (w1 : World) (h : Below w.heap.size w w1) => few25_any w1 x (hx.below h) hr hft)
  have HS := Lib.hid (fun (w1 : World) (h : Below w.heap.size w w1) => small_any w1 a n cap F (HF.out.below h) hn9 fun f hf => (HFF.out f hf).below h)
  have HBY := Lib.hid (fun (w1 : World) (h : Below w.heap.size w w1) (h1 : Few25P x) (h2 : SmallP F n) => refBytes_any w1 x (hx.below h) hr a n cap F (HF.out.below h) (fun f hf => (HFF.out f hf).below h) (few_bound hx h1 h2))
  have HFX := Lib.hid (fun w1 => fixed25 w1)
  unfold QuietRet at HFX
  obtain ⟨R, hR⟩ : ∃ R, R = imgBytes x (F.map (·.data)) := ⟨_, rfl⟩
  rw [← hR] at HBY
  have HOK := Lib.hid (show R.1 = 0 → (parseR R.2).2 = 0 ∧ 0 < R.2.length from fun h => by
    have h2 : imgBytes x (F.map (·.data)) = (0, R.2) := by rw [← hR, ← h]
    obtain ⟨p1, p2, _, _, p5⟩ := parse_image h2
    refine ⟨by rw [p1], ?_⟩
    rw [p2, bytesX_body]
    simp only [List.length_append]
    have : magicB.length = 4 := rfl
    omega)
  obtain ⟨P1, hP1⟩ : ∃ P1, P1 = Few25P x := ⟨_, rfl⟩
  obtain ⟨P2, hP2⟩ : ∃ P2, P2 = SmallP F n := ⟨_, rfl⟩
  rw [← hP1, ← hP2] at HBY
  rw [← hP1] at HC
  rw [← hP2] at HS
  clear hP1 hP2 hR hx hr hft
  obtain ⟨ca, cn, cc, cs, ma, mn, mc, ms, st, sa, sn, sc, ss, ya, yn, yc, ys, xa, xn, xc, xs, ka, kn, kc, ks, main⟩ := x
  unfold XW.vals at *
  simp only at *
  have hal0 : Below w.heap.size w (w.alloc (.cells #[.slice ca cn cc, .slice ma mn mc, .int .i64 st, .slice sa sn sc, .slice ya yn yc, .slice xa xn xc, .slice ka kn kc, .int .i64 main] 30)) := (Below.refl _ _).alloc (Nat.le_refl _) _
  have HIB := Lib.hid (heap_alloc_last w (.cells #[.slice ca cn cc, .slice ma mn mc, .int .i64 st, .slice sa sn sc, .slice ya yn yc, .slice xa xn xc, .slice ka kn kc, .int .i64 main] 30))
  have HB1 := Lib.hid hal0
  clear hal0
  go_enter Try.func4, Try.ntmps4
  go_upto_region 1 with fail
  generalize w.alloc _ = W1 at *
  go_wp2_with fail
  refine (HFX.out W1).mono ?_
  rintro e' W2 ⟨rfl, hb⟩
  have HB2 := Lib.hid (HB1.out.trans (hb.mono HB1.out.size))
  have HI2 := Lib.hid (row_below HIB.out hb)
  clear hb HIB HB1 HFX
  have c0 := row_cell HI2.out 0 rfl
  have c1 := row_cell HI2.out 1 rfl
  have c2 := row_cell HI2.out 2 rfl
  have c3 := row_cell HI2.out 3 rfl
  have c4 := row_cell HI2.out 4 rfl
  have c5 := row_cell HI2.out 5 rfl
  have c6 := row_cell HI2.out 6 rfl
  have c7 := row_cell HI2.out 7 rfl
  go_wp2_with fail
  refine (HC.out W2 HB2.out).mono ?_
  rintro e' W3 ⟨b, rfl, hb, hp⟩
  have HB3 := Lib.hid (HB2.out.trans (hb.mono HB2.out.size))
  have HI3 := Lib.hid (row_below HI2.out hb)
  have HP1 := Lib.hid hp
  clear hb hp c0 c1 c2 c3 c4 c5 c6 c7 HI2 HB2 HC
  cases b with
  | false =>
    go_wp2_with fail
    go_ret
    exact ⟨rfl, HB3.out⟩
  | true =>
  go_wp2_with fail
  refine (HS.out W3 HB3.out).mono ?_
  rintro e' W4 ⟨b, rfl, rfl, hp⟩
  have HP2 := Lib.hid hp
  clear hp HS
  cases b with
  | false =>
    go_wp2_with fail
    go_ret
    exact ⟨rfl, HB3.out⟩
  | true =>
  have HR := Lib.hid (HBY.out W3 HB3.out (HP1.out trivial) (HP2.out rfl))
  clear HBY HP1 HP2
  have c0 := row_cell HI3.out 0 rfl
  have c1 := row_cell HI3.out 1 rfl
  have c2 := row_cell HI3.out 2 rfl
  have c3 := row_cell HI3.out 3 rfl
  have c4 := row_cell HI3.out 4 rfl
  have c5 := row_cell HI3.out 5 rfl
  have c6 := row_cell HI3.out 6 rfl
  have c7 := row_cell HI3.out 7 rfl
  go_wp2_with fail
  refine HR.out.mono ?_
  rintro e' W5 ⟨a1, m1, k1, rfl, hs1, hk1, hb⟩
  have HB5 := Lib.hid (HB3.out.trans (hb.mono HB3.out.size))
  have HS1 := Lib.hid hs1
  clear hb hs1 c0 c1 c2 c3 c4 c5 c6 c7 HI3 HB3 HR
  obtain ⟨er, bs⟩ := R
  simp only at HOK HS1
  by_cases her : er = 0
  case neg =>
    have ee : (er != 0) = true := by simpa using her
    clear her
    go_wp2_with fail
    go_ret
    exact ⟨rfl, HB5.out⟩
  subst her
  by_cases h5 : 5000 < m1
  · have ee : decide ((5000 : Int) < m1) = true := by simp; omega
    go_wp2_with fail
    go_ret
    exact ⟨rfl, HB5.out⟩
  have ee : decide ((5000 : Int) < m1) = false := by simp; omega
  have h5k : m1 ≤ 5000 := by omega
  clear h5
  have hok := HOK.out rfl
  have hm1 := HS1.out.1
  have hmp : 0 < m1 := by omega
  obtain ⟨q, hq⟩ : ∃ q, q = cut % m1 := ⟨_, rfl⟩
  have hqm : q < m1 := by rw [hq]; exact Nat.mod_lt _ hmp
  have eq1 : ((cut : Nat) : Int).tmod (m1 : Int) = (q : Int) := by rw [hq]; rfl
  have HQ1 := Lib.hid (parse_cut hok.1 q (by omega))
  have HQ2 := Lib.hid (parse_more hok.1 (UInt8.ofNat more))
  have HPA := Lib.hid (Parse_any W5 a1 q k1 (bs.take q) (HS1.out.take (by omega)) (by omega) (by omega))
  have em : ((m1 : Int) == 0) = false := by simp; omega
  have hqk : (q : Int) ≤ k1 := by omega
  clear hok hm1 hq HOK
  generalize hr1 : parseR (bs.take q) = r1 at HPA HQ1
  obtain ⟨y1, z1⟩ := r1
  clear hr1
  unfold ParseRet at HPA
  simp only at HPA HQ1
  go_wp2_with fail
  refine HPA.out.mono ?_
  rintro e' W6 ⟨y, rfl, hyp, hyr, hb⟩
  have HB6 := Lib.hid (HB5.out.trans (hb.mono HB5.out.size))
  have HS6 := Lib.hid (HS1.out.below hb)
  clear hb hyp hyr HPA HS1 HB5 HF HFF
  obtain ⟨ca1, cn1, cc1, cs1, ma1, mn1, mc1, ms1, st1, sa1, sn1, sc1, ss1, ya1, yn1, yc1, ys1, xa1, xn1, xc1, xs1, ka1, kn1, kc1, ks1, main1⟩ := y
  unfold XW.vals
  have hal : Below W6.heap.size W6 (W6.alloc (.cells #[.slice ca1 cn1 cc1, .slice ma1 mn1 mc1, .int .i64 st1, .slice sa1 sn1 sc1, .slice ya1 yn1 yc1, .slice xa1 xn1 xc1, .slice ka1 kn1 kc1, .int .i64 main1] 30)) := (Below.refl _ _).alloc (Nat.le_refl _) _
  have HB7 := Lib.hid (HB6.out.trans (hal.mono HB6.out.size))
  have HS7 := Lib.hid (HS6.out.below hal)
  clear hal HB6 HS6
  go_upto_region 9 with fail
  generalize W6.alloc _ = W7 at *
  generalize W6.heap.size = g6 at *
  have hz1 : (z1 != 0) = true := by simpa using HQ1.out
  have HE0 := Lib.hid (own_empty W7 W7.heap.size 5 (Nat.le_refl _))
  have HBE := Lib.hid ((Below.refl W7.heap.size W7).alloc (Nat.le_refl _) (.cells #[] 5))
  have HME := Lib.hid (encB_natI more (by omega))
  go_wp2_with (at_builtin; first
    | (refine wpList_app1 oneN rfl _ _ _ rfl W7.heap.size _ 0 _ rfl HE0.out _ m1 _ rfl ((HS7.out.below HBE.out).src encB_cell Try.underlying35 k1) (by omega) (by unfold maxLen; omega) HBE.out.size ?_; intro v5 w5 hown5 _ hb5; rw [List.map_nil, List.nil_append, Nat.zero_add] at hown5; obtain ⟨a5, c5, rfl, _, _⟩ := Sl.ofOwn hown5; have HO5 := Lib.hid hown5; have HB5 := Lib.hid (HB7.out.trans ((HBE.out.trans hb5).mono HB7.out.size)); have HB45 := Lib.hid (HBE.out.trans hb5); clear hown5 hb5)
    | (refine wpList_app_lit2 oneN rfl _ _ rfl W7.heap.size _ m1 _ rfl HO5.out _ 1 _ _ rfl (by simp) rfl rfl (by omega) (by unfold maxLen; omega) HB45.out.size ?_; intro v6 w6 hown6 _ hb6; obtain ⟨a6, c6, rfl, hs6, hc6⟩ := Sl.ofOwn (xs := bs ++ [UInt8.ofNat more]) (by rw [List.map_append]; rw [HME.out] at hown6; exact hown6); have HS6 := Lib.hid hs6; have HB6 := Lib.hid (HB5.out.trans (hb6.mono HB7.out.size)); clear hown6 hb6 hs6))
  have hb9 : m1 + 1 ≤ 1048500 := by omega
  refine (Parse_any _ a6 (m1 + 1) c6 (bs ++ [UInt8.ofNat more]) HS6.out hc6 hb9).mono ?_
  rintro e w7 ⟨y2, rfl, _, _, hb7⟩
  have HB8 := Lib.hid (HB6.out.trans (hb7.mono HB6.out.size))
  have hz2 : ((parseR (bs ++ [UInt8.ofNat more])).2 != 0) = true := by simpa using HQ2.out
  generalize (parseR (bs ++ [UInt8.ofNat more])).2 = z2 at *
  clear hb7
  unfold XW.vals
  have hal : Below w7.heap.size w7 (w7.alloc (.cells #[.slice y2.ca y2.cn y2.cc, .slice y2.ma y2.mn y2.mc, .int .i64 y2.st, .slice y2.sa y2.sn y2.sc, .slice y2.ya y2.yn y2.yc, .slice y2.xa y2.xn y2.xc, .slice y2.ka y2.kn y2.kc, .int .i64 y2.main] 30)) := (Below.refl _ _).alloc (Nat.le_refl _) _
  have HB9 := Lib.hid (HB8.out.trans (hal.mono HB8.out.size))
  clear hal
  go_wp2_with fail
  go_ret
  exact ⟨rfl, HB9.out⟩
end Go.Proofs.Ytbcldlbmbdfejaa
/- image: where the codes stand, in plain Lean. No condition. -/
namespace Go.Proofs.Ytbcldlbmbdfejaa
open Go.ChangeShapes Go.WideShapes Go.ChangeAt Go.RowKit
def codeAt (bs : List UInt8) (k : KP) : List UInt8 := (bs.drop k.pos.toNat).take k.len.toNat
def codeIn (bs : List UInt8) (k : KP) : Prop := 0 ≤ k.pos ∧ 0 ≤ k.len ∧ k.pos ≤ bs.length ∧ k.len ≤ bs.length - k.pos
theorem own_kpL (P : List (KW × List UInt8)) (pre : List UInt8) :
    (kpL (pre.length : Nat) P).map (codeAt (pre ++ (P.map (·.2)).flatten)) = P.map (·.2) ∧ ∀ k ∈ kpL (pre.length : Nat) P, codeIn (pre ++ (P.map (·.2)).flatten) k := by
  induction P generalizing pre with
  | nil => exact ⟨rfl, fun k hk => by cases hk⟩
  | cons p P ih =>
    have e := ih (pre ++ p.2)
    rw [List.append_assoc, List.length_append, Int.natCast_add] at e
    simp only [kpL, List.map_cons, List.flatten_cons]
    refine ⟨?_, fun k hk => ?_⟩
    · rw [e.1]
      congr 1
      unfold codeAt kpP hereI
      simp only [Int.toNat_natCast]
      split
      · rename_i h0
        rw [h0, List.take_zero, List.eq_nil_of_length_eq_zero h0]
      · rw [Int.toNat_natCast, List.drop_left, List.take_left]
    · rcases List.mem_cons.1 hk with rfl | h
      · unfold codeIn kpP hereI
        simp only [List.length_append]
        split <;> omega
      · exact e.2 k h
def KP.rest (k : KP) : Int × Int × Int × List TW := (k.stack, k.locals, k.args, k.traps)
theorem rest_kpL (P : List (KW × List UInt8)) (pos : Int) : (kpL pos P).map KP.rest = P.map fun p => p.1.p.rest := by
  induction P generalizing pos with
  | nil => rfl
  | cons p P ih => simp only [kpL, List.map_cons, ih]; rfl
theorem rest_readP (x : XW) (D : List (List UInt8)) (h : D.length = x.ks.length) : (readP x D).ks.map KP.rest = x.p.ks.map KP.rest := by
  show (kpL _ (x.ks.zip D)).map KP.rest = (x.ks.map KW.p).map KP.rest
  rw [rest_kpL, List.map_map]
  have e : (x.ks.zip D).map (fun p => p.1.p.rest) = ((x.ks.zip D).map (·.1)).map (fun k => k.p.rest) := by rw [List.map_map]; rfl
  rw [e, List.map_fst_zip (by omega)]
  rfl
end Go.Proofs.Ytbcldlbmbdfejaa
/- image: the same images. No condition. -/
namespace Go.Proofs.Ytbcldlbmbdfejaa
open Go.ChangeShapes Go.WideShapes Go.ChangeAt Go.RowKit
theorem trap_fields : Try.prog.underlying 71 = some (.struct (Try.prog.fieldsOf 71)) := by kernel_rfl
theorem trap_held : Try.prog.stoodInHeld 71 = false := by kernel_rfl
theorem trap_guard : Try.prog.eqGuardType Try.prog.depth 71 = false := by kernel_rfl
theorem trap_list : (Try.prog.fieldsOf 71).toList.map (fun f => (f.name, f.type, f.offset)) = [("From", 3, 0), ("To", 3, 1), ("At", 3, 2), ("Class", 3, 3)] := by kernel_rfl
theorem run_equalT (w : World) (d : Nat) (a b c e : Int) : (Op.equalIn (d + 1 + 1) 71 (.agg #[.int .i64 a, .int .i64 b, .int .i64 c, .int .i64 e]) (.agg #[.int .i64 a, .int .i64 b, .int .i64 c, .int .i64 e])).run Try.prog w = .ok true w := by
  rw [run_equalIn_struct w (d + 1) _ _ _ trap_fields trap_held]
  have hl := trap_list
  match hf : (Try.prog.fieldsOf 71).toList, hl with
  | [f0, f1, f2, f3], hl =>
    simp only [List.map_cons, List.map_nil, List.cons.injEq, Prod.mk.injEq, and_true] at hl
    obtain ⟨⟨n0, t0, o0⟩, ⟨n1, t1, o1⟩, ⟨n2, t2, o2⟩, ⟨n3, t3, o3⟩⟩ := hl
    simp only [Op.eqFields, n0, n1, n2, n3, t0, t1, t2, t3, o0, o1, o2, o3]
    have i0 : ∀ (i : Nat) (cs : Array Value) (w : World) (h : i < cs.size), (part 3 cs i).run Try.prog w = .ok cs[i] w := fun i cs w h => part_plain Try.underlying3 rfl w cs i _ (Array.getElem?_eq_getElem h)
    simp [i0, run_equalIn_int _ _ _ _ _ _ _ Try.underlying3]
  | [], hl | [_], hl | [_, _], hl | [_, _, _], hl | _ :: _ :: _ :: _ :: _ :: _, hl => simp at hl
theorem run_neqT (w : World) (a b c e : Int) (o1 o2 : Operand) : ((eqGuard .neq 71 o1 o2 (.agg #[.int .i64 a, .int .i64 b, .int .i64 c, .int .i64 e]) (.agg #[.int .i64 a, .int .i64 b, .int .i64 c, .int .i64 e])).run Try.prog w).andThen (fun _ w' => (binOp .neq 71 (.agg #[.int .i64 a, .int .i64 b, .int .i64 c, .int .i64 e]) (.agg #[.int .i64 a, .int .i64 b, .int .i64 c, .int .i64 e])).run Try.prog w') = .ok (.bool false) w := by
  have h := run_equalT w 9998 a b c e
  rw [run_eqGuard_agg w _ _ _ _ _ _ trap_guard, Result.andThen_ok, run_neq_struct, h, Result.andThen_ok]
  rfl
def KW.rest (k : KW) : Int × Int × Int × List TW := (k.stack, k.locals, k.args, k.traps)
/-- Two images that are the same but for the codes' places, neither too great. -/
structure SameX (x y : XW) : Prop where
  cs : x.cs.map CW.p = y.cs.map CW.p
  ms : x.ms = y.ms
  st : x.st = y.st
  ss : x.ss = y.ss
  ys : x.ys = y.ys
  xs : x.xs = y.xs
  main : x.main = y.main
  ks : x.ks.map KW.rest = y.ks.map KW.rest
  sn : x.sn ≤ 140737488355328
  cn : x.cn ≤ 140737488355328
  mn : x.mn ≤ 140737488355328
  cr : ∀ c ∈ x.cs, c.rn ≤ 140737488355328 ∧ c.tn ≤ 140737488355328
  yn : x.yn ≤ 140737488355328
  xn : x.xn ≤ 140737488355328
  kn : x.kn ≤ 140737488355328
  tn : ∀ k ∈ x.ks, k.tn ≤ 140737488355328
set_option maxRecDepth 100000 in
set_option maxHeartbeats 16000000 in
theorem same25_any (w : World) (x y : XW) (hx : x.Rd w) (hy : y.Rd w) (hs : SameX x y) :
    Calls Try.prog 14 #[.agg x.vals, .agg y.vals, .bool false] w fun e w' => e = .returned (.bool true) ∧ Below w.heap.size w w' := by
  have H24 := Lib.hid (fun (w1 : World) (h : Below w.heap.size w w1) => same24_any w1 x y (hx.below h) (hy.below h) hs.cs hs.ms hs.st hs.ss hs.sn hs.cn hs.mn hs.cr)
  have HTY := Lib.hid (fun (w1 : World) (h : Below w.heap.size w w1) => sameTexts_any w1 x.ya x.yn x.yc x.ys (hx.y.below h) y.ya y.yn y.yc y.ys (hy.y.below h) (by have := hs.yn; omega) (by have h1 := hx.y.1; have h2 := hy.y.1; rw [← hs.ys] at h2; have := hs.yn; omega))
  have HTX := Lib.hid (fun (w1 : World) (h : Below w.heap.size w w1) => sameTexts_any w1 x.xa x.xn x.xc x.xs (hx.tx.below h) y.xa y.xn y.xc y.xs (hy.tx.below h) (by have := hs.xn; omega) (by have h1 := hx.tx.1; have h2 := hy.tx.1; rw [← hs.xs] at h2; have := hs.xn; omega))
  rw [decide_eq_true hs.ys] at HTY
  rw [decide_eq_true hs.xs] at HTX
  have HX := Lib.hid hx
  have HY := Lib.hid hy
  have HKS := Lib.hid hs.ks
  have HTN := Lib.hid hs.tn
  have e1 : x.kn = y.kn := by have h1 := congrArg List.length hs.ks; rw [List.length_map, List.length_map] at h1; rw [← hy.k.1, ← hx.k.1, h1]
  have e2 := hs.main
  have hkb := hs.kn
  have HLK := Lib.hid hx.k.1
  clear hx hy hs
  obtain ⟨ca, cn, cc, cs, ma, mn, mc, ms, st, sa, sn, sc, ss, ya, yn, yc, ys, xa, xn, xc, xs, ka, kn, kc, ks, main⟩ := x
  obtain ⟨ca2, cn2, cc2, cs2, ma2, mn2, mc2, ms2, st2, sa2, sn2, sc2, ss2, ya2, yn2, yc2, ys2, xa2, xn2, xc2, xs2, ka2, kn2, kc2, ks2, main2⟩ := y
  simp only at e1 e2 hkb HLK HKS HTN H24 HTY HTX
  subst e1 e2
  unfold XW.vals
  simp only
  have hal1 : Below w.heap.size w (w.alloc (.cells #[.slice ca cn cc, .slice ma mn mc, .int .i64 st, .slice sa sn sc, .slice ya yn yc, .slice xa xn xc, .slice ka kn kc, .int .i64 main] 30)) := (Below.refl _ _).alloc (Nat.le_refl _) _
  have HI1 := Lib.hid (heap_alloc_last w (.cells #[.slice ca cn cc, .slice ma mn mc, .int .i64 st, .slice sa sn sc, .slice ya yn yc, .slice xa xn xc, .slice ka kn kc, .int .i64 main] 30))
  have hal2 : Below (w.alloc (.cells #[.slice ca cn cc, .slice ma mn mc, .int .i64 st, .slice sa sn sc, .slice ya yn yc, .slice xa xn xc, .slice ka kn kc, .int .i64 main] 30)).heap.size (w.alloc (.cells #[.slice ca cn cc, .slice ma mn mc, .int .i64 st, .slice sa sn sc, .slice ya yn yc, .slice xa xn xc, .slice ka kn kc, .int .i64 main] 30)) ((w.alloc (.cells #[.slice ca cn cc, .slice ma mn mc, .int .i64 st, .slice sa sn sc, .slice ya yn yc, .slice xa xn xc, .slice ka kn kc, .int .i64 main] 30)).alloc (.cells #[.slice ca2 cn2 cc2, .slice ma2 mn2 mc2, .int .i64 st2, .slice sa2 sn2 sc2, .slice ya2 yn2 yc2, .slice xa2 xn2 xc2, .slice ka2 kn kc2, .int .i64 main] 30)) := (Below.refl _ _).alloc (Nat.le_refl _) _
  have HI2 := Lib.hid (heap_alloc_last (w.alloc (.cells #[.slice ca cn cc, .slice ma mn mc, .int .i64 st, .slice sa sn sc, .slice ya yn yc, .slice xa xn xc, .slice ka kn kc, .int .i64 main] 30)) (.cells #[.slice ca2 cn2 cc2, .slice ma2 mn2 mc2, .int .i64 st2, .slice sa2 sn2 sc2, .slice ya2 yn2 yc2, .slice xa2 xn2 xc2, .slice ka2 kn kc2, .int .i64 main] 30))
  replace HI1 := Lib.hid (row_below HI1.out hal2)
  have HB2 := Lib.hid (hal1.trans (hal2.mono hal1.size))
  clear hal1 hal2
  go_enter Try.func14, Try.ntmps14
  rw [show (w.alloc (.cells #[.slice ca cn cc, .slice ma mn mc, .int .i64 st, .slice sa sn sc, .slice ya yn yc, .slice xa xn xc, .slice ka kn kc, .int .i64 main] 30)).heap.size = w.heap.size + 1 by simp] at HI2
  go_upto_region 1 with fail
  generalize hW : (w.alloc (.cells #[.slice ca cn cc, .slice ma mn mc, .int .i64 st, .slice sa sn sc, .slice ya yn yc, .slice xa xn xc, .slice ka kn kc, .int .i64 main] 30)).alloc (.cells #[.slice ca2 cn2 cc2, .slice ma2 mn2 mc2, .int .i64 st2, .slice sa2 sn2 sc2, .slice ya2 yn2 yc2, .slice xa2 xn2 xc2, .slice ka2 kn kc2, .int .i64 main] 30) = W2 at HI1 HI2 HB2 ⊢
  clear hW
  have c0 := row_cell HI1.out 0 rfl
  have c1 := row_cell HI1.out 1 rfl
  have c2 := row_cell HI1.out 2 rfl
  have c3 := row_cell HI1.out 3 rfl
  have d0 := row_cell HI2.out 0 rfl
  have d1 := row_cell HI2.out 1 rfl
  have d2 := row_cell HI2.out 2 rfl
  have d3 := row_cell HI2.out 3 rfl
  go_wp2_with fail
  refine (H24.out W2 HB2.out).mono ?_
  rintro e' W3 ⟨rfl, hb⟩
  have HB3 := Lib.hid (HB2.out.trans (hb.mono HB2.out.size))
  replace HI1 := Lib.hid (row_below HI1.out hb)
  replace HI2 := Lib.hid (row_below HI2.out hb)
  clear hb c0 c1 c2 c3 d0 d1 d2 d3 HB2 H24
  have c4 := row_cell HI1.out 4 rfl
  have d4 := row_cell HI2.out 4 rfl
  go_wp2_with fail
  refine (HTY.out W3 HB3.out).mono ?_
  rintro e' W4 ⟨rfl, hb⟩
  have HB4 := Lib.hid (HB3.out.trans (hb.mono HB3.out.size))
  replace HI1 := Lib.hid (row_below HI1.out hb)
  replace HI2 := Lib.hid (row_below HI2.out hb)
  clear hb c4 d4 HB3 HTY
  have c5 := row_cell HI1.out 5 rfl
  have d5 := row_cell HI2.out 5 rfl
  go_wp2_with fail
  refine (HTX.out W4 HB4.out).mono ?_
  rintro e' W5 ⟨rfl, hb⟩
  have HB5 := Lib.hid (HB4.out.trans (hb.mono HB4.out.size))
  replace HI1 := Lib.hid (row_below HI1.out hb)
  replace HI2 := Lib.hid (row_below HI2.out hb)
  clear hb c5 d5 HB4 HTX
  have c6 := row_cell HI1.out 6 rfl
  have c7 := row_cell HI1.out 7 rfl
  have d6 := row_cell HI2.out 6 rfl
  have d7 := row_cell HI2.out 7 rfl
  go_wp2_with fail
  go_loopg [52] kn (fun gn i wr => ∃ j : Nat, j ≤ kn ∧ gn = kn - j ∧ i = .int .i64 j ∧ Hid (Below W5.heap.size W5 wr))
  case atStart => exact ⟨0, by omega, by omega, by go_num, Lib.hid (Below.refl _ _)⟩
  case round =>
    clear c6 c7 d6 d7
    obtain ⟨j, hj, rfl, rfl, HB⟩ := hrel
    by_cases hlt : j < kn
    · have HBW := Lib.hid (HB5.out.trans (HB.out.mono HB5.out.size))
      obtain ⟨b1, off1, x, rfl, hb1, hxj, p⟩ := (HX.out.k.below HBW.out).get1 j hlt
      obtain ⟨b2, off2, y, rfl, hb2, hyj, q⟩ := (HY.out.k.below HBW.out).get1 j hlt
      have hxr := HX.out.kr x (List.mem_of_getElem? hxj)
      have hyr := HY.out.kr y (List.mem_of_getElem? hyj)
      have htn := HTN.out x (List.mem_of_getElem? hxj)
      have hpp := map_at HKS.out hxj hyj
      obtain ⟨pos, len, stack, locals, args, ta, tn, tc, traps⟩ := x
      obtain ⟨pos2, len2, stack2, locals2, args2, ta2, tn2, tc2, traps2⟩ := y
      simp only [KW.rest, Prod.mk.injEq] at hpp
      obtain ⟨rfl, rfl, rfl, rfl⟩ := hpp
      have HT1 := Lib.hid hxr.t
      have HT2 := Lib.hid hyr.t
      obtain rfl : tn = tn2 := by have h1 := hxr.t.1; have h2 := hyr.t.1; simp only at h1 h2; omega
      simp only at htn HT1 HT2
      have HTL := Lib.hid HT1.out.1
      have p0 := p 0 (by omega)
      have p1 := p 1 (by omega)
      have p2 := p 2 (by omega)
      have p3 := p 3 (by omega)
      have p4 := p 4 (by omega)
      have p5 := p 5 (by omega)
      have q0 := q 0 (by omega)
      have q1 := q 1 (by omega)
      have q2 := q 2 (by omega)
      have q3 := q 3 (by omega)
      have q4 := q 4 (by omega)
      have q5 := q 5 (by omega)
      simp only [KW.vals, List.getElem?_cons_zero, List.getElem?_cons_succ, Nat.add_zero] at p0 p1 p2 p3 p4 p5 q0 q1 q2 q3 q4 q5
      have HDB := Lib.hid (row_below HI2.out HB.out)
      clear p q hxj hyj hxr hyr
      go_upto_region 6 with fail
      have hal : Below wr.heap.size wr (wr.alloc (.cells #[.int .i64 pos, .int .i64 len, .int .i64 stack, .int .i64 locals, .int .i64 args, .slice ta tn tc] 62)) := (Below.refl _ _).alloc (Nat.le_refl _) _
      have HRA := Lib.hid (heap_alloc_last wr (.cells #[.int .i64 pos, .int .i64 len, .int .i64 stack, .int .i64 locals, .int .i64 args, .slice ta tn tc] 62))
      have HBA := Lib.hid (HB.out.trans (hal.mono HB.out.size))
      replace HDB := Lib.hid (row_below HDB.out hal)
      replace q0 := cellS_below hal q0
      replace q1 := cellS_below hal q1
      replace q2 := cellS_below hal q2
      replace q3 := cellS_below hal q3
      replace q4 := cellS_below hal q4
      replace q5 := cellS_below hal q5
      clear hal HB HBW p0 p1 p2 p3 p4 p5
      generalize wr.alloc (.cells #[.int .i64 pos, .int .i64 len, .int .i64 stack, .int .i64 locals, .int .i64 args, .slice ta tn tc] 62) = WA at *
      generalize wr.heap.size = gA at *
      have d6 := row_cell HDB.out 6 rfl
      go_upto_region 7 with fail
      have hal : Below WA.heap.size WA (WA.alloc (.cells #[.int .i64 pos2, .int .i64 len2, .int .i64 stack, .int .i64 locals, .int .i64 args, .slice ta2 tn tc2] 62)) := (Below.refl _ _).alloc (Nat.le_refl _) _
      have HRB := Lib.hid (heap_alloc_last WA (.cells #[.int .i64 pos2, .int .i64 len2, .int .i64 stack, .int .i64 locals, .int .i64 args, .slice ta2 tn tc2] 62))
      have HBB := Lib.hid (HBA.out.trans (hal.mono HBA.out.size))
      replace HRA := Lib.hid (row_below HRA.out hal)
      clear hal HBA HDB q0 q1 q2 q3 q4 q5 d6
      generalize WA.alloc (.cells #[.int .i64 pos2, .int .i64 len2, .int .i64 stack, .int .i64 locals, .int .i64 args, .slice ta2 tn tc2] 62) = WB at *
      generalize WA.heap.size = gB at *
      have a0 := row_cell HRA.out 0 rfl
      have a1 := row_cell HRA.out 1 rfl
      have a2 := row_cell HRA.out 2 rfl
      have a3 := row_cell HRA.out 3 rfl
      have a4 := row_cell HRA.out 4 rfl
      have a5 := row_cell HRA.out 5 rfl
      have b0 := row_cell HRB.out 0 rfl
      have bb1 := row_cell HRB.out 1 rfl
      have bb2 := row_cell HRB.out 2 rfl
      have b3 := row_cell HRB.out 3 rfl
      have b4 := row_cell HRB.out 4 rfl
      have b5 := row_cell HRB.out 5 rfl
      go_wp2_with fail
      go_loopg [110] tn (fun gn i wr => ∃ m : Nat, m ≤ tn ∧ gn = tn - m ∧ i = .int .i64 m ∧ Hid (Below WB.heap.size WB wr))
      case atStart => exact ⟨0, by omega, by omega, by go_num, Lib.hid (Below.refl _ _)⟩
      case round =>
        clear a0 a1 a2 a3 a4 a5 b0 bb1 bb2 b3 b4 b5
        obtain ⟨m, hm, rfl, rfl, HB⟩ := hrel
        by_cases hlm : m < tn
        · have HBX := Lib.hid (HB5.out.trans ((HBB.out.trans (HB.out.mono HBB.out.size)).mono HB5.out.size))
          obtain ⟨b1, off1, x, rfl, hb1, hxj, p⟩ := (HT1.out.below HBX.out).get1 m hlm
          obtain ⟨b2, off2, y, rfl, hb2, hyj, q⟩ := (HT2.out.below HBX.out).get1 m hlm
          obtain rfl : x = y := by rw [hxj] at hyj; exact Option.some.inj hyj
          obtain ⟨frm, upto, pos, cls⟩ := x
          have p0 := p 0 (by omega)
          have p1 := p 1 (by omega)
          have p2 := p 2 (by omega)
          have p3 := p 3 (by omega)
          have q0 := q 0 (by omega)
          have q1 := q 1 (by omega)
          have q2 := q 2 (by omega)
          have q3 := q 3 (by omega)
          simp only [TW.vals, List.getElem?_cons_zero, List.getElem?_cons_succ, Nat.add_zero] at p0 p1 p2 p3 q0 q1 q2 q3
          have d1 := row_cell (row_below HRA.out HB.out) 5 rfl
          have d2 := row_cell (row_below HRB.out HB.out) 5 rfl
          clear p q hxj hyj
          go_upto_region 12 with fail
          have hEQ : EqW wr.drew wr.drew := rfl
          have l0 := fun u (h : EqW wr.drew u) => eqw_cell h p0
          have l1 := fun u (h : EqW wr.drew u) => eqw_cell h p1
          have l2 := fun u (h : EqW wr.drew u) => eqw_cell h p2
          have l3 := fun u (h : EqW wr.drew u) => eqw_cell h p3
          have k0 := fun u (h : EqW wr.drew u) => eqw_cell h q0
          have k1 := fun u (h : EqW wr.drew u) => eqw_cell h q1
          have k2 := fun u (h : EqW wr.drew u) => eqw_cell h q2
          have k3 := fun u (h : EqW wr.drew u) => eqw_cell h q3
          have n1 := fun u (h : EqW wr.drew u) => eqw_cell h d1
          have n2 := fun u (h : EqW wr.drew u) => eqw_cell h d2
          have HNE := Lib.hid (fun u o1 o2 => run_neqT u frm upto pos cls o1 o2)
          clear p0 p1 p2 p3 q0 q1 q2 q3 d1 d2
          refine wp_region_lexS (EqW wr.drew) (.stir [(0, true), (1, true), (2, true), (3, true), (4, true), (5, true), (6, true), (7, true), (8, true), (9, true), (10, true)]) (by kernel_rfl) (by kernel_rfl) (fun c a d v w h => by cases d <;> exact h) ?_
          refine lexS_stir (EqW wr.drew) (fun y hy => hy) rfl ?_
          iterate 10
            refine stir_step (fun K hK => ?_)
            simp only [stirOp, List.getElem?_toArray, List.getElem?_cons_succ, List.getElem?_cons_zero]
            rw [if_pos (by rfl)]
            apply Exists.intro
            refine ⟨fun w' hS' => ?_, ?_⟩
            · first | (go_simp <;> with_reducible rfl) | (go_simp; go_bits; with_reducible rfl)
            go_simp
            try go_bits
            refine hK _ ?_
            clear hK K
          refine stir_step (fun K hK => ?_)
          simp only [stirOp, List.getElem?_toArray, List.getElem?_cons_succ, List.getElem?_cons_zero]
          rw [if_pos (by rfl)]
          refine ⟨Value.bool false, fun w' hS' => ?_, ?_⟩
          · exact run_exec_binL (by rfl) (HNE.out w' _ _)
          go_simp
          refine hK _ ?_
          clear hK K
          refine stir_nil (fun u hu => ?_)
          obtain rfl : u = wr.drew := hu
          clear l0 l1 l2 l3 k0 k1 k2 k3 n1 n2 HNE
          go_wp2_with fail
          go_roundg (tn - (m + 1))
          case measure => omega
          case rel => exact ⟨m + 1, by omega, rfl, by go_num, Lib.hid HB.out.drew⟩
        · obtain rfl : tn = m := by omega
          have HBE := Lib.hid (HBB.out.trans (HB.out.mono HBB.out.size))
          go_wp2_with fail
          go_roundg (kn - (j + 1))
          case measure => omega
          case rel => exact ⟨j + 1, by omega, rfl, by go_num, HBE⟩
    · obtain rfl : kn = j := by omega
      go_wp2_with fail
      go_ret
      exact ⟨rfl, HB5.out.trans (HB.out.mono HB5.out.size)⟩
end Go.Proofs.Ytbcldlbmbdfejaa
