/- image: ImageCuts. No condition. -/
import Derived.Test.YtbcldlbmbdfejaaQ14ImageCuts
import Derived.Test.YtbcldlbmbdfejaaQ19ImageCuts
import Derived.Lib.SmallJoins
import Derived.OpenShut
import Derived.SizedLaws
namespace Go.Proofs.Ytbcldlbmbdfejaa
open Go.ChangeShapes Go.WideShapes Go.ChangeAt Go.RowKit
theorem XW.Rd.below {w w' : World} {x : XW} (hx : x.Rd w) (h : Below w.heap.size w w') : x.Rd w' := ⟨hx.c.below h, fun c hc => (hx.cr c hc).below h, hx.m.below h, hx.s.below h, hx.y.below h, hx.tx.below h, hx.k.below h, fun k hk => ⟨(hx.kr k hk).t.below h, (hx.kr k hk).tc⟩⟩
set_option maxRecDepth 100000 in
set_option maxHeartbeats 16000000 in
theorem walk_ImageCutsX (w : World) (x : XW) (hx : x.Rd w) (hr : x.Right) (hft : x.Fit) (a : Option Addr) (n cap : Nat) (hB : IsBss w a n cap) (cut more : Nat) (hcut : cut < 65536) (hmore : more < 256) :
    Calls Try.prog 4 #[.agg x.vals, .slice a n cap, .int .u16 cut, .int .u8 more] w fun e w' => e = .returned (.bool true) ∧ Below w.heap.size w w' := by
  obtain ⟨hcap, hmx, F, hF, hFF⟩ := hB
  have HF := Lib.hid hF
  have HFF := Lib.hid hFF
  have hn9 : n ≤ 9223372036854775807 := by unfold maxLen at hmx; omega
  clear hF hFF hmx
  have HC := Lib.hid (fun (w1 : World) (h : Below w.heap.size w w1) => few25_any w1 x (hx.below h) hr hft)
  have HS := Lib.hid (fun (w1 : World) (h : Below w.heap.size w w1) => small_any w1 a n cap F (HF.out.below h) hn9 fun f hf => (HFF.out f hf).below h)
  have HBY := Lib.hid (fun (w1 : World) (h : Below w.heap.size w w1) (h1 : Few25P x) (h2 : SmallP F n) => refBytes_any w1 x (hx.below h) hr a n cap F (HF.out.below h) (fun f hf => (HFF.out f hf).below h) (few_bound hx h1 h2))
  have HFX := Lib.hid (fun w1 => fixed25 w1)
  unfold QuietRet at HFX
  obtain ⟨R, hR⟩ : ∃ R, R = imgBytes x (F.map (·.data)) := ⟨_, rfl⟩
  rw [← hR] at HBY
  have HOK := Lib.hid (show R.1 = 0 → (parseR R.2).2 = 0 ∧ 0 < R.2.length from fun h => by
    have h2 : imgBytes x (F.map (·.data)) = (0, R.2) := by rw [← hR, ← h]
    obtain ⟨p1, p2, _, _, p5⟩ := parse_image h2
    refine ⟨by rw [p1], ?_⟩
    rw [p2, bytesX_body]
    simp only [List.length_append]
    have : magicB.length = 4 := rfl
    omega)
  obtain ⟨P1, hP1⟩ : ∃ P1, P1 = Few25P x := ⟨_, rfl⟩
  obtain ⟨P2, hP2⟩ : ∃ P2, P2 = SmallP F n := ⟨_, rfl⟩
  rw [← hP1, ← hP2] at HBY
  rw [← hP1] at HC
  rw [← hP2] at HS
  clear hP1 hP2 hR hx hr hft
  obtain ⟨ca, cn, cc, cs, ma, mn, mc, ms, st, sa, sn, sc, ss, ya, yn, yc, ys, xa, xn, xc, xs, ka, kn, kc, ks, main⟩ := x
  unfold XW.vals at *
  simp only at *
  have hal0 : Below w.heap.size w (w.alloc (.cells #[.slice ca cn cc, .slice ma mn mc, .int .i64 st, .slice sa sn sc, .slice ya yn yc, .slice xa xn xc, .slice ka kn kc, .int .i64 main] 30)) := (Below.refl _ _).alloc (Nat.le_refl _) _
  have HIB := Lib.hid (heap_alloc_last w (.cells #[.slice ca cn cc, .slice ma mn mc, .int .i64 st, .slice sa sn sc, .slice ya yn yc, .slice xa xn xc, .slice ka kn kc, .int .i64 main] 30))
  have HB1 := Lib.hid hal0
  clear hal0
  go_enter Try.func4, Try.ntmps4
  go_upto_region 1 with fail
  generalize w.alloc _ = W1 at *
  go_wp2_with fail
  refine (HFX.out W1).mono ?_
  rintro e' W2 ⟨rfl, hb⟩
  have HB2 := Lib.hid (HB1.out.trans (hb.mono HB1.out.size))
  have HI2 := Lib.hid (row_below HIB.out hb)
  clear hb HIB HB1 HFX
  have c0 := row_cell HI2.out 0 rfl
  have c1 := row_cell HI2.out 1 rfl
  have c2 := row_cell HI2.out 2 rfl
  have c3 := row_cell HI2.out 3 rfl
  have c4 := row_cell HI2.out 4 rfl
  have c5 := row_cell HI2.out 5 rfl
  have c6 := row_cell HI2.out 6 rfl
  have c7 := row_cell HI2.out 7 rfl
  go_wp2_with fail
  refine (HC.out W2 HB2.out).mono ?_
  rintro e' W3 ⟨b, rfl, hb, hp⟩
  have HB3 := Lib.hid (HB2.out.trans (hb.mono HB2.out.size))
  have HI3 := Lib.hid (row_below HI2.out hb)
  have HP1 := Lib.hid hp
  clear hb hp c0 c1 c2 c3 c4 c5 c6 c7 HI2 HB2 HC
  cases b with
  | false =>
    go_wp2_with fail
    go_ret
    exact ⟨rfl, HB3.out⟩
  | true =>
  go_wp2_with fail
  refine (HS.out W3 HB3.out).mono ?_
  rintro e' W4 ⟨b, rfl, rfl, hp⟩
  have HP2 := Lib.hid hp
  clear hp HS
  cases b with
  | false =>
    go_wp2_with fail
    go_ret
    exact ⟨rfl, HB3.out⟩
  | true =>
  have HR := Lib.hid (HBY.out W3 HB3.out (HP1.out trivial) (HP2.out rfl))
  clear HBY HP1 HP2
  have c0 := row_cell HI3.out 0 rfl
  have c1 := row_cell HI3.out 1 rfl
  have c2 := row_cell HI3.out 2 rfl
  have c3 := row_cell HI3.out 3 rfl
  have c4 := row_cell HI3.out 4 rfl
  have c5 := row_cell HI3.out 5 rfl
  have c6 := row_cell HI3.out 6 rfl
  have c7 := row_cell HI3.out 7 rfl
  go_wp2_with fail
  refine HR.out.mono ?_
  rintro e' W5 ⟨a1, m1, k1, rfl, hs1, hk1, hb⟩
  have HB5 := Lib.hid (HB3.out.trans (hb.mono HB3.out.size))
  have HS1 := Lib.hid hs1
  clear hb hs1 c0 c1 c2 c3 c4 c5 c6 c7 HI3 HB3 HR
  obtain ⟨er, bs⟩ := R
  simp only at HOK HS1
  by_cases her : er = 0
  case neg =>
    have ee : (er != 0) = true := by simpa using her
    clear her
    go_wp2_with fail
    go_ret
    exact ⟨rfl, HB5.out⟩
  subst her
  by_cases h5 : 5000 < m1
  · have ee : decide ((5000 : Int) < m1) = true := by simp; omega
    go_wp2_with fail
    go_ret
    exact ⟨rfl, HB5.out⟩
  have ee : decide ((5000 : Int) < m1) = false := by simp; omega
  have h5k : m1 ≤ 5000 := by omega
  clear h5
  have hok := HOK.out rfl
  have hm1 := HS1.out.1
  have hmp : 0 < m1 := by omega
  obtain ⟨q, hq⟩ : ∃ q, q = cut % m1 := ⟨_, rfl⟩
  have hqm : q < m1 := by rw [hq]; exact Nat.mod_lt _ hmp
  have eq1 : ((cut : Nat) : Int).tmod (m1 : Int) = (q : Int) := by rw [hq]; rfl
  have HQ1 := Lib.hid (parse_cut hok.1 q (by omega))
  have HQ2 := Lib.hid (parse_more hok.1 (UInt8.ofNat more))
  have HPA := Lib.hid (Parse_any W5 a1 q k1 (bs.take q) (HS1.out.take (by omega)) (by omega) (by omega))
  have em : ((m1 : Int) == 0) = false := by simp; omega
  have hqk : (q : Int) ≤ k1 := by omega
  clear hok hm1 hq HOK
  generalize hr1 : parseR (bs.take q) = r1 at HPA HQ1
  obtain ⟨y1, z1⟩ := r1
  clear hr1
  unfold ParseRet at HPA
  simp only at HPA HQ1
  go_wp2_with fail
  refine HPA.out.mono ?_
  rintro e' W6 ⟨y, rfl, hyp, hyr, hb⟩
  have HB6 := Lib.hid (HB5.out.trans (hb.mono HB5.out.size))
  have HS6 := Lib.hid (HS1.out.below hb)
  clear hb hyp hyr HPA HS1 HB5 HF HFF
  obtain ⟨ca1, cn1, cc1, cs1, ma1, mn1, mc1, ms1, st1, sa1, sn1, sc1, ss1, ya1, yn1, yc1, ys1, xa1, xn1, xc1, xs1, ka1, kn1, kc1, ks1, main1⟩ := y
  unfold XW.vals
  have hal : Below W6.heap.size W6 (W6.alloc (.cells #[.slice ca1 cn1 cc1, .slice ma1 mn1 mc1, .int .i64 st1, .slice sa1 sn1 sc1, .slice ya1 yn1 yc1, .slice xa1 xn1 xc1, .slice ka1 kn1 kc1, .int .i64 main1] 30)) := (Below.refl _ _).alloc (Nat.le_refl _) _
  have HB7 := Lib.hid (HB6.out.trans (hal.mono HB6.out.size))
  have HS7 := Lib.hid (HS6.out.below hal)
  clear hal HB6 HS6
  go_upto_region 9 with fail
  generalize W6.alloc _ = W7 at *
  generalize W6.heap.size = g6 at *
  have hz1 : (z1 != 0) = true := by simpa using HQ1.out
  have HE0 := Lib.hid (own_empty W7 W7.heap.size 5 (Nat.le_refl _))
  have HBE := Lib.hid ((Below.refl W7.heap.size W7).alloc (Nat.le_refl _) (.cells #[] 5))
  have HME := Lib.hid (encB_natI more (by omega))
  go_wp2_with (at_builtin; first
    | (refine wpList_app1 oneN rfl _ _ _ rfl W7.heap.size _ 0 _ rfl HE0.out _ m1 _ rfl ((HS7.out.below HBE.out).src encB_cell Try.underlying35 k1) (by omega) (by unfold maxLen; omega) HBE.out.size ?_; intro v5 w5 hown5 _ hb5; rw [List.map_nil, List.nil_append, Nat.zero_add] at hown5; obtain ⟨a5, c5, rfl, _, _⟩ := Sl.ofOwn hown5; have HO5 := Lib.hid hown5; have HB5 := Lib.hid (HB7.out.trans ((HBE.out.trans hb5).mono HB7.out.size)); have HB45 := Lib.hid (HBE.out.trans hb5); clear hown5 hb5)
    | (refine wpList_app_lit2 oneN rfl _ _ rfl W7.heap.size _ m1 _ rfl HO5.out _ 1 _ _ rfl (by simp) rfl rfl (by omega) (by unfold maxLen; omega) HB45.out.size ?_; intro v6 w6 hown6 _ hb6; obtain ⟨a6, c6, rfl, hs6, hc6⟩ := Sl.ofOwn (xs := bs ++ [UInt8.ofNat more]) (by rw [List.map_append]; rw [HME.out] at hown6; exact hown6); have HS6 := Lib.hid hs6; have HB6 := Lib.hid (HB5.out.trans (hb6.mono HB7.out.size)); clear hown6 hb6 hs6))
  have hb9 : m1 + 1 ≤ 1048500 := by omega
  refine (Parse_any _ a6 (m1 + 1) c6 (bs ++ [UInt8.ofNat more]) HS6.out hc6 hb9).mono ?_
  rintro e w7 ⟨y2, rfl, _, _, hb7⟩
  have HB8 := Lib.hid (HB6.out.trans (hb7.mono HB6.out.size))
  have hz2 : ((parseR (bs ++ [UInt8.ofNat more])).2 != 0) = true := by simpa using HQ2.out
  generalize (parseR (bs ++ [UInt8.ofNat more])).2 = z2 at *
  clear hb7
  unfold XW.vals
  have hal : Below w7.heap.size w7 (w7.alloc (.cells #[.slice y2.ca y2.cn y2.cc, .slice y2.ma y2.mn y2.mc, .int .i64 y2.st, .slice y2.sa y2.sn y2.sc, .slice y2.ya y2.yn y2.yc, .slice y2.xa y2.xn y2.xc, .slice y2.ka y2.kn y2.kc, .int .i64 y2.main] 30)) := (Below.refl _ _).alloc (Nat.le_refl _) _
  have HB9 := Lib.hid (HB8.out.trans (hal.mono HB8.out.size))
  clear hal
  go_wp2_with fail
  go_ret
  exact ⟨rfl, HB9.out⟩
end Go.Proofs.Ytbcldlbmbdfejaa
/- image: instructions that came in. No condition. -/
namespace Go.Proofs.Ytbcldlbmbdfejaa
open Go.ChangeShapes Go.WideShapes Go.ChangeAt Go.RowKit Go.Joins Go.Deep
/-- A slice of instructions that came in. -/
def IsLs (w : World) (a : Option Addr) (n cap : Nat) : Prop := n ≤ cap ∧ n ≤ maxLen ∧ ∃ L, Ls w a n L ∧ ∀ r ∈ L, r.right
section
variable {H : Type} {enc : TypeId × Value → H} {w : World} {r : Reach} {b0 : Nat} {v : Value} {d : DataW H} {p : List MemPlace}
theorem int_ofL {k : IntKind} {t : TypeId} {fuel : Nat} {v : Value} {x : DataW H × List MemPlace} (ht : Try.prog.underlying t = some (.int k)) (hf : DataW.trod enc Try.prog w 0 (fun _ => true) true fuel t [v] = some x) : ∃ n, v = .int k n ∧ (Lit.int k n).wf = true := by
  obtain ⟨n, hcs, _, hw⟩ := DataW.trod_int ht hf
  simp at hcs
  exact ⟨n, hcs, hw⟩
theorem add_twoL (b off k j : Nat) : ((⟨b, off, none⟩ : Addr).add k).add j = ⟨b, off + k + j, none⟩ := by rw [addr_add, addr_add]
theorem add_zeroL (x : Addr) (k : Nat) : (x.add (0 * k)).add 0 = x := by simp [Addr.add]
theorem cells_link4 : Try.prog.cellsOf 54 = 4 := by kernel_rfl
theorem wf_u8L {n : Int} (h : (Lit.int .u8 n).wf = true) : ∃ k : Nat, n = k ∧ k < 256 := by
  unfold Lit.wf at h
  simp only [Bool.and_eq_true, decide_eq_true_eq] at h
  have h1 : 0 ≤ n := h.1
  have h2 : n ≤ 255 := h.2
  exact ⟨n.toNat, by omega, by omega⟩
theorem wf_i64L {n : Int} (h : (Lit.int .i64 n).wf = true) : IntR n := bounds_i64 h
set_option maxRecDepth 100000 in
theorem open_links (hv : Value.okWide Try.prog w r b0 47 v) (h : DataW.Trod enc Try.prog w 0 (fun _ => true) true 47 v d p) : ∃ a n cap, v = .slice a n cap ∧ IsLs w a n cap := by
  obtain ⟨a, n, cap, rfl⟩ := okWide_slice Try.underlying47 hv
  refine ⟨a, n, cap, rfl, ?_⟩
  obtain ⟨fuel, hf⟩ := h
  rcases open_slice Try.underlying47 hf with ⟨hcs, _⟩ | ⟨x, len, c, m, n', D, Pl, hcs, _, hl, hm, hmm, _, hi⟩
  · simp [Value.cells] at hcs
    obtain ⟨rfl, rfl, rfl⟩ := hcs
    exact ⟨by omega, by unfold maxLen; omega, [], Ss.nil _ _, fun c hc => by cases hc⟩
  · simp [Value.cells] at hcs
    obtain ⟨rfl, rfl, rfl⟩ := hcs
    simp only [if_true] at hmm
    subst hmm
    refine ⟨hl, by omega, ?_⟩
    by_cases hn : 0 < n
    · have hsp : x.spot = none := by
        obtain ⟨cs', hc, ht⟩ := hi 0 (by omega)
        rw [cells_link4] at hc
        obtain ⟨_, hcl, hat⟩ := World.cells?_some hc
        match cs', hcl with
        | [c0, c1, c2, c3], _ =>
          have q0 := hat 0 (by omega)
          rw [add_zeroL] at q0
          exact World.cell?_spot q0
      obtain ⟨b, off, spot⟩ := x
      simp only at hsp
      subst hsp
      have key : ∀ i, i < n → ∃ c : LK, (∀ j, j < 4 → w.cell? ⟨b, off + i * 4 + j, none⟩ = c.cells[j]?) ∧ c.right := by
        intro i hin
        obtain ⟨cs', hc, ht⟩ := hi i (by omega)
        rw [cells_link4] at hc
        obtain ⟨_, hcl, hat⟩ := World.cells?_some hc
        match cs', hcl with
        | [c0, c1, c2, c3], _ =>
          obtain ⟨xs, k, _, _, _, hlen, hg⟩ := DataW.trod_struct Try.underlying54 ht
          match xs, hlen with
          | [y0, y1, y2, y3], _ =>
            have g0 : DataW.trod enc Try.prog w 0 (fun _ => true) true k 5 [c0] = some y0 := hg 0 _ rfl
            have g1 : DataW.trod enc Try.prog w 0 (fun _ => true) true k 3 [c1] = some y1 := hg 1 _ rfl
            have g2 : DataW.trod enc Try.prog w 0 (fun _ => true) true k 3 [c2] = some y2 := hg 2 _ rfl
            have g3 : DataW.trod enc Try.prog w 0 (fun _ => true) true k 2 [c3] = some y3 := hg 3 _ rfl
            obtain ⟨e0, rfl, w0⟩ := int_ofL Try.underlying5 g0
            obtain ⟨e1, rfl, w1⟩ := int_ofL Try.underlying3 g1
            obtain ⟨e2, rfl, w2⟩ := int_ofL Try.underlying3 g2
            obtain ⟨e3, rfl, w3⟩ := int_ofL Try.underlying2 g3
            obtain ⟨m, rfl, hm⟩ := wf_u8L w0
            refine ⟨⟨m, e1, e2, e3⟩, fun j hj => ?_, hm, wf_i64L w1, wf_i64L w2, wf_i64L w3⟩
            have q := hat j (by omega)
            rw [add_twoL] at q
            exact q
      obtain ⟨L, hL, hat⟩ := list_ofB n _ key
      refine ⟨L, ⟨hL, fun _ => ⟨b, off, rfl, ?_, fun i hi j hj => (hat i hi).1 j hj⟩⟩, fun c hc => ?_⟩
      · have q := (hat 0 (by omega)).1 0 (by omega)
        exact World.block_lt_of_cell? w _ q
      · obtain ⟨i, hi, rfl⟩ := List.getElem_of_mem hc
        exact (hat i hi).2
    · have h0 : n = 0 := by omega
      subst h0
      exact ⟨[], Ss.nil _ _, fun c hc => by cases hc⟩
end
end Go.Proofs.Ytbcldlbmbdfejaa
/- A slice of structs that came in, opened once for all kinds, with the form's reach. No condition. -/
namespace Go.Proofs.Ytbcldlbmbdfejaa
open Go.ChangeShapes Go.WideShapes Go.ChangeAt Go.RowKit Go.Joins Go.Deep
theorem weightsAll_memO {H : Type} {P : Program} {e : TypeId} : ∀ {l : List (DataW H)} {d : DataW H}, d ∈ l → ∀ n ∈ d.weights P e, n ∈ DataW.weightsAll P e l
  | d' :: r, d, hd, n, hn => by
    simp only [DataW.weightsAll, List.mem_append]
    rcases List.mem_cons.1 hd with rfl | h
    · exact Or.inl hn
    · exact Or.inr (weightsAll_memO h n hn)
theorem open_many {H : Type} {enc : TypeId × Value → H} {w : World} {α : Type} {t e : TypeId} {z : Nat} (hz : 0 < z) (hu : Try.prog.underlying t = some (.slice e)) (hc : Try.prog.cellsOf e = z) (cells : α → List Value) (Q : α → Prop)
    (hitem : ∀ (fuel : Nat) (cs : List Value) (x : DataW H × List MemPlace), cs.length = z → DataW.trod enc Try.prog w 0 (fun _ => true) true fuel e cs = some x → (∀ n ∈ x.1.weights Try.prog e, n ≤ reachBytes) → ∃ c : α, cs = cells c ∧ Q c)
    {fuel : Nat} {a : Option Addr} {n cap : Nat} {x : DataW H × List MemPlace} (hf : DataW.trod enc Try.prog w 0 (fun _ => true) true fuel t [.slice a n cap] = some x) (hw : ∀ m ∈ x.1.weights Try.prog t, m ≤ reachBytes) :
    n ≤ cap ∧ n ≤ maxLen ∧ n * Try.prog.bytesOf e ≤ reachBytes ∧ ∃ L : List α, Ss z cells w a n L ∧ ∀ c ∈ L, Q c := by
  rcases open_slice hu hf with ⟨hcs, _⟩ | ⟨x', len, c, m, n', D, Pl, hcs, _, hl, hm, hmm, hx, hi⟩
  · simp at hcs
    obtain ⟨rfl, rfl, rfl⟩ := hcs
    exact ⟨by omega, by unfold maxLen; omega, by omega, [], Ss.nil _ _, fun c hc => by cases hc⟩
  · simp at hcs
    obtain ⟨rfl, rfl, rfl⟩ := hcs
    simp only [if_true] at hmm
    subst hmm
    subst hx
    have hreach : n * Try.prog.bytesOf e ≤ reachBytes := by
      have h1 := hw ((n + (m - n)) * Try.prog.bytesOf e) (by simp [DataW.weights, hu])
      exact Nat.le_trans (Nat.mul_le_mul_right _ (by omega)) h1
    refine ⟨hl, by omega, hreach, ?_⟩
    by_cases hn : 0 < n
    · have hsp : x'.spot = none := by
        obtain ⟨cs', hc', ht⟩ := hi 0 (by omega)
        rw [hc] at hc'
        obtain ⟨_, hcl, hat⟩ := World.cells?_some hc'
        have q0 := hat 0 hz
        rw [add_zeroL] at q0
        have h0 : 0 < cs'.length := by omega
        rw [List.getElem?_eq_getElem h0] at q0
        exact World.cell?_spot q0
      obtain ⟨b, off, spot⟩ := x'
      simp only at hsp
      subst hsp
      have key : ∀ i, i < n → ∃ c : α, (∀ j, j < z → w.cell? ⟨b, off + i * z + j, none⟩ = (cells c)[j]?) ∧ Q c ∧ (cells c).length = z := by
        intro i hin
        obtain ⟨cs', hc', ht⟩ := hi i (by omega)
        rw [hc] at hc'
        obtain ⟨_, hcl, hat⟩ := World.cells?_some hc'
        obtain ⟨c, rfl, hQ⟩ := hitem n' cs' _ hcl ht (fun k hk => hw k (by
          simp only [DataW.weights, hu, List.mem_cons, List.mem_append]
          exact Or.inr (Or.inl (weightsAll_memO (List.mem_map.2 ⟨i, List.mem_range.2 hin, rfl⟩) k hk))))
        refine ⟨c, fun j hj => ?_, hQ, hcl⟩
        have q := hat j hj
        rw [add_twoL] at q
        exact q
      obtain ⟨L, hL, hat⟩ := list_ofB n _ key
      refine ⟨L, ⟨hL, fun _ => ⟨b, off, rfl, ?_, fun i hi j hj => (hat i hi).1 j hj⟩⟩, fun c hc => ?_⟩
      · have q := (hat 0 (by omega)).1 0 hz
        have h0 : 0 < (cells (L[0]'(by omega))).length := by rw [(hat 0 (by omega)).2.2]; exact hz
        rw [List.getElem?_eq_getElem h0] at q
        exact World.block_lt_of_cell? w _ q
      · obtain ⟨i, hi, rfl⟩ := List.getElem_of_mem hc
        exact (hat i hi).2.1
    · have h0 : n = 0 := by omega
      subst h0
      exact ⟨[], Ss.nil _ _, fun c hc => by cases hc⟩
end Go.Proofs.Ytbcldlbmbdfejaa
/- image: the rows within an image that came in. No condition. -/
namespace Go.Proofs.Ytbcldlbmbdfejaa
open Go.ChangeShapes Go.WideShapes Go.ChangeAt Go.RowKit Go.Joins Go.Deep
theorem ofSs1 {α : Type} {enc : α → Value} {w : World} {a : Option Addr} {n : Nat} {L : List α} (h : Ss 1 (fun v => [enc v]) w a n L) : Sl enc w a n L := by
  refine ⟨h.1, fun hn => ?_⟩
  obtain ⟨b, off, ha, hlt, hc⟩ := h.2 hn
  refine ⟨b, off, ha, hlt, fun i hi => ?_⟩
  have := hc i hi 0 (by omega)
  simpa using this
theorem bytes_int : Try.prog.bytesOf 3 = 8 := by kernel_rfl
theorem bytes_trap : Try.prog.bytesOf 71 = 32 := by kernel_rfl
theorem cells_int : Try.prog.cellsOf 3 = 1 := by kernel_rfl
theorem cells_str : Try.prog.cellsOf 9 = 1 := by kernel_rfl
theorem cells_trap : Try.prog.cellsOf 71 = 4 := by kernel_rfl
theorem bytes_class : 32 ≤ Try.prog.bytesOf 82 := of_decide_eq_true (by kernel_rfl)
theorem bytes_meth : 32 ≤ Try.prog.bytesOf 87 := of_decide_eq_true (by kernel_rfl)
theorem bytes_code : 32 ≤ Try.prog.bytesOf 62 := of_decide_eq_true (by kernel_rfl)
theorem cells_class : Try.prog.cellsOf 82 = 5 := by kernel_rfl
theorem cells_meth : Try.prog.cellsOf 87 = 6 := by kernel_rfl
theorem cells_code : Try.prog.cellsOf 62 = 6 := by kernel_rfl
theorem one_of {cs : List Value} (h : cs.length = 1) : ∃ v, cs = [v] := by
  match cs, h with
  | [v], _ => exact ⟨v, rfl⟩
theorem reach_eqI : reachBytes = 140737488351232 := rfl
section
variable {H : Type} {enc : TypeId × Value → H} {w : World} {fuel : Nat} {a : Option Addr} {n cap : Nat} {x : DataW H × List MemPlace}
theorem str_ofI {v : Value} (hf : DataW.trod enc Try.prog w 0 (fun _ => true) true fuel 9 [v] = some x) (hw : ∀ m ∈ x.1.weights Try.prog 9, m ≤ reachBytes) : ∃ s : List UInt8, v = encS s ∧ s.length ≤ 140737488351232 := by
  obtain ⟨s, hcs, hx, h2⟩ := DataW.trod_string Try.underlying9 hf
  simp at hcs
  subst hcs hx
  refine ⟨s.data.toList, rfl, hw _ (by simp [DataW.weights])⟩
theorem open_intsI (hf : DataW.trod enc Try.prog w 0 (fun _ => true) true fuel 24 [.slice a n cap] = some x) (hw : ∀ m ∈ x.1.weights Try.prog 24, m ≤ reachBytes) :
    n ≤ cap ∧ n ≤ 140737488355328 ∧ ∃ L : List Int, Sl encZ w a n L ∧ ∀ v ∈ L, IntR v := by
  obtain ⟨h1, h2, h3, L, h4, h5⟩ := open_many (by omega) Try.underlying24 cells_int (fun v : Int => [encZ v]) IntR (fun fuel cs x hl ht _ => by
    obtain ⟨v, rfl⟩ := one_of hl
    obtain ⟨k, rfl, hk⟩ := int_ofL Try.underlying3 ht
    exact ⟨k, rfl, wf_i64L hk⟩) hf hw
  rw [bytes_int, reach_eqI] at h3
  exact ⟨h1, by omega, L, ofSs1 h4, h5⟩
theorem open_strsI (hf : DataW.trod enc Try.prog w 0 (fun _ => true) true fuel 27 [.slice a n cap] = some x) (hw : ∀ m ∈ x.1.weights Try.prog 27, m ≤ reachBytes) :
    n ≤ cap ∧ n ≤ 9223372036854775807 ∧ ∃ L : List (List UInt8), Sl encS w a n L := by
  obtain ⟨h1, h2, h3, L, h4, h5⟩ := open_many (by omega) Try.underlying27 cells_str (fun v : List UInt8 => [encS v]) (fun _ => True) (fun fuel cs x hl ht hx => by
    obtain ⟨v, rfl⟩ := one_of hl
    obtain ⟨k, rfl, hk⟩ := str_ofI ht hx
    exact ⟨k, rfl, trivial⟩) hf hw
  exact ⟨h1, by unfold maxLen at h2; omega, L, ofSs1 h4⟩
set_option maxRecDepth 100000 in
theorem open_trapsI (hf : DataW.trod enc Try.prog w 0 (fun _ => true) true fuel 60 [.slice a n cap] = some x) (hw : ∀ m ∈ x.1.weights Try.prog 60, m ≤ reachBytes) :
    n ≤ cap ∧ n ≤ 140737488355328 ∧ ∃ L : List TW, Ss 4 TW.vals w a n L ∧ ∀ t ∈ L, t.right := by
  obtain ⟨h1, h2, h3, L, h4, h5⟩ := open_many (by omega) Try.underlying60 cells_trap TW.vals TW.right (fun fuel cs x hl ht _ => by
    match cs, hl with
    | [c0, c1, c2, c3], _ =>
      obtain ⟨xs, k, _, _, _, hlen, hg⟩ := DataW.trod_struct Try.underlying71 ht
      match xs, hlen with
      | [y0, y1, y2, y3], _ =>
        have g0 : DataW.trod enc Try.prog w 0 (fun _ => true) true k 3 [c0] = some y0 := hg 0 _ rfl
        have g1 : DataW.trod enc Try.prog w 0 (fun _ => true) true k 3 [c1] = some y1 := hg 1 _ rfl
        have g2 : DataW.trod enc Try.prog w 0 (fun _ => true) true k 3 [c2] = some y2 := hg 2 _ rfl
        have g3 : DataW.trod enc Try.prog w 0 (fun _ => true) true k 3 [c3] = some y3 := hg 3 _ rfl
        obtain ⟨e0, rfl, w0⟩ := int_ofL Try.underlying3 g0
        obtain ⟨e1, rfl, w1⟩ := int_ofL Try.underlying3 g1
        obtain ⟨e2, rfl, w2⟩ := int_ofL Try.underlying3 g2
        obtain ⟨e3, rfl, w3⟩ := int_ofL Try.underlying3 g3
        exact ⟨⟨e0, e1, e2, e3⟩, rfl, wf_i64L w0, wf_i64L w1, wf_i64L w2, wf_i64L w3⟩) hf hw
  rw [bytes_trap, reach_eqI] at h3
  exact ⟨h1, by omega, L, h4, h5⟩
theorem sl_ofI {t e : TypeId} {v : Value} (ht : Try.prog.underlying t = some (.slice e)) (hf : DataW.trod enc Try.prog w 0 (fun _ => true) true fuel t [v] = some x) : ∃ a n c, v = .slice a n c := by
  rcases open_slice ht hf with ⟨hcs, _⟩ | ⟨x', len, c, m, n', D, Pl, hcs, _⟩
  · simp at hcs
    exact ⟨none, 0, 0, hcs⟩
  · simp at hcs
    exact ⟨some x', len, c, hcs⟩
def ClassQ (w : World) (c : CW) : Prop := c.Rd w ∧ c.right ∧ c.rn ≤ 140737488355328 ∧ c.tn ≤ 140737488355328 ∧ c.name.length ≤ 140737488355328
set_option maxRecDepth 100000 in
theorem open_classesI (hf : DataW.trod enc Try.prog w 0 (fun _ => true) true fuel 22 [.slice a n cap] = some x) (hw : ∀ m ∈ x.1.weights Try.prog 22, m ≤ reachBytes) :
    n ≤ cap ∧ n ≤ 140737488355328 ∧ ∃ L : List CW, Ss 5 CW.vals w a n L ∧ ∀ c ∈ L, ClassQ w c := by
  obtain ⟨h1, h2, h3, L, h4, h5⟩ := open_many (by omega) Try.underlying22 cells_class CW.vals (ClassQ w) (fun fuel cs x hl ht hx => by
    match cs, hl with
    | [c0, c1, c2, c3, c4], _ =>
      obtain ⟨xs, k, _, hxe, _, hlen, hg⟩ := DataW.trod_struct Try.underlying82 ht
      subst hxe
      match xs, hlen with
      | [y0, y1, y2, y3, y4], _ =>
        have g0 : DataW.trod enc Try.prog w 0 (fun _ => true) true k 9 [c0] = some y0 := hg 0 _ rfl
        have g1 : DataW.trod enc Try.prog w 0 (fun _ => true) true k 3 [c1] = some y1 := hg 1 _ rfl
        have g2 : DataW.trod enc Try.prog w 0 (fun _ => true) true k 3 [c2] = some y2 := hg 2 _ rfl
        have g3 : DataW.trod enc Try.prog w 0 (fun _ => true) true k 24 [c3] = some y3 := hg 3 _ rfl
        have g4 : DataW.trod enc Try.prog w 0 (fun _ => true) true k 24 [c4] = some y4 := hg 4 _ rfl
        have hx' : ∀ m ∈ DataW.weightsEach Try.prog [9, 3, 3, 24, 24] [y0.1, y1.1, y2.1, y3.1, y4.1], m ≤ reachBytes := fun m hm => hx m (by
          simp only [DataW.weights, Try.underlying82]
          exact hm)
        obtain ⟨e0, rfl, w0⟩ := str_ofI g0 fun m hm => hx' m (DataW.weights_mem_each (j := 0) rfl rfl m hm)
        obtain ⟨e1, rfl, w1⟩ := int_ofL Try.underlying3 g1
        obtain ⟨e2, rfl, w2⟩ := int_ofL Try.underlying3 g2
        obtain ⟨a3, n3, k3, rfl⟩ := sl_ofI Try.underlying24 g3
        obtain ⟨a4, n4, k4, rfl⟩ := sl_ofI Try.underlying24 g4
        obtain ⟨p1, p2, L3, p3, p4⟩ := open_intsI g3 fun m hm => hx' m (DataW.weights_mem_each (j := 3) rfl rfl m hm)
        obtain ⟨q1, q2, L4, q3, q4⟩ := open_intsI g4 fun m hm => hx' m (DataW.weights_mem_each (j := 4) rfl rfl m hm)
        exact ⟨⟨e0, e1, e2, a3, n3, k3, L3, a4, n4, k4, L4⟩, rfl, ⟨p3, q3, p1, q1⟩, ⟨wf_i64L w1, wf_i64L w2, p4, q4⟩, p2, q2, by show e0.length ≤ _; omega⟩) hf hw
  have hb := bytes_class
  rw [reach_eqI] at h3
  exact ⟨h1, by have := Nat.mul_le_mul_left n hb; omega, L, h4, h5⟩
end
end Go.Proofs.Ytbcldlbmbdfejaa
/- image: the methods and codes of an image that came in. No condition. -/
namespace Go.Proofs.Ytbcldlbmbdfejaa
open Go.ChangeShapes Go.WideShapes Go.ChangeAt Go.RowKit Go.Joins Go.Deep
section
variable {H : Type} {enc : TypeId × Value → H} {w : World} {fuel : Nat} {a : Option Addr} {n cap : Nat} {x : DataW H × List MemPlace}
theorem bool_ofI {v : Value} (hf : DataW.trod enc Try.prog w 0 (fun _ => true) true fuel 4 [v] = some x) : ∃ b, v = .bool b := by
  obtain ⟨b, hcs, _⟩ := DataW.trod_bool Try.underlying4 hf
  simp at hcs
  exact ⟨b, hcs⟩
def MethQ (m : MW) : Prop := m.right ∧ m.name.length ≤ 140737488355328 ∧ m.desc.length ≤ 140737488355328
set_option maxRecDepth 100000 in
theorem open_methsI (hf : DataW.trod enc Try.prog w 0 (fun _ => true) true fuel 23 [.slice a n cap] = some x) (hw : ∀ m ∈ x.1.weights Try.prog 23, m ≤ reachBytes) :
    n ≤ cap ∧ n ≤ 140737488355328 ∧ ∃ L : List MW, Ss 6 MW.vals w a n L ∧ ∀ c ∈ L, MethQ c := by
  obtain ⟨h1, h2, h3, L, h4, h5⟩ := open_many (by omega) Try.underlying23 cells_meth MW.vals MethQ (fun fuel cs x hl ht hx => by
    match cs, hl with
    | [c0, c1, c2, c3, c4, c5], _ =>
      obtain ⟨xs, k, _, hxe, _, hlen, hg⟩ := DataW.trod_struct Try.underlying87 ht
      subst hxe
      match xs, hlen with
      | [y0, y1, y2, y3, y4, y5], _ =>
        have g0 : DataW.trod enc Try.prog w 0 (fun _ => true) true k 3 [c0] = some y0 := hg 0 _ rfl
        have g1 : DataW.trod enc Try.prog w 0 (fun _ => true) true k 9 [c1] = some y1 := hg 1 _ rfl
        have g2 : DataW.trod enc Try.prog w 0 (fun _ => true) true k 9 [c2] = some y2 := hg 2 _ rfl
        have g3 : DataW.trod enc Try.prog w 0 (fun _ => true) true k 4 [c3] = some y3 := hg 3 _ rfl
        have g4 : DataW.trod enc Try.prog w 0 (fun _ => true) true k 3 [c4] = some y4 := hg 4 _ rfl
        have g5 : DataW.trod enc Try.prog w 0 (fun _ => true) true k 3 [c5] = some y5 := hg 5 _ rfl
        have hx' : ∀ m ∈ DataW.weightsEach Try.prog [3, 9, 9, 4, 3, 3] [y0.1, y1.1, y2.1, y3.1, y4.1, y5.1], m ≤ reachBytes := fun m hm => hx m (by
          simp only [DataW.weights, Try.underlying87]
          exact hm)
        obtain ⟨e0, rfl, w0⟩ := int_ofL Try.underlying3 g0
        obtain ⟨e1, rfl, w1⟩ := str_ofI g1 fun m hm => hx' m (DataW.weights_mem_each (j := 1) rfl rfl m hm)
        obtain ⟨e2, rfl, w2⟩ := str_ofI g2 fun m hm => hx' m (DataW.weights_mem_each (j := 2) rfl rfl m hm)
        obtain ⟨e3, rfl⟩ := bool_ofI g3
        obtain ⟨e4, rfl, w4⟩ := int_ofL Try.underlying3 g4
        obtain ⟨e5, rfl, w5⟩ := int_ofL Try.underlying3 g5
        exact ⟨⟨e0, e1, e2, e3, e4, e5⟩, rfl, ⟨wf_i64L w0, wf_i64L w4, wf_i64L w5⟩, by show e1.length ≤ _; omega, by show e2.length ≤ _; omega⟩) hf hw
  have hb := bytes_meth
  rw [reach_eqI] at h3
  exact ⟨h1, by have := Nat.mul_le_mul_left n hb; omega, L, h4, h5⟩
def CodeQ (w : World) (k : KW) : Prop := k.Rd w ∧ k.right ∧ k.tn ≤ 9223372036854775807
set_option maxRecDepth 100000 in
theorem open_codesI (hf : DataW.trod enc Try.prog w 0 (fun _ => true) true fuel 28 [.slice a n cap] = some x) (hw : ∀ m ∈ x.1.weights Try.prog 28, m ≤ reachBytes) :
    n ≤ cap ∧ n ≤ 140737488355328 ∧ ∃ L : List KW, Ss 6 KW.vals w a n L ∧ ∀ c ∈ L, CodeQ w c := by
  obtain ⟨h1, h2, h3, L, h4, h5⟩ := open_many (by omega) Try.underlying28 cells_code KW.vals (CodeQ w) (fun fuel cs x hl ht hx => by
    match cs, hl with
    | [c0, c1, c2, c3, c4, c5], _ =>
      obtain ⟨xs, k, _, hxe, _, hlen, hg⟩ := DataW.trod_struct Try.underlying62 ht
      subst hxe
      match xs, hlen with
      | [y0, y1, y2, y3, y4, y5], _ =>
        have g0 : DataW.trod enc Try.prog w 0 (fun _ => true) true k 3 [c0] = some y0 := hg 0 _ rfl
        have g1 : DataW.trod enc Try.prog w 0 (fun _ => true) true k 3 [c1] = some y1 := hg 1 _ rfl
        have g2 : DataW.trod enc Try.prog w 0 (fun _ => true) true k 3 [c2] = some y2 := hg 2 _ rfl
        have g3 : DataW.trod enc Try.prog w 0 (fun _ => true) true k 3 [c3] = some y3 := hg 3 _ rfl
        have g4 : DataW.trod enc Try.prog w 0 (fun _ => true) true k 3 [c4] = some y4 := hg 4 _ rfl
        have g5 : DataW.trod enc Try.prog w 0 (fun _ => true) true k 60 [c5] = some y5 := hg 5 _ rfl
        have hx' : ∀ m ∈ DataW.weightsEach Try.prog [3, 3, 3, 3, 3, 60] [y0.1, y1.1, y2.1, y3.1, y4.1, y5.1], m ≤ reachBytes := fun m hm => hx m (by
          simp only [DataW.weights, Try.underlying62]
          exact hm)
        obtain ⟨e0, rfl, w0⟩ := int_ofL Try.underlying3 g0
        obtain ⟨e1, rfl, w1⟩ := int_ofL Try.underlying3 g1
        obtain ⟨e2, rfl, w2⟩ := int_ofL Try.underlying3 g2
        obtain ⟨e3, rfl, w3⟩ := int_ofL Try.underlying3 g3
        obtain ⟨e4, rfl, w4⟩ := int_ofL Try.underlying3 g4
        obtain ⟨a5, n5, k5, rfl⟩ := sl_ofI Try.underlying60 g5
        obtain ⟨q1, q2, L5, q3, q4⟩ := open_trapsI g5 fun m hm => hx' m (DataW.weights_mem_each (j := 5) rfl rfl m hm)
        exact ⟨⟨e0, e1, e2, e3, e4, a5, n5, k5, L5⟩, rfl, ⟨q3, q1⟩, ⟨wf_i64L w0, wf_i64L w1, wf_i64L w2, wf_i64L w3, wf_i64L w4, q4⟩, by show n5 ≤ _; omega⟩) hf hw
  have hb := bytes_code
  rw [reach_eqI] at h3
  exact ⟨h1, by have := Nat.mul_le_mul_left n hb; omega, L, h4, h5⟩
end
end Go.Proofs.Ytbcldlbmbdfejaa
/- image: an image that came in. No condition. -/
namespace Go.Proofs.Ytbcldlbmbdfejaa
open Go.ChangeShapes Go.WideShapes Go.ChangeAt Go.RowKit Go.Joins Go.Deep
theorem cells_image : Try.prog.cellsOf 30 = 8 := by kernel_rfl
section
variable {H : Type} {enc : TypeId × Value → H} {w : World} {r : Reach} {b0 : Nat} {v : Value} {d : DataW H} {p : List MemPlace}
set_option maxRecDepth 100000 in
theorem open_image (hv : Value.okWide Try.prog w r b0 30 v) (h : DataW.Trod enc Try.prog w 0 (fun _ => true) true 30 v d p) (hw : ∀ m ∈ d.weights Try.prog 30, m ≤ reachBytes) :
    ∃ x : XW, v = .agg x.vals ∧ x.Rd w ∧ x.Right ∧ x.Fit := by
  obtain ⟨cs, rfl, hsz⟩ := okWide_struct Try.underlying30 hv
  obtain ⟨fuel, hf⟩ := h
  obtain ⟨cl⟩ := cs
  have hl : cl.length = 8 := hsz.trans cells_image
  match cl, hl with
  | [c0, c1, c2, c3, c4, c5, c6, c7], _ =>
    have hf : DataW.trod enc Try.prog w 0 (fun _ => true) true fuel 30 [c0, c1, c2, c3, c4, c5, c6, c7] = some (d, p) := hf
    obtain ⟨xs, k, _, hxe, _, hlen, hg⟩ := DataW.trod_struct Try.underlying30 hf
    match xs, hlen with
    | [y0, y1, y2, y3, y4], _ =>
      have g0 : DataW.trod enc Try.prog w 0 (fun _ => true) true k 26 [c0, c1, c2, c3] = some y0 := hg 0 _ rfl
      have g1 : DataW.trod enc Try.prog w 0 (fun _ => true) true k 27 [c4] = some y1 := hg 1 _ rfl
      have g2 : DataW.trod enc Try.prog w 0 (fun _ => true) true k 27 [c5] = some y2 := hg 2 _ rfl
      have g3 : DataW.trod enc Try.prog w 0 (fun _ => true) true k 28 [c6] = some y3 := hg 3 _ rfl
      have g4 : DataW.trod enc Try.prog w 0 (fun _ => true) true k 3 [c7] = some y4 := hg 4 _ rfl
      have hd : d = .agg [y0.1, y1.1, y2.1, y3.1, y4.1] := congrArg Prod.fst hxe
      subst hd
      have hx' : ∀ m ∈ DataW.weightsEach Try.prog [26, 27, 27, 28, 3] [y0.1, y1.1, y2.1, y3.1, y4.1], m ≤ reachBytes := fun m hm => hw m (by
        simp only [DataW.weights, Try.underlying30]
        exact hm)
      obtain ⟨zs, k2, _, hze, _, hlen2, hg2⟩ := DataW.trod_struct Try.underlying26 g0
      match zs, hlen2 with
      | [z0, z1, z2, z3], _ =>
        have f0 : DataW.trod enc Try.prog w 0 (fun _ => true) true k2 22 [c0] = some z0 := hg2 0 _ rfl
        have f1 : DataW.trod enc Try.prog w 0 (fun _ => true) true k2 23 [c1] = some z1 := hg2 1 _ rfl
        have f2 : DataW.trod enc Try.prog w 0 (fun _ => true) true k2 3 [c2] = some z2 := hg2 2 _ rfl
        have f3 : DataW.trod enc Try.prog w 0 (fun _ => true) true k2 24 [c3] = some z3 := hg2 3 _ rfl
        have hy : y0.1 = .agg [z0.1, z1.1, z2.1, z3.1] := congrArg Prod.fst hze
        have hx2 : ∀ m ∈ DataW.weightsEach Try.prog [22, 23, 3, 24] [z0.1, z1.1, z2.1, z3.1], m ≤ reachBytes := fun m hm => hx' m (DataW.weights_mem_each (j := 0) rfl rfl m (by
          rw [hy]
          simp only [DataW.weights, Try.underlying26]
          exact hm))
        obtain ⟨a0, n0, k0, rfl⟩ := sl_ofI Try.underlying22 f0
        obtain ⟨a1, n1, k1, rfl⟩ := sl_ofI Try.underlying23 f1
        obtain ⟨e2, rfl, w2⟩ := int_ofL Try.underlying3 f2
        obtain ⟨a3, n3, k3, rfl⟩ := sl_ofI Try.underlying24 f3
        obtain ⟨a4, n4, k4, rfl⟩ := sl_ofI Try.underlying27 g1
        obtain ⟨a5, n5, k5, rfl⟩ := sl_ofI Try.underlying27 g2
        obtain ⟨a6, n6, k6, rfl⟩ := sl_ofI Try.underlying28 g3
        obtain ⟨e7, rfl, w7⟩ := int_ofL Try.underlying3 g4
        obtain ⟨_, i0, L0, s0, q0⟩ := open_classesI f0 fun m hm => hx2 m (DataW.weights_mem_each (j := 0) rfl rfl m hm)
        obtain ⟨_, i1, L1, s1, q1⟩ := open_methsI f1 fun m hm => hx2 m (DataW.weights_mem_each (j := 1) rfl rfl m hm)
        obtain ⟨_, i3, L3, s3, q3⟩ := open_intsI f3 fun m hm => hx2 m (DataW.weights_mem_each (j := 3) rfl rfl m hm)
        obtain ⟨_, i4, L4, s4⟩ := open_strsI g1 fun m hm => hx' m (DataW.weights_mem_each (j := 1) rfl rfl m hm)
        obtain ⟨_, i5, L5, s5⟩ := open_strsI g2 fun m hm => hx' m (DataW.weights_mem_each (j := 2) rfl rfl m hm)
        obtain ⟨_, i6, L6, s6, q6⟩ := open_codesI g3 fun m hm => hx' m (DataW.weights_mem_each (j := 3) rfl rfl m hm)
        exact ⟨⟨a0, n0, k0, L0, a1, n1, k1, L1, e2, a3, n3, k3, L3, a4, n4, k4, L4, a5, n5, k5, L5, a6, n6, k6, L6, e7⟩, rfl,
          ⟨s0, fun c hc => (q0 c hc).1, s1, s3, s4, s5, s6, fun c hc => (q6 c hc).1⟩,
          ⟨wf_i64L w2, wf_i64L w7, fun c hc => (q0 c hc).2.1, fun c hc => (q1 c hc).1, q3, fun c hc => (q6 c hc).2.1, by show n0 ≤ _; omega, by show n1 ≤ _; omega, i4, i5, by show n6 ≤ _; omega, fun c hc => (q6 c hc).2.2⟩,
          ⟨i0, i1, i3, fun c hc => (q0 c hc).2.2, fun c hc => (q1 c hc).2⟩⟩
end
end Go.Proofs.Ytbcldlbmbdfejaa
/- image: ImageCuts, out of what came in. No condition. -/
namespace Go.Proofs.Ytbcldlbmbdfejaa
open Go.ChangeShapes Go.WideShapes Go.ChangeAt Go.RowKit
def IsImg (w : World) (x : XW) : Prop := x.Rd w ∧ x.Right ∧ x.Fit
set_option maxRecDepth 100000 in
theorem open_img {H : Type} {enc : TypeId × Value → H} {w : World} {r : Reach} {b0 : Nat} {v : Value} {d : DataW H} {p : List MemPlace} (hv : Value.okWide Try.prog w r b0 30 v) (h : DataW.Trod enc Try.prog w 0 (fun _ => true) true 30 v d p) (hw : ∀ m ∈ d.weights Try.prog 30, m ≤ reachBytes) :
    ∃ x : XW, v = .agg x.vals ∧ IsImg w x := by
  obtain ⟨x, h1, h2, h3, h4⟩ := open_image hv h hw
  exact ⟨x, h1, h2, h3, h4⟩
theorem wf_natI {k : IntKind} {n m : Int} (h : (Lit.int k n).wf = true) (h0 : k.min = 0) (h1 : k.max = m) : ∃ x : Nat, n = x ∧ (x : Int) ≤ m := by
  unfold Lit.wf at h
  simp only [Bool.and_eq_true, decide_eq_true_eq] at h
  rw [h0, h1] at h
  exact ⟨n.toNat, by omega, by omega⟩
theorem walk_ImageCuts (x : XW) (a : Option Addr) (n cap : Nat) (cut more : Int) (w : World) (h0 : IsImg w x) (h1 : IsBss w a n cap) (h2 : (Lit.int .u16 cut).wf = true) (h3 : (Lit.int .u8 more).wf = true) :
    Calls Try.prog 4 #[.agg x.vals, .slice a n cap, .int .u16 cut, .int .u8 more] w fun e w' => e = .returned (.bool true) ∧ Below w.heap.size w w' := by
  obtain ⟨hx, hr, hf⟩ := h0
  obtain ⟨ct, rfl, hct⟩ := wf_natI (m := 65535) h2 rfl rfl
  obtain ⟨mo, rfl, hmo⟩ := wf_natI (m := 255) h3 rfl rfl
  exact walk_ImageCutsX w x hx hr hf a n cap h1 ct mo (by omega) (by omega)
end Go.Proofs.Ytbcldlbmbdfejaa
