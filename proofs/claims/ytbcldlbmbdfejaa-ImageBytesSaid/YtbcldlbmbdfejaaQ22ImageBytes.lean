/- image: the codes of an image's bytes. No condition. -/
import Derived.Test.YtbcldlbmbdfejaaQ21ImageBytes
import Derived.Test.YtbcldlbmbdfejaaQ16ImageBytes
import Derived.SizedLaws
namespace Go.Proofs.Ytbcldlbmbdfejaa
open Go.ChangeShapes Go.WideShapes Go.ChangeAt Go.RowKit
theorem oneBs : OneE 31 35 (.slice none 0 0) 24 := ⟨Try.underlying31, by kernel_rfl, rfl⟩
theorem Sl.partI {w : World} {b off n p l : Nat} {bs : List UInt8} (h : Sl encB w (some ⟨b, off, none⟩) n bs) (hp : p + l ≤ n) : Sl encB w (some ⟨b, off + p, none⟩) l ((bs.drop p).take l) := h.part hp
/-- What Codes answers. -/
def CodesRet (bs : List UInt8) (x : XW) (w : World) (e : Ending) (w' : World) : Prop :=
  ∃ (v : Value) (G : List BV), e = .returned (.tuple #[v, .bool true]) ∧ w'.ownsRow w.heap.size 35 1 v x.kn (G.map BV.enc) ∧ G.map (·.data) = x.ks.map (fun k => codeAt bs k.p) ∧ (∀ f ∈ G, BVf w f) ∧ Below w.heap.size w w'
set_option maxRecDepth 100000 in
set_option maxHeartbeats 16000000 in
theorem codes_any (w : World) (x : XW) (hx : x.Rd w) (a : Option Addr) (n cap : Nat) (bs : List UInt8) (hs : Sl encB w a n bs) (hcap : n ≤ cap) (hn0 : 0 < n) (hn : n ≤ 1048500) (hkn : x.kn ≤ 65536) (hk : ∀ k ∈ x.ks, codeIn bs k.p) :
    Calls Try.prog 13 #[.agg x.vals, .slice a n cap] w (CodesRet bs x w) := by
  have HX := Lib.hid hx
  have HK := Lib.hid hk
  have HLB := Lib.hid hs.1
  have HLK := Lib.hid hx.k.1
  obtain ⟨b, off, rfl, hbw, hc⟩ := hs.2 hn0
  have HS := Lib.hid hs
  clear hx hk hs hbw hc
  unfold CodesRet
  obtain ⟨ca, cn, cc, cs, ma, mn, mc, ms, st, sa, sn, sc, ss, ya, yn, yc, ys, xa, xn, xc, xs, ka, kn, kc, ks, main⟩ := x
  simp only at HLK HK hkn ⊢
  unfold XW.vals
  simp only
  have HIB := Lib.hid (heap_alloc_last w (.cells #[.slice ca cn cc, .slice ma mn mc, .int .i64 st, .slice sa sn sc, .slice ya yn yc, .slice xa xn xc, .slice ka kn kc, .int .i64 main] 30))
  have HB1 := Lib.hid ((Below.refl w.heap.size w).alloc (Nat.le_refl _) (.cells #[.slice ca cn cc, .slice ma mn mc, .int .i64 st, .slice sa sn sc, .slice ya yn yc, .slice xa xn xc, .slice ka kn kc, .int .i64 main] 30))
  go_enter Try.func13, Try.ntmps13
  go_upto_region 1 with fail
  generalize w.alloc _ = W1 at *
  have c6 := row_cell HIB.out 6 rfl
  have HO0 := Lib.hid (show W1.ownsRow w.heap.size 35 1 (.slice none 0 0) 0 (([] : List BV).map BV.enc) from ⟨rfl, .inl ⟨rfl, rfl⟩⟩)
  go_wp2_with fail
  go_loopg [12, 6] kn (fun gn i o wr => ∃ (j : Nat) (G : List BV), j ≤ kn ∧ gn = kn - j ∧ i = .int .i64 j ∧ Hid (wr.ownsRow w.heap.size 35 1 o j (G.map BV.enc)) ∧ Hid (G.map (·.data) = (ks.take j).map (fun k => codeAt bs k.p)) ∧ Hid (∀ f ∈ G, BVf w f) ∧ Hid (Below w.heap.size w wr))
  case atStart => exact ⟨0, [], by omega, by omega, by go_num, HO0, Lib.hid rfl, Lib.hid (fun f hf => by cases hf), HB1⟩
  case round =>
    clear c6
    obtain ⟨j, G, hj, rfl, rfl, HO, HG, HGF, HB⟩ := hrel
    by_cases hlt : j < kn
    · obtain ⟨b1, off1, x, rfl, hb1, hxj, p⟩ := (HX.out.k.below HB.out).get1 j hlt
      have hci := HK.out x (List.mem_of_getElem? hxj)
      have HST := Lib.hid (show (ks.take (j + 1)).map (fun k => codeAt bs k.p) = (ks.take j).map (fun k => codeAt bs k.p) ++ [codeAt bs x.p] by rw [take_snocX hxj, List.map_append]; rfl)
      obtain ⟨pos, len, stack, locals, args, ta, tn, tc, traps⟩ := x
      have p0 := p 0 (by omega)
      have p1 := p 1 (by omega)
      have p2 := p 2 (by omega)
      have p3 := p 3 (by omega)
      have p4 := p 4 (by omega)
      have p5 := p 5 (by omega)
      simp only [KW.vals, List.getElem?_cons_zero, List.getElem?_cons_succ, Nat.add_zero] at p0 p1 p2 p3 p4 p5
      unfold codeIn KW.p at hci
      simp only at hci
      obtain ⟨i1, i2, i3, i4⟩ := hci
      rw [HLB.out] at i3 i4
      obtain ⟨q, rfl⟩ : ∃ q : Nat, pos = q := ⟨pos.toNat, by omega⟩
      obtain ⟨l, rfl⟩ : ∃ l : Nat, len = l := ⟨len.toNat, by omega⟩
      have hql : q + l ≤ n := by omega
      replace HST := Lib.hid (show (ks.take (j + 1)).map (fun k => codeAt bs k.p) = (ks.take j).map (fun k => codeAt bs k.p) ++ [(bs.drop q).take l] from HST.out)
      clear p hxj i1 i2 i3 i4
      go_upto_region 5 with fail
      have hal : Below wr.heap.size wr (wr.alloc (.cells #[.int .i64 (q : Nat), .int .i64 (l : Nat), .int .i64 stack, .int .i64 locals, .int .i64 args, .slice ta tn tc] 62)) := (Below.refl _ _).alloc (Nat.le_refl _) _
      have HRA := Lib.hid (heap_alloc_last wr (.cells #[.int .i64 (q : Nat), .int .i64 (l : Nat), .int .i64 stack, .int .i64 locals, .int .i64 args, .slice ta tn tc] 62))
      have HBA := Lib.hid (HB.out.trans (hal.mono HB.out.size))
      have HOA := Lib.hid (own_below HO.out hal)
      clear hal HB HO p0 p1 p2 p3 p4 p5
      generalize wr.alloc (.cells #[.int .i64 (q : Nat), .int .i64 (l : Nat), .int .i64 stack, .int .i64 locals, .int .i64 args, .slice ta tn tc] 62) = WA at *
      generalize wr.heap.size = gA at *
      have a0 := row_cell HRA.out 0 rfl
      have a1 := row_cell HRA.out 1 rfl
      have ed1 : decide ((n : Int) < (q : Int)) = false := by simp; omega
      have ed2 : decide ((n : Int) - (q : Int) < (l : Int)) = false := by simp; omega
      obtain ⟨r, hr⟩ : ∃ r, r = q + l := ⟨_, rfl⟩
      have er : (q : Int) + (l : Int) = (r : Int) := by omega
      have hqr : q ≤ r := by omega
      have hrn : r ≤ n := by omega
      have hqr' : (q : Int) ≤ (r : Int) := by omega
      have hrc : (r : Int) ≤ (cap : Int) := by omega
      have HR := Lib.hid hr
      clear hr hql
      have hrl : r - q = l := by have := HR.out; omega
      have hqn : q + l ≤ n := by have := HR.out; omega
      have HPT := Lib.hid (HS.out.partI hqn)
      have HRL := Lib.hid hrl
      clear hrl hqn
      by_cases hcq : cap = q
      · obtain rfl : cap = q := hcq
        obtain rfl : cap = r := by omega
        have hl0 : l = 0 := by have := HRL.out; omega
        subst hl0
        have HBV := Lib.hid (show BVf w ⟨some ⟨b, off, none⟩, 0, 0, (bs.drop cap).take 0⟩ from ⟨Sl.nil _ _, Nat.le_refl _, Nat.zero_le _⟩)
        go_wp2_with (at_builtin; refine wpList_app_lit oneBs rfl _ _ rfl w.heap.size _ _ _ rfl HOA.out #[.slice (some ⟨b, off, none⟩) 0 0] 1 _ (by first | rfl | (go_simp; done) | (simp; done)) rfl rfl (by omega) (by unfold maxLen; omega) HBA.out.size ?_; intro v1 w1 hown1 hg1 hb1; have HO1 := Lib.hid hown1; have HB1 := Lib.hid (HBA.out.trans hb1); clear hown1 hb1 hg1)
        go_roundg (kn - (j + 1))
        case measure => omega
        case rel => exact ⟨j + 1, G ++ [⟨some ⟨b, off, none⟩, 0, 0, (bs.drop cap).take 0⟩], by omega, rfl, by go_num, Lib.hid (by rw [List.map_append]; exact HO1.out), Lib.hid (by rw [HST.out, List.map_append, HG.out]; rfl), Lib.hid (fun f hf => by
          rcases List.mem_append.1 hf with h | h
          · exact HGF.out f h
          · rw [List.mem_singleton.1 h]; exact HBV.out), HB1⟩
      · 
        have HBV := Lib.hid (show BVf w ⟨some ⟨b, off + q, none⟩, r - q, cap - q, (bs.drop q).take l⟩ from ⟨by rw [HRL.out]; exact HPT.out, by show r - q ≤ cap - q; omega, by show r - q ≤ maxLen; unfold maxLen; omega⟩)
        go_wp2_with (at_builtin; refine wpList_app_lit oneBs rfl _ _ rfl w.heap.size _ _ _ rfl HOA.out #[.slice (some ⟨b, off + q, none⟩) (r - q) (cap - q)] 1 _ (by first | rfl | (go_simp; done) | (simp; done)) rfl rfl (by omega) (by unfold maxLen; omega) HBA.out.size ?_; intro v1 w1 hown1 hg1 hb1; have HO1 := Lib.hid hown1; have HB1 := Lib.hid (HBA.out.trans hb1); clear hown1 hb1 hg1)
        go_roundg (kn - (j + 1))
        case measure => omega
        case rel => exact ⟨j + 1, G ++ [⟨some ⟨b, off + q, none⟩, r - q, cap - q, (bs.drop q).take l⟩], by omega, rfl, by go_num, Lib.hid (by rw [List.map_append]; exact HO1.out), Lib.hid (by rw [HST.out, List.map_append, HG.out]; rfl), Lib.hid (fun f hf => by
          rcases List.mem_append.1 hf with h | h
          · exact HGF.out f h
          · rw [List.mem_singleton.1 h]; exact HBV.out), HB1⟩
    · obtain rfl : kn = j := by omega
      go_wp2_with fail
      go_ret2
      exact ⟨_, G, rfl, HO.out, by rw [HG.out, List.take_of_length_le (by rw [HLK.out]; exact Nat.le_refl _)], HGF.out, HB.out⟩
end Go.Proofs.Ytbcldlbmbdfejaa
/- image: what is parsed is what was written, in plain Lean. No condition. -/
namespace Go.Proofs.Ytbcldlbmbdfejaa
open Go.ChangeShapes Go.WideShapes Go.ChangeAt Go.RowKit
theorem codes_of {x y : XW} {D : List (List UInt8)} {bs : List UInt8} (h : imgBytes x D = (0, bs)) (hy : y.p = readP x D) :
    y.ks.map (fun k => codeAt bs k.p) = D ∧ (∀ k ∈ y.ks, codeIn bs k.p) ∧ y.ks.length = x.ks.length ∧ D.length = x.ks.length := by
  obtain ⟨_, h2, _, h4, h5⟩ := parse_image h
  have hks : y.ks.map KW.p = kpL (startX x : Nat) (x.ks.zip D) := congrArg XP.ks hy
  have hz : (x.ks.zip D).map (·.2) = D := by rw [List.map_snd_zip]; omega
  have hbl : (magicB ++ bodyB x D).length = startX x := by
    have h1 : (bytesX x D).length = magicB.length + ((bodyB x D).length + D.flatten.length) := by rw [bytesX_body, List.length_append, List.length_append]
    have hlen := bytesX_len x D h5
    rw [flatten_len] at h1
    rw [List.length_append]
    omega
  obtain ⟨e1, e2⟩ := own_kpL (x.ks.zip D) (magicB ++ bodyB x D)
  rw [hbl, hz, List.append_assoc, ← bytesX_body, ← h2] at e1 e2
  rw [← hks] at e1 e2
  refine ⟨?_, ?_, ?_, h5⟩
  · rw [List.map_map] at e1; exact e1
  · intro k hk
    exact e2 _ (List.mem_map_of_mem hk)
  · have h6 := congrArg List.length hks
    rw [List.length_map] at h6
    rw [h6]
    have : ∀ (P : List (KW × List UInt8)) (pos : Int), (kpL pos P).length = P.length := by
      intro P
      induction P with
      | nil => intro pos; rfl
      | cons p P ih => intro pos; simp only [kpL, List.length_cons, ih]
    rw [this, List.length_zip]
    omega
theorem costC_mem {c : CW} {l : List CW} (h : c ∈ l) : c.rn + c.tn ≤ costC l := by
  induction l with
  | nil => cases h
  | cons d l ih =>
    unfold costC at ih ⊢
    simp only [List.map_cons, List.sum_cons]
    rcases List.mem_cons.1 h with rfl | h
    · omega
    · have := ih h; omega
theorem sameX_of {w : World} {x y : XW} {D : List (List UInt8)} {bs : List UInt8} (hx : x.Rd w) (hf : Few25P x) (h : imgBytes x D = (0, bs)) (hy : y.p = readP x D) : SameX x y := by
  obtain ⟨_, _, _, h4, h5⟩ := parse_image h
  obtain ⟨f1, f2, f3, f4, f5, f6, f7⟩ := hf
  have hmn : x.mn ≤ 600 := by have h1 := hx.m.1; have h2 := hx.k.1; omega
  have f1' := f1 hmn
  have hxp : y.p = ⟨y.cs.map CW.p, y.ms, y.st, y.ss, y.ys, y.xs, y.ks.map KW.p, y.main⟩ := rfl
  rw [hxp] at hy
  unfold readP at hy
  simp only [XP.mk.injEq] at hy
  obtain ⟨a1, a2, a3, a4, a5, a6, a7, a8⟩ := hy
  refine ⟨a1.symm, a2.symm, a3.symm, a4.symm, a5.symm, a6.symm, a8.symm, ?_, by omega, by omega, by omega, fun c hc => ?_, by omega, by omega, by omega, fun k hk => ?_⟩
  · have e := rest_readP x D h5
    show x.ks.map (fun k => KP.rest k.p) = y.ks.map (fun k => KP.rest k.p)
    have e1 : y.ks.map (fun k => KP.rest k.p) = (y.ks.map KW.p).map KP.rest := by rw [List.map_map]; rfl
    have e2 : x.ks.map (fun k => KP.rest k.p) = x.p.ks.map KP.rest := by show _ = (x.ks.map KW.p).map KP.rest; rw [List.map_map]; rfl
    rw [e1, e2, a7, ← e]
    rfl
  · have := costC_mem hc; omega
  · have := f7 k hk; omega
theorem parse_small {x : XP} {bs : List UInt8} (h : parseR bs = (x, 0)) : bs.length ≤ 262144 := by
  rcases Nat.lt_or_ge 262144 bs.length with h1 | h1
  · unfold parseR at h
    rw [if_pos h1] at h
    simp at h
  · exact h1
end Go.Proofs.Ytbcldlbmbdfejaa
/- A slice of structs that came in, opened once for all kinds, with the form's reach. No condition. -/
namespace Go.Proofs.Ytbcldlbmbdfejaa
open Go.ChangeShapes Go.WideShapes Go.ChangeAt Go.RowKit Go.Joins Go.Deep
theorem weightsAll_memO {H : Type} {P : Program} {e : TypeId} : ∀ {l : List (DataW H)} {d : DataW H}, d ∈ l → ∀ n ∈ d.weights P e, n ∈ DataW.weightsAll P e l
  | d' :: r, d, hd, n, hn => by
    simp only [DataW.weightsAll, List.mem_append]
    rcases List.mem_cons.1 hd with rfl | h
    · exact Or.inl hn
    · exact Or.inr (weightsAll_memO h n hn)
theorem open_many {H : Type} {enc : TypeId × Value → H} {w : World} {α : Type} {t e : TypeId} {z : Nat} (hz : 0 < z) (hu : Try.prog.underlying t = some (.slice e)) (hc : Try.prog.cellsOf e = z) (cells : α → List Value) (Q : α → Prop)
    (hitem : ∀ (fuel : Nat) (cs : List Value) (x : DataW H × List MemPlace), cs.length = z → DataW.trod enc Try.prog w 0 (fun _ => true) true fuel e cs = some x → (∀ n ∈ x.1.weights Try.prog e, n ≤ reachBytes) → ∃ c : α, cs = cells c ∧ Q c)
    {fuel : Nat} {a : Option Addr} {n cap : Nat} {x : DataW H × List MemPlace} (hf : DataW.trod enc Try.prog w 0 (fun _ => true) true fuel t [.slice a n cap] = some x) (hw : ∀ m ∈ x.1.weights Try.prog t, m ≤ reachBytes) :
    n ≤ cap ∧ n ≤ maxLen ∧ n * Try.prog.bytesOf e ≤ reachBytes ∧ ∃ L : List α, Ss z cells w a n L ∧ ∀ c ∈ L, Q c := by
  rcases open_slice hu hf with ⟨hcs, _⟩ | ⟨x', len, c, m, n', D, Pl, hcs, _, hl, hm, hmm, hx, hi⟩
  · simp at hcs
    obtain ⟨rfl, rfl, rfl⟩ := hcs
    exact ⟨by omega, by unfold maxLen; omega, by omega, [], Ss.nil _ _, fun c hc => by cases hc⟩
  · simp at hcs
    obtain ⟨rfl, rfl, rfl⟩ := hcs
    simp only [if_true] at hmm
    subst hmm
    subst hx
    have hreach : n * Try.prog.bytesOf e ≤ reachBytes := by
      have h1 := hw ((n + (m - n)) * Try.prog.bytesOf e) (by simp [DataW.weights, hu])
      exact Nat.le_trans (Nat.mul_le_mul_right _ (by omega)) h1
    refine ⟨hl, by omega, hreach, ?_⟩
    by_cases hn : 0 < n
    · have hsp : x'.spot = none := by
        obtain ⟨cs', hc', ht⟩ := hi 0 (by omega)
        rw [hc] at hc'
        obtain ⟨_, hcl, hat⟩ := World.cells?_some hc'
        have q0 := hat 0 hz
        rw [add_zeroL] at q0
        have h0 : 0 < cs'.length := by omega
        rw [List.getElem?_eq_getElem h0] at q0
        exact World.cell?_spot q0
      obtain ⟨b, off, spot⟩ := x'
      simp only at hsp
      subst hsp
      have key : ∀ i, i < n → ∃ c : α, (∀ j, j < z → w.cell? ⟨b, off + i * z + j, none⟩ = (cells c)[j]?) ∧ Q c ∧ (cells c).length = z := by
        intro i hin
        obtain ⟨cs', hc', ht⟩ := hi i (by omega)
        rw [hc] at hc'
        obtain ⟨_, hcl, hat⟩ := World.cells?_some hc'
        obtain ⟨c, rfl, hQ⟩ := hitem n' cs' _ hcl ht (fun k hk => hw k (by
          simp only [DataW.weights, hu, List.mem_cons, List.mem_append]
          exact Or.inr (Or.inl (weightsAll_memO (List.mem_map.2 ⟨i, List.mem_range.2 hin, rfl⟩) k hk))))
        refine ⟨c, fun j hj => ?_, hQ, hcl⟩
        have q := hat j hj
        rw [add_twoL] at q
        exact q
      obtain ⟨L, hL, hat⟩ := list_ofB n _ key
      refine ⟨L, ⟨hL, fun _ => ⟨b, off, rfl, ?_, fun i hi j hj => (hat i hi).1 j hj⟩⟩, fun c hc => ?_⟩
      · have q := (hat 0 (by omega)).1 0 hz
        have h0 : 0 < (cells (L[0]'(by omega))).length := by rw [(hat 0 (by omega)).2.2]; exact hz
        rw [List.getElem?_eq_getElem h0] at q
        exact World.block_lt_of_cell? w _ q
      · obtain ⟨i, hi, rfl⟩ := List.getElem_of_mem hc
        exact (hat i hi).2.1
    · have h0 : n = 0 := by omega
      subst h0
      exact ⟨[], Ss.nil _ _, fun c hc => by cases hc⟩
end Go.Proofs.Ytbcldlbmbdfejaa
/- image: the rows within an image that came in. No condition. -/
namespace Go.Proofs.Ytbcldlbmbdfejaa
open Go.ChangeShapes Go.WideShapes Go.ChangeAt Go.RowKit Go.Joins Go.Deep
theorem ofSs1 {α : Type} {enc : α → Value} {w : World} {a : Option Addr} {n : Nat} {L : List α} (h : Ss 1 (fun v => [enc v]) w a n L) : Sl enc w a n L := by
  refine ⟨h.1, fun hn => ?_⟩
  obtain ⟨b, off, ha, hlt, hc⟩ := h.2 hn
  refine ⟨b, off, ha, hlt, fun i hi => ?_⟩
  have := hc i hi 0 (by omega)
  simpa using this
theorem bytes_int : Try.prog.bytesOf 3 = 8 := by kernel_rfl
theorem bytes_trap : Try.prog.bytesOf 71 = 32 := by kernel_rfl
theorem cells_int : Try.prog.cellsOf 3 = 1 := by kernel_rfl
theorem cells_str : Try.prog.cellsOf 9 = 1 := by kernel_rfl
theorem cells_trap : Try.prog.cellsOf 71 = 4 := by kernel_rfl
theorem bytes_class : 32 ≤ Try.prog.bytesOf 82 := of_decide_eq_true (by kernel_rfl)
theorem bytes_meth : 32 ≤ Try.prog.bytesOf 87 := of_decide_eq_true (by kernel_rfl)
theorem bytes_code : 32 ≤ Try.prog.bytesOf 62 := of_decide_eq_true (by kernel_rfl)
theorem cells_class : Try.prog.cellsOf 82 = 5 := by kernel_rfl
theorem cells_meth : Try.prog.cellsOf 87 = 6 := by kernel_rfl
theorem cells_code : Try.prog.cellsOf 62 = 6 := by kernel_rfl
theorem one_of {cs : List Value} (h : cs.length = 1) : ∃ v, cs = [v] := by
  match cs, h with
  | [v], _ => exact ⟨v, rfl⟩
theorem reach_eqI : reachBytes = 140737488351232 := rfl
section
variable {H : Type} {enc : TypeId × Value → H} {w : World} {fuel : Nat} {a : Option Addr} {n cap : Nat} {x : DataW H × List MemPlace}
theorem str_ofI {v : Value} (hf : DataW.trod enc Try.prog w 0 (fun _ => true) true fuel 9 [v] = some x) (hw : ∀ m ∈ x.1.weights Try.prog 9, m ≤ reachBytes) : ∃ s : List UInt8, v = encS s ∧ s.length ≤ 140737488351232 := by
  obtain ⟨s, hcs, hx, h2⟩ := DataW.trod_string Try.underlying9 hf
  simp at hcs
  subst hcs hx
  refine ⟨s.data.toList, rfl, hw _ (by simp [DataW.weights])⟩
theorem open_intsI (hf : DataW.trod enc Try.prog w 0 (fun _ => true) true fuel 24 [.slice a n cap] = some x) (hw : ∀ m ∈ x.1.weights Try.prog 24, m ≤ reachBytes) :
    n ≤ cap ∧ n ≤ 140737488355328 ∧ ∃ L : List Int, Sl encZ w a n L ∧ ∀ v ∈ L, IntR v := by
  obtain ⟨h1, h2, h3, L, h4, h5⟩ := open_many (by omega) Try.underlying24 cells_int (fun v : Int => [encZ v]) IntR (fun fuel cs x hl ht _ => by
    obtain ⟨v, rfl⟩ := one_of hl
    obtain ⟨k, rfl, hk⟩ := int_ofL Try.underlying3 ht
    exact ⟨k, rfl, wf_i64L hk⟩) hf hw
  rw [bytes_int, reach_eqI] at h3
  exact ⟨h1, by omega, L, ofSs1 h4, h5⟩
theorem open_strsI (hf : DataW.trod enc Try.prog w 0 (fun _ => true) true fuel 27 [.slice a n cap] = some x) (hw : ∀ m ∈ x.1.weights Try.prog 27, m ≤ reachBytes) :
    n ≤ cap ∧ n ≤ 9223372036854775807 ∧ ∃ L : List (List UInt8), Sl encS w a n L := by
  obtain ⟨h1, h2, h3, L, h4, h5⟩ := open_many (by omega) Try.underlying27 cells_str (fun v : List UInt8 => [encS v]) (fun _ => True) (fun fuel cs x hl ht hx => by
    obtain ⟨v, rfl⟩ := one_of hl
    obtain ⟨k, rfl, hk⟩ := str_ofI ht hx
    exact ⟨k, rfl, trivial⟩) hf hw
  exact ⟨h1, by unfold maxLen at h2; omega, L, ofSs1 h4⟩
set_option maxRecDepth 100000 in
theorem open_trapsI (hf : DataW.trod enc Try.prog w 0 (fun _ => true) true fuel 60 [.slice a n cap] = some x) (hw : ∀ m ∈ x.1.weights Try.prog 60, m ≤ reachBytes) :
    n ≤ cap ∧ n ≤ 140737488355328 ∧ ∃ L : List TW, Ss 4 TW.vals w a n L ∧ ∀ t ∈ L, t.right := by
  obtain ⟨h1, h2, h3, L, h4, h5⟩ := open_many (by omega) Try.underlying60 cells_trap TW.vals TW.right (fun fuel cs x hl ht _ => by
    match cs, hl with
    | [c0, c1, c2, c3], _ =>
      obtain ⟨xs, k, _, _, _, hlen, hg⟩ := DataW.trod_struct Try.underlying71 ht
      match xs, hlen with
      | [y0, y1, y2, y3], _ =>
        have g0 : DataW.trod enc Try.prog w 0 (fun _ => true) true k 3 [c0] = some y0 := hg 0 _ rfl
        have g1 : DataW.trod enc Try.prog w 0 (fun _ => true) true k 3 [c1] = some y1 := hg 1 _ rfl
        have g2 : DataW.trod enc Try.prog w 0 (fun _ => true) true k 3 [c2] = some y2 := hg 2 _ rfl
        have g3 : DataW.trod enc Try.prog w 0 (fun _ => true) true k 3 [c3] = some y3 := hg 3 _ rfl
        obtain ⟨e0, rfl, w0⟩ := int_ofL Try.underlying3 g0
        obtain ⟨e1, rfl, w1⟩ := int_ofL Try.underlying3 g1
        obtain ⟨e2, rfl, w2⟩ := int_ofL Try.underlying3 g2
        obtain ⟨e3, rfl, w3⟩ := int_ofL Try.underlying3 g3
        exact ⟨⟨e0, e1, e2, e3⟩, rfl, wf_i64L w0, wf_i64L w1, wf_i64L w2, wf_i64L w3⟩) hf hw
  rw [bytes_trap, reach_eqI] at h3
  exact ⟨h1, by omega, L, h4, h5⟩
theorem sl_ofI {t e : TypeId} {v : Value} (ht : Try.prog.underlying t = some (.slice e)) (hf : DataW.trod enc Try.prog w 0 (fun _ => true) true fuel t [v] = some x) : ∃ a n c, v = .slice a n c := by
  rcases open_slice ht hf with ⟨hcs, _⟩ | ⟨x', len, c, m, n', D, Pl, hcs, _⟩
  · simp at hcs
    exact ⟨none, 0, 0, hcs⟩
  · simp at hcs
    exact ⟨some x', len, c, hcs⟩
def ClassQ (w : World) (c : CW) : Prop := c.Rd w ∧ c.right ∧ c.rn ≤ 140737488355328 ∧ c.tn ≤ 140737488355328 ∧ c.name.length ≤ 140737488355328
set_option maxRecDepth 100000 in
theorem open_classesI (hf : DataW.trod enc Try.prog w 0 (fun _ => true) true fuel 22 [.slice a n cap] = some x) (hw : ∀ m ∈ x.1.weights Try.prog 22, m ≤ reachBytes) :
    n ≤ cap ∧ n ≤ 140737488355328 ∧ ∃ L : List CW, Ss 5 CW.vals w a n L ∧ ∀ c ∈ L, ClassQ w c := by
  obtain ⟨h1, h2, h3, L, h4, h5⟩ := open_many (by omega) Try.underlying22 cells_class CW.vals (ClassQ w) (fun fuel cs x hl ht hx => by
    match cs, hl with
    | [c0, c1, c2, c3, c4], _ =>
      obtain ⟨xs, k, _, hxe, _, hlen, hg⟩ := DataW.trod_struct Try.underlying82 ht
      subst hxe
      match xs, hlen with
      | [y0, y1, y2, y3, y4], _ =>
        have g0 : DataW.trod enc Try.prog w 0 (fun _ => true) true k 9 [c0] = some y0 := hg 0 _ rfl
        have g1 : DataW.trod enc Try.prog w 0 (fun _ => true) true k 3 [c1] = some y1 := hg 1 _ rfl
        have g2 : DataW.trod enc Try.prog w 0 (fun _ => true) true k 3 [c2] = some y2 := hg 2 _ rfl
        have g3 : DataW.trod enc Try.prog w 0 (fun _ => true) true k 24 [c3] = some y3 := hg 3 _ rfl
        have g4 : DataW.trod enc Try.prog w 0 (fun _ => true) true k 24 [c4] = some y4 := hg 4 _ rfl
        have hx' : ∀ m ∈ DataW.weightsEach Try.prog [9, 3, 3, 24, 24] [y0.1, y1.1, y2.1, y3.1, y4.1], m ≤ reachBytes := fun m hm => hx m (by
          simp only [DataW.weights, Try.underlying82]
          exact hm)
        obtain ⟨e0, rfl, w0⟩ := str_ofI g0 fun m hm => hx' m (DataW.weights_mem_each (j := 0) rfl rfl m hm)
        obtain ⟨e1, rfl, w1⟩ := int_ofL Try.underlying3 g1
        obtain ⟨e2, rfl, w2⟩ := int_ofL Try.underlying3 g2
        obtain ⟨a3, n3, k3, rfl⟩ := sl_ofI Try.underlying24 g3
        obtain ⟨a4, n4, k4, rfl⟩ := sl_ofI Try.underlying24 g4
        obtain ⟨p1, p2, L3, p3, p4⟩ := open_intsI g3 fun m hm => hx' m (DataW.weights_mem_each (j := 3) rfl rfl m hm)
        obtain ⟨q1, q2, L4, q3, q4⟩ := open_intsI g4 fun m hm => hx' m (DataW.weights_mem_each (j := 4) rfl rfl m hm)
        exact ⟨⟨e0, e1, e2, a3, n3, k3, L3, a4, n4, k4, L4⟩, rfl, ⟨p3, q3, p1, q1⟩, ⟨wf_i64L w1, wf_i64L w2, p4, q4⟩, p2, q2, by show e0.length ≤ _; omega⟩) hf hw
  have hb := bytes_class
  rw [reach_eqI] at h3
  exact ⟨h1, by have := Nat.mul_le_mul_left n hb; omega, L, h4, h5⟩
end
end Go.Proofs.Ytbcldlbmbdfejaa
/- image: the methods and codes of an image that came in. No condition. -/
namespace Go.Proofs.Ytbcldlbmbdfejaa
open Go.ChangeShapes Go.WideShapes Go.ChangeAt Go.RowKit Go.Joins Go.Deep
section
variable {H : Type} {enc : TypeId × Value → H} {w : World} {fuel : Nat} {a : Option Addr} {n cap : Nat} {x : DataW H × List MemPlace}
theorem bool_ofI {v : Value} (hf : DataW.trod enc Try.prog w 0 (fun _ => true) true fuel 4 [v] = some x) : ∃ b, v = .bool b := by
  obtain ⟨b, hcs, _⟩ := DataW.trod_bool Try.underlying4 hf
  simp at hcs
  exact ⟨b, hcs⟩
def MethQ (m : MW) : Prop := m.right ∧ m.name.length ≤ 140737488355328 ∧ m.desc.length ≤ 140737488355328
set_option maxRecDepth 100000 in
theorem open_methsI (hf : DataW.trod enc Try.prog w 0 (fun _ => true) true fuel 23 [.slice a n cap] = some x) (hw : ∀ m ∈ x.1.weights Try.prog 23, m ≤ reachBytes) :
    n ≤ cap ∧ n ≤ 140737488355328 ∧ ∃ L : List MW, Ss 6 MW.vals w a n L ∧ ∀ c ∈ L, MethQ c := by
  obtain ⟨h1, h2, h3, L, h4, h5⟩ := open_many (by omega) Try.underlying23 cells_meth MW.vals MethQ (fun fuel cs x hl ht hx => by
    match cs, hl with
    | [c0, c1, c2, c3, c4, c5], _ =>
      obtain ⟨xs, k, _, hxe, _, hlen, hg⟩ := DataW.trod_struct Try.underlying87 ht
      subst hxe
      match xs, hlen with
      | [y0, y1, y2, y3, y4, y5], _ =>
        have g0 : DataW.trod enc Try.prog w 0 (fun _ => true) true k 3 [c0] = some y0 := hg 0 _ rfl
        have g1 : DataW.trod enc Try.prog w 0 (fun _ => true) true k 9 [c1] = some y1 := hg 1 _ rfl
        have g2 : DataW.trod enc Try.prog w 0 (fun _ => true) true k 9 [c2] = some y2 := hg 2 _ rfl
        have g3 : DataW.trod enc Try.prog w 0 (fun _ => true) true k 4 [c3] = some y3 := hg 3 _ rfl
        have g4 : DataW.trod enc Try.prog w 0 (fun _ => true) true k 3 [c4] = some y4 := hg 4 _ rfl
        have g5 : DataW.trod enc Try.prog w 0 (fun _ => true) true k 3 [c5] = some y5 := hg 5 _ rfl
        have hx' : ∀ m ∈ DataW.weightsEach Try.prog [3, 9, 9, 4, 3, 3] [y0.1, y1.1, y2.1, y3.1, y4.1, y5.1], m ≤ reachBytes := fun m hm => hx m (by
          simp only [DataW.weights, Try.underlying87]
          exact hm)
        obtain ⟨e0, rfl, w0⟩ := int_ofL Try.underlying3 g0
        obtain ⟨e1, rfl, w1⟩ := str_ofI g1 fun m hm => hx' m (DataW.weights_mem_each (j := 1) rfl rfl m hm)
        obtain ⟨e2, rfl, w2⟩ := str_ofI g2 fun m hm => hx' m (DataW.weights_mem_each (j := 2) rfl rfl m hm)
        obtain ⟨e3, rfl⟩ := bool_ofI g3
        obtain ⟨e4, rfl, w4⟩ := int_ofL Try.underlying3 g4
        obtain ⟨e5, rfl, w5⟩ := int_ofL Try.underlying3 g5
        exact ⟨⟨e0, e1, e2, e3, e4, e5⟩, rfl, ⟨wf_i64L w0, wf_i64L w4, wf_i64L w5⟩, by show e1.length ≤ _; omega, by show e2.length ≤ _; omega⟩) hf hw
  have hb := bytes_meth
  rw [reach_eqI] at h3
  exact ⟨h1, by have := Nat.mul_le_mul_left n hb; omega, L, h4, h5⟩
def CodeQ (w : World) (k : KW) : Prop := k.Rd w ∧ k.right ∧ k.tn ≤ 9223372036854775807
set_option maxRecDepth 100000 in
theorem open_codesI (hf : DataW.trod enc Try.prog w 0 (fun _ => true) true fuel 28 [.slice a n cap] = some x) (hw : ∀ m ∈ x.1.weights Try.prog 28, m ≤ reachBytes) :
    n ≤ cap ∧ n ≤ 140737488355328 ∧ ∃ L : List KW, Ss 6 KW.vals w a n L ∧ ∀ c ∈ L, CodeQ w c := by
  obtain ⟨h1, h2, h3, L, h4, h5⟩ := open_many (by omega) Try.underlying28 cells_code KW.vals (CodeQ w) (fun fuel cs x hl ht hx => by
    match cs, hl with
    | [c0, c1, c2, c3, c4, c5], _ =>
      obtain ⟨xs, k, _, hxe, _, hlen, hg⟩ := DataW.trod_struct Try.underlying62 ht
      subst hxe
      match xs, hlen with
      | [y0, y1, y2, y3, y4, y5], _ =>
        have g0 : DataW.trod enc Try.prog w 0 (fun _ => true) true k 3 [c0] = some y0 := hg 0 _ rfl
        have g1 : DataW.trod enc Try.prog w 0 (fun _ => true) true k 3 [c1] = some y1 := hg 1 _ rfl
        have g2 : DataW.trod enc Try.prog w 0 (fun _ => true) true k 3 [c2] = some y2 := hg 2 _ rfl
        have g3 : DataW.trod enc Try.prog w 0 (fun _ => true) true k 3 [c3] = some y3 := hg 3 _ rfl
        have g4 : DataW.trod enc Try.prog w 0 (fun _ => true) true k 3 [c4] = some y4 := hg 4 _ rfl
        have g5 : DataW.trod enc Try.prog w 0 (fun _ => true) true k 60 [c5] = some y5 := hg 5 _ rfl
        have hx' : ∀ m ∈ DataW.weightsEach Try.prog [3, 3, 3, 3, 3, 60] [y0.1, y1.1, y2.1, y3.1, y4.1, y5.1], m ≤ reachBytes := fun m hm => hx m (by
          simp only [DataW.weights, Try.underlying62]
          exact hm)
        obtain ⟨e0, rfl, w0⟩ := int_ofL Try.underlying3 g0
        obtain ⟨e1, rfl, w1⟩ := int_ofL Try.underlying3 g1
        obtain ⟨e2, rfl, w2⟩ := int_ofL Try.underlying3 g2
        obtain ⟨e3, rfl, w3⟩ := int_ofL Try.underlying3 g3
        obtain ⟨e4, rfl, w4⟩ := int_ofL Try.underlying3 g4
        obtain ⟨a5, n5, k5, rfl⟩ := sl_ofI Try.underlying60 g5
        obtain ⟨q1, q2, L5, q3, q4⟩ := open_trapsI g5 fun m hm => hx' m (DataW.weights_mem_each (j := 5) rfl rfl m hm)
        exact ⟨⟨e0, e1, e2, e3, e4, a5, n5, k5, L5⟩, rfl, ⟨q3, q1⟩, ⟨wf_i64L w0, wf_i64L w1, wf_i64L w2, wf_i64L w3, wf_i64L w4, q4⟩, by show n5 ≤ _; omega⟩) hf hw
  have hb := bytes_code
  rw [reach_eqI] at h3
  exact ⟨h1, by have := Nat.mul_le_mul_left n hb; omega, L, h4, h5⟩
end
end Go.Proofs.Ytbcldlbmbdfejaa
/- image: an image that came in. No condition. -/
namespace Go.Proofs.Ytbcldlbmbdfejaa
open Go.ChangeShapes Go.WideShapes Go.ChangeAt Go.RowKit Go.Joins Go.Deep
theorem cells_image : Try.prog.cellsOf 30 = 8 := by kernel_rfl
section
variable {H : Type} {enc : TypeId × Value → H} {w : World} {r : Reach} {b0 : Nat} {v : Value} {d : DataW H} {p : List MemPlace}
set_option maxRecDepth 100000 in
theorem open_image (hv : Value.okWide Try.prog w r b0 30 v) (h : DataW.Trod enc Try.prog w 0 (fun _ => true) true 30 v d p) (hw : ∀ m ∈ d.weights Try.prog 30, m ≤ reachBytes) :
    ∃ x : XW, v = .agg x.vals ∧ x.Rd w ∧ x.Right ∧ x.Fit := by
  obtain ⟨cs, rfl, hsz⟩ := okWide_struct Try.underlying30 hv
  obtain ⟨fuel, hf⟩ := h
  obtain ⟨cl⟩ := cs
  have hl : cl.length = 8 := hsz.trans cells_image
  match cl, hl with
  | [c0, c1, c2, c3, c4, c5, c6, c7], _ =>
    have hf : DataW.trod enc Try.prog w 0 (fun _ => true) true fuel 30 [c0, c1, c2, c3, c4, c5, c6, c7] = some (d, p) := hf
    obtain ⟨xs, k, _, hxe, _, hlen, hg⟩ := DataW.trod_struct Try.underlying30 hf
    match xs, hlen with
    | [y0, y1, y2, y3, y4], _ =>
      have g0 : DataW.trod enc Try.prog w 0 (fun _ => true) true k 26 [c0, c1, c2, c3] = some y0 := hg 0 _ rfl
      have g1 : DataW.trod enc Try.prog w 0 (fun _ => true) true k 27 [c4] = some y1 := hg 1 _ rfl
      have g2 : DataW.trod enc Try.prog w 0 (fun _ => true) true k 27 [c5] = some y2 := hg 2 _ rfl
      have g3 : DataW.trod enc Try.prog w 0 (fun _ => true) true k 28 [c6] = some y3 := hg 3 _ rfl
      have g4 : DataW.trod enc Try.prog w 0 (fun _ => true) true k 3 [c7] = some y4 := hg 4 _ rfl
      have hd : d = .agg [y0.1, y1.1, y2.1, y3.1, y4.1] := congrArg Prod.fst hxe
      subst hd
      have hx' : ∀ m ∈ DataW.weightsEach Try.prog [26, 27, 27, 28, 3] [y0.1, y1.1, y2.1, y3.1, y4.1], m ≤ reachBytes := fun m hm => hw m (by
        simp only [DataW.weights, Try.underlying30]
        exact hm)
      obtain ⟨zs, k2, _, hze, _, hlen2, hg2⟩ := DataW.trod_struct Try.underlying26 g0
      match zs, hlen2 with
      | [z0, z1, z2, z3], _ =>
        have f0 : DataW.trod enc Try.prog w 0 (fun _ => true) true k2 22 [c0] = some z0 := hg2 0 _ rfl
        have f1 : DataW.trod enc Try.prog w 0 (fun _ => true) true k2 23 [c1] = some z1 := hg2 1 _ rfl
        have f2 : DataW.trod enc Try.prog w 0 (fun _ => true) true k2 3 [c2] = some z2 := hg2 2 _ rfl
        have f3 : DataW.trod enc Try.prog w 0 (fun _ => true) true k2 24 [c3] = some z3 := hg2 3 _ rfl
        have hy : y0.1 = .agg [z0.1, z1.1, z2.1, z3.1] := congrArg Prod.fst hze
        have hx2 : ∀ m ∈ DataW.weightsEach Try.prog [22, 23, 3, 24] [z0.1, z1.1, z2.1, z3.1], m ≤ reachBytes := fun m hm => hx' m (DataW.weights_mem_each (j := 0) rfl rfl m (by
          rw [hy]
          simp only [DataW.weights, Try.underlying26]
          exact hm))
        obtain ⟨a0, n0, k0, rfl⟩ := sl_ofI Try.underlying22 f0
        obtain ⟨a1, n1, k1, rfl⟩ := sl_ofI Try.underlying23 f1
        obtain ⟨e2, rfl, w2⟩ := int_ofL Try.underlying3 f2
        obtain ⟨a3, n3, k3, rfl⟩ := sl_ofI Try.underlying24 f3
        obtain ⟨a4, n4, k4, rfl⟩ := sl_ofI Try.underlying27 g1
        obtain ⟨a5, n5, k5, rfl⟩ := sl_ofI Try.underlying27 g2
        obtain ⟨a6, n6, k6, rfl⟩ := sl_ofI Try.underlying28 g3
        obtain ⟨e7, rfl, w7⟩ := int_ofL Try.underlying3 g4
        obtain ⟨_, i0, L0, s0, q0⟩ := open_classesI f0 fun m hm => hx2 m (DataW.weights_mem_each (j := 0) rfl rfl m hm)
        obtain ⟨_, i1, L1, s1, q1⟩ := open_methsI f1 fun m hm => hx2 m (DataW.weights_mem_each (j := 1) rfl rfl m hm)
        obtain ⟨_, i3, L3, s3, q3⟩ := open_intsI f3 fun m hm => hx2 m (DataW.weights_mem_each (j := 3) rfl rfl m hm)
        obtain ⟨_, i4, L4, s4⟩ := open_strsI g1 fun m hm => hx' m (DataW.weights_mem_each (j := 1) rfl rfl m hm)
        obtain ⟨_, i5, L5, s5⟩ := open_strsI g2 fun m hm => hx' m (DataW.weights_mem_each (j := 2) rfl rfl m hm)
        obtain ⟨_, i6, L6, s6, q6⟩ := open_codesI g3 fun m hm => hx' m (DataW.weights_mem_each (j := 3) rfl rfl m hm)
        exact ⟨⟨a0, n0, k0, L0, a1, n1, k1, L1, e2, a3, n3, k3, L3, a4, n4, k4, L4, a5, n5, k5, L5, a6, n6, k6, L6, e7⟩, rfl,
          ⟨s0, fun c hc => (q0 c hc).1, s1, s3, s4, s5, s6, fun c hc => (q6 c hc).1⟩,
          ⟨wf_i64L w2, wf_i64L w7, fun c hc => (q0 c hc).2.1, fun c hc => (q1 c hc).1, q3, fun c hc => (q6 c hc).2.1, by show n0 ≤ _; omega, by show n1 ≤ _; omega, i4, i5, by show n6 ≤ _; omega, fun c hc => (q6 c hc).2.2⟩,
          ⟨i0, i1, i3, fun c hc => (q0 c hc).2.2, fun c hc => (q1 c hc).2⟩⟩
end
end Go.Proofs.Ytbcldlbmbdfejaa
/- image: ImageCuts, out of what came in. No condition. -/
namespace Go.Proofs.Ytbcldlbmbdfejaa
open Go.ChangeShapes Go.WideShapes Go.ChangeAt Go.RowKit
def IsImg (w : World) (x : XW) : Prop := x.Rd w ∧ x.Right ∧ x.Fit
set_option maxRecDepth 100000 in
theorem open_img {H : Type} {enc : TypeId × Value → H} {w : World} {r : Reach} {b0 : Nat} {v : Value} {d : DataW H} {p : List MemPlace} (hv : Value.okWide Try.prog w r b0 30 v) (h : DataW.Trod enc Try.prog w 0 (fun _ => true) true 30 v d p) (hw : ∀ m ∈ d.weights Try.prog 30, m ≤ reachBytes) :
    ∃ x : XW, v = .agg x.vals ∧ IsImg w x := by
  obtain ⟨x, h1, h2, h3, h4⟩ := open_image hv h hw
  exact ⟨x, h1, h2, h3, h4⟩
theorem wf_natI {k : IntKind} {n m : Int} (h : (Lit.int k n).wf = true) (h0 : k.min = 0) (h1 : k.max = m) : ∃ x : Nat, n = x ∧ (x : Int) ≤ m := by
  unfold Lit.wf at h
  simp only [Bool.and_eq_true, decide_eq_true_eq] at h
  rw [h0, h1] at h
  exact ⟨n.toNat, by omega, by omega⟩
theorem walk_ImageCuts (x : XW) (a : Option Addr) (n cap : Nat) (cut more : Int) (w : World) (h0 : IsImg w x) (h1 : IsBss w a n cap) (h2 : (Lit.int .u16 cut).wf = true) (h3 : (Lit.int .u8 more).wf = true) :
    Calls Try.prog 4 #[.agg x.vals, .slice a n cap, .int .u16 cut, .int .u8 more] w fun e w' => e = .returned (.bool true) ∧ Below w.heap.size w w' := by
  obtain ⟨hx, hr, hf⟩ := h0
  obtain ⟨ct, rfl, hct⟩ := wf_natI (m := 65535) h2 rfl rfl
  obtain ⟨mo, rfl, hmo⟩ := wf_natI (m := 255) h3 rfl rfl
  exact walk_ImageCutsX w x hx hr hf a n cap h1 ct mo (by omega) (by omega)
end Go.Proofs.Ytbcldlbmbdfejaa
