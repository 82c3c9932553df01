/- A slice of structs that came in, opened once for all kinds, with the form's reach. No condition. -/
import Derived.Test.YtnfhiakdbakpgaaQ30KlassCuts
import Derived.Lib.SmallJoins
import Derived.OpenShut
import Derived.SizedLaws
namespace Go.Proofs.Ytnfhiakdbakpgaa
open Go.ChangeShapes Go.WideShapes Go.ChangeAt Go.RowKit Go.Joins Go.Deep
theorem list_ofB {α : Type} (n : Nat) (P : Nat → α → Prop) (h : ∀ i, i < n → ∃ x, P i x) : ∃ L : List α, L.length = n ∧ ∀ i (hi : i < L.length), P i L[i] := by
  induction n with
  | zero => exact ⟨[], rfl, fun i hi => by simp at hi⟩
  | succ n ih =>
    obtain ⟨L, hl, hL⟩ := ih (fun i hi => h i (by omega))
    obtain ⟨x, hx⟩ := h n (by omega)
    refine ⟨L ++ [x], by simp [hl], fun i hi => ?_⟩
    by_cases hin : i < L.length
    · rw [List.getElem_append_left hin]; exact hL i hin
    · have : i = n := by simp at hi; omega
      subst this
      rw [List.getElem_append_right (by omega)]
      simpa [hl] using hx
theorem add_twoL (b off k j : Nat) : ((⟨b, off, none⟩ : Addr).add k).add j = ⟨b, off + k + j, none⟩ := by rw [addr_add, addr_add]
theorem add_zeroL (x : Addr) (k : Nat) : (x.add (0 * k)).add 0 = x := by simp [Addr.add]
theorem wf_i64L {n : Int} (h : (Lit.int .i64 n).wf = true) : IntR n := bounds_i64 h
theorem ofSs1 {α : Type} {enc : α → Value} {w : World} {a : Option Addr} {n : Nat} {L : List α} (h : Ss 1 (fun v => [enc v]) w a n L) : Sl enc w a n L := by
  refine ⟨h.1, fun hn => ?_⟩
  obtain ⟨b, off, ha, hlt, hc⟩ := h.2 hn
  refine ⟨b, off, ha, hlt, fun i hi => ?_⟩
  have := hc i hi 0 (by omega)
  simpa using this
theorem one_of {cs : List Value} (h : cs.length = 1) : ∃ v, cs = [v] := by
  match cs, h with
  | [v], _ => exact ⟨v, rfl⟩
theorem reach_eqI : reachBytes = 140737488351232 := rfl
theorem int_ofL {H : Type} {enc : TypeId × Value → H} {w : World} {k : IntKind} {t : TypeId} {fuel : Nat} {v : Value} {x : DataW H × List MemPlace} (ht : Try.prog.underlying t = some (.int k)) (hf : DataW.trod enc Try.prog w 0 (fun _ => true) true fuel t [v] = some x) : ∃ n, v = .int k n ∧ (Lit.int k n).wf = true := by
  obtain ⟨n, hcs, _, hw⟩ := DataW.trod_int ht hf
  simp at hcs
  exact ⟨n, hcs, hw⟩
theorem str_ofI {H : Type} {enc : TypeId × Value → H} {w : World} {fuel : Nat} {x : DataW H × List MemPlace} {v : Value} (hf : DataW.trod enc Try.prog w 0 (fun _ => true) true fuel 9 [v] = some x) (hw : ∀ m ∈ x.1.weights Try.prog 9, m ≤ reachBytes) : ∃ s : List UInt8, v = .string ⟨s.toArray⟩ ∧ s.length ≤ 140737488351232 := by
  obtain ⟨s, hcs, hx, h2⟩ := DataW.trod_string Try.underlying9 hf
  simp at hcs
  subst hcs hx
  refine ⟨s.data.toList, rfl, hw _ (by simp [DataW.weights])⟩
theorem sl_ofI {H : Type} {enc : TypeId × Value → H} {w : World} {fuel : Nat} {x : DataW H × List MemPlace} {t e : TypeId} {v : Value} (ht : Try.prog.underlying t = some (.slice e)) (hf : DataW.trod enc Try.prog w 0 (fun _ => true) true fuel t [v] = some x) : ∃ a n c, v = .slice a n c := by
  rcases open_slice ht hf with ⟨hcs, _⟩ | ⟨x', len, c, m, n', D, Pl, hcs, _⟩
  · simp at hcs
    exact ⟨none, 0, 0, hcs⟩
  · simp at hcs
    exact ⟨some x', len, c, hcs⟩
theorem weightsAll_memO {H : Type} {P : Program} {e : TypeId} : ∀ {l : List (DataW H)} {d : DataW H}, d ∈ l → ∀ n ∈ d.weights P e, n ∈ DataW.weightsAll P e l
  | d' :: r, d, hd, n, hn => by
    simp only [DataW.weightsAll, List.mem_append]
    rcases List.mem_cons.1 hd with rfl | h
    · exact Or.inl hn
    · exact Or.inr (weightsAll_memO h n hn)
theorem open_many {H : Type} {enc : TypeId × Value → H} {w : World} {α : Type} {t e : TypeId} {z : Nat} (hz : 0 < z) (hu : Try.prog.underlying t = some (.slice e)) (hc : Try.prog.cellsOf e = z) (cells : α → List Value) (Q : α → Prop)
    (hitem : ∀ (fuel : Nat) (cs : List Value) (x : DataW H × List MemPlace), cs.length = z → DataW.trod enc Try.prog w 0 (fun _ => true) true fuel e cs = some x → (∀ n ∈ x.1.weights Try.prog e, n ≤ reachBytes) → ∃ c : α, cs = cells c ∧ Q c)
    {fuel : Nat} {a : Option Addr} {n cap : Nat} {x : DataW H × List MemPlace} (hf : DataW.trod enc Try.prog w 0 (fun _ => true) true fuel t [.slice a n cap] = some x) (hw : ∀ m ∈ x.1.weights Try.prog t, m ≤ reachBytes) :
    n ≤ cap ∧ n ≤ maxLen ∧ n * Try.prog.bytesOf e ≤ reachBytes ∧ ∃ L : List α, Ss z cells w a n L ∧ ∀ c ∈ L, Q c := by
  rcases open_slice hu hf with ⟨hcs, _⟩ | ⟨x', len, c, m, n', D, Pl, hcs, _, hl, hm, hmm, hx, hi⟩
  · simp at hcs
    obtain ⟨rfl, rfl, rfl⟩ := hcs
    exact ⟨by omega, by unfold maxLen; omega, by omega, [], Ss.nil _ _, fun c hc => by cases hc⟩
  · simp at hcs
    obtain ⟨rfl, rfl, rfl⟩ := hcs
    simp only [if_true] at hmm
    subst hmm
    subst hx
    have hreach : n * Try.prog.bytesOf e ≤ reachBytes := by
      have h1 := hw ((n + (m - n)) * Try.prog.bytesOf e) (by simp [DataW.weights, hu])
      exact Nat.le_trans (Nat.mul_le_mul_right _ (by omega)) h1
    refine ⟨hl, by omega, hreach, ?_⟩
    by_cases hn : 0 < n
    · have hsp : x'.spot = none := by
        obtain ⟨cs', hc', ht⟩ := hi 0 (by omega)
        rw [hc] at hc'
        obtain ⟨_, hcl, hat⟩ := World.cells?_some hc'
        have q0 := hat 0 hz
        rw [add_zeroL] at q0
        have h0 : 0 < cs'.length := by omega
        rw [List.getElem?_eq_getElem h0] at q0
        exact World.cell?_spot q0
      obtain ⟨b, off, spot⟩ := x'
      simp only at hsp
      subst hsp
      have key : ∀ i, i < n → ∃ c : α, (∀ j, j < z → w.cell? ⟨b, off + i * z + j, none⟩ = (cells c)[j]?) ∧ Q c ∧ (cells c).length = z := by
        intro i hin
        obtain ⟨cs', hc', ht⟩ := hi i (by omega)
        rw [hc] at hc'
        obtain ⟨_, hcl, hat⟩ := World.cells?_some hc'
        obtain ⟨c, rfl, hQ⟩ := hitem n' cs' _ hcl ht (fun k hk => hw k (by
          simp only [DataW.weights, hu, List.mem_cons, List.mem_append]
          exact Or.inr (Or.inl (weightsAll_memO (List.mem_map.2 ⟨i, List.mem_range.2 hin, rfl⟩) k hk))))
        refine ⟨c, fun j hj => ?_, hQ, hcl⟩
        have q := hat j hj
        rw [add_twoL] at q
        exact q
      obtain ⟨L, hL, hat⟩ := list_ofB n _ key
      refine ⟨L, ⟨hL, fun _ => ⟨b, off, rfl, ?_, fun i hi j hj => (hat i hi).1 j hj⟩⟩, fun c hc => ?_⟩
      · have q := (hat 0 (by omega)).1 0 hz
        have h0 : 0 < (cells (L[0]'(by omega))).length := by rw [(hat 0 (by omega)).2.2]; exact hz
        rw [List.getElem?_eq_getElem h0] at q
        exact World.block_lt_of_cell? w _ q
      · obtain ⟨i, hi, rfl⟩ := List.getElem_of_mem hc
        exact (hat i hi).2.1
    · have h0 : n = 0 := by omega
      subst h0
      exact ⟨[], Ss.nil _ _, fun c hc => by cases hc⟩
end Go.Proofs.Ytnfhiakdbakpgaa
/- klass: a class that came in (printed by gen/klopen.py). No condition. -/
namespace Go.Proofs.Ytnfhiakdbakpgaa
open Go.ChangeShapes Go.WideShapes Go.ChangeAt Go.RowKit Go.Joins Go.Deep
theorem cellsK_u8 : Try.prog.cellsOf 5 = 1 := by kernel_rfl
theorem bytesK_u8 : Try.prog.bytesOf 5 = 1 := by kernel_rfl
theorem openK_bytes {H : Type} {enc : TypeId × Value → H} {w : World} {fuel : Nat} {a : Option Addr} {n cap : Nat} {x : DataW H × List MemPlace} (hf : DataW.trod enc Try.prog w 0 (fun _ => true) true fuel 29 [.slice a n cap] = some x) (hw : ∀ m ∈ x.1.weights Try.prog 29, m ≤ reachBytes) :
    n ≤ cap ∧ n ≤ 140737488355328 ∧ ∃ L : List UInt8, Sl encB w a n L ∧ ∀ c ∈ L, True := by
  obtain ⟨h1, h2, h3, L, h4, h5⟩ := open_many (by omega) Try.underlying29 cellsK_u8 (fun v : UInt8 => [encB v]) (fun _ => True) (fun fuel cs x hl ht _ => by
    obtain ⟨v, rfl⟩ := one_of hl
    obtain ⟨k, rfl, hk⟩ := int_ofL Try.underlying5 ht
    have hr : 0 ≤ k ∧ k ≤ 255 := by
      unfold Lit.wf at hk
      simp only [Bool.and_eq_true, decide_eq_true_eq] at hk
      exact hk
    refine ⟨UInt8.ofNat k.toNat, ?_, trivial⟩
    unfold encB
    simp only [List.cons.injEq, Value.int.injEq, true_and, and_true]
    rw [UInt8.toNat_ofNat']
    omega) hf hw
  rw [bytesK_u8, reach_eqI] at h3
  exact ⟨h1, by omega, L, ofSs1 h4, h5⟩
theorem bytesK_const : 16 ≤ Try.prog.bytesOf 42 := of_decide_eq_true (by kernel_rfl)
theorem cellsK_const : Try.prog.cellsOf 42 = 5 := by kernel_rfl
set_option maxRecDepth 100000 in
theorem openK_const {H : Type} {enc : TypeId × Value → H} {w : World} {fuel : Nat} {a : Option Addr} {n cap : Nat} {x : DataW H × List MemPlace} (hf : DataW.trod enc Try.prog w 0 (fun _ => true) true fuel 22 [.slice a n cap] = some x) (hw : ∀ m ∈ x.1.weights Try.prog 22, m ≤ reachBytes) :
    n ≤ cap ∧ n ≤ 140737488355328 ∧ ∃ L : List KV, Ss 5 KV.cells w a n L ∧ ∀ c ∈ L, (-9223372036854775808 ≤ c.n ∧ c.n ≤ 9223372036854775807) ∧ c.s.length ≤ 140737488355328 := by
  obtain ⟨h1, h2, h3, L, h4, h5⟩ := open_many (by omega) Try.underlying22 cellsK_const KV.cells (fun c : KV => (-9223372036854775808 ≤ c.n ∧ c.n ≤ 9223372036854775807) ∧ c.s.length ≤ 140737488355328) (fun fuel cs x hl ht hx => by
    match cs, hl with
    | [c0, c1, c2, c3, c4], _ =>
      obtain ⟨xs, k, _, hxe, _, hlen, hg⟩ := DataW.trod_struct Try.underlying42 ht
      subst hxe
      match xs, hlen with
      | [y0, y1, y2, y3, y4], _ =>
        have g0 : DataW.trod enc Try.prog w 0 (fun _ => true) true k 3 [c0] = some y0 := hg 0 _ rfl
        have g1 : DataW.trod enc Try.prog w 0 (fun _ => true) true k 3 [c1] = some y1 := hg 1 _ rfl
        have g2 : DataW.trod enc Try.prog w 0 (fun _ => true) true k 3 [c2] = some y2 := hg 2 _ rfl
        have g3 : DataW.trod enc Try.prog w 0 (fun _ => true) true k 2 [c3] = some y3 := hg 3 _ rfl
        have g4 : DataW.trod enc Try.prog w 0 (fun _ => true) true k 9 [c4] = some y4 := hg 4 _ rfl
        have hx' : ∀ m ∈ DataW.weightsEach Try.prog [3, 3, 3, 2, 9] [y0.1, y1.1, y2.1, y3.1, y4.1], m ≤ reachBytes := fun m hm => hx m (by
          simp only [DataW.weights, Try.underlying42]
          exact hm)
        obtain ⟨e0, rfl, w0⟩ := int_ofL Try.underlying3 g0
        obtain ⟨e1, rfl, w1⟩ := int_ofL Try.underlying3 g1
        obtain ⟨e2, rfl, w2⟩ := int_ofL Try.underlying3 g2
        obtain ⟨e3, rfl, w3⟩ := int_ofL Try.underlying2 g3
        obtain ⟨e4, rfl, w4⟩ := str_ofI g4 fun m hm => hx' m (DataW.weights_mem_each (j := 4) rfl rfl m hm)
        exact ⟨⟨e0, e1, e2, e3, e4⟩, rfl, (by have h := wf_i64L w3; unfold IntR at h; exact h), (by show e4.length ≤ _; omega)⟩) hf hw
  have hb := bytesK_const
  rw [reach_eqI] at h3
  exact ⟨h1, by have := Nat.mul_le_mul_left n hb; omega, L, h4, h5⟩
theorem bytesK_slot : 16 ≤ Try.prog.bytesOf 119 := of_decide_eq_true (by kernel_rfl)
theorem cellsK_slot : Try.prog.cellsOf 119 = 2 := by kernel_rfl
set_option maxRecDepth 100000 in
theorem openK_slot {H : Type} {enc : TypeId × Value → H} {w : World} {fuel : Nat} {a : Option Addr} {n cap : Nat} {x : DataW H × List MemPlace} (hf : DataW.trod enc Try.prog w 0 (fun _ => true) true fuel 49 [.slice a n cap] = some x) (hw : ∀ m ∈ x.1.weights Try.prog 49, m ≤ reachBytes) :
    n ≤ cap ∧ n ≤ 140737488355328 ∧ ∃ L : List KS, Ss 2 KS.cells w a n L ∧ ∀ c ∈ L, True := by
  obtain ⟨h1, h2, h3, L, h4, h5⟩ := open_many (by omega) Try.underlying49 cellsK_slot KS.cells (fun c : KS => True) (fun fuel cs x hl ht hx => by
    match cs, hl with
    | [c0, c1], _ =>
      obtain ⟨xs, k, _, hxe, _, hlen, hg⟩ := DataW.trod_struct Try.underlying119 ht
      subst hxe
      match xs, hlen with
      | [y0, y1], _ =>
        have g0 : DataW.trod enc Try.prog w 0 (fun _ => true) true k 3 [c0] = some y0 := hg 0 _ rfl
        have g1 : DataW.trod enc Try.prog w 0 (fun _ => true) true k 3 [c1] = some y1 := hg 1 _ rfl
        have hx' : ∀ m ∈ DataW.weightsEach Try.prog [3, 3] [y0.1, y1.1], m ≤ reachBytes := fun m hm => hx m (by
          simp only [DataW.weights, Try.underlying119]
          exact hm)
        obtain ⟨e0, rfl, w0⟩ := int_ofL Try.underlying3 g0
        obtain ⟨e1, rfl, w1⟩ := int_ofL Try.underlying3 g1
        exact ⟨⟨e0, e1⟩, rfl, trivial⟩) hf hw
  have hb := bytesK_slot
  rw [reach_eqI] at h3
  exact ⟨h1, by have := Nat.mul_le_mul_left n hb; omega, L, h4, h5⟩
theorem bytesK_trap : 16 ≤ Try.prog.bytesOf 98 := of_decide_eq_true (by kernel_rfl)
theorem cellsK_trap : Try.prog.cellsOf 98 = 4 := by kernel_rfl
set_option maxRecDepth 100000 in
theorem openK_trap {H : Type} {enc : TypeId × Value → H} {w : World} {fuel : Nat} {a : Option Addr} {n cap : Nat} {x : DataW H × List MemPlace} (hf : DataW.trod enc Try.prog w 0 (fun _ => true) true fuel 45 [.slice a n cap] = some x) (hw : ∀ m ∈ x.1.weights Try.prog 45, m ≤ reachBytes) :
    n ≤ cap ∧ n ≤ 140737488355328 ∧ ∃ L : List KT, Ss 4 KT.cells w a n L ∧ ∀ c ∈ L, True := by
  obtain ⟨h1, h2, h3, L, h4, h5⟩ := open_many (by omega) Try.underlying45 cellsK_trap KT.cells (fun c : KT => True) (fun fuel cs x hl ht hx => by
    match cs, hl with
    | [c0, c1, c2, c3], _ =>
      obtain ⟨xs, k, _, hxe, _, hlen, hg⟩ := DataW.trod_struct Try.underlying98 ht
      subst hxe
      match xs, hlen with
      | [y0, y1, y2, y3], _ =>
        have g0 : DataW.trod enc Try.prog w 0 (fun _ => true) true k 3 [c0] = some y0 := hg 0 _ rfl
        have g1 : DataW.trod enc Try.prog w 0 (fun _ => true) true k 3 [c1] = some y1 := hg 1 _ rfl
        have g2 : DataW.trod enc Try.prog w 0 (fun _ => true) true k 3 [c2] = some y2 := hg 2 _ rfl
        have g3 : DataW.trod enc Try.prog w 0 (fun _ => true) true k 3 [c3] = some y3 := hg 3 _ rfl
        have hx' : ∀ m ∈ DataW.weightsEach Try.prog [3, 3, 3, 3] [y0.1, y1.1, y2.1, y3.1], m ≤ reachBytes := fun m hm => hx m (by
          simp only [DataW.weights, Try.underlying98]
          exact hm)
        obtain ⟨e0, rfl, w0⟩ := int_ofL Try.underlying3 g0
        obtain ⟨e1, rfl, w1⟩ := int_ofL Try.underlying3 g1
        obtain ⟨e2, rfl, w2⟩ := int_ofL Try.underlying3 g2
        obtain ⟨e3, rfl, w3⟩ := int_ofL Try.underlying3 g3
        exact ⟨⟨e0, e1, e2, e3⟩, rfl, trivial⟩) hf hw
  have hb := bytesK_trap
  rw [reach_eqI] at h3
  exact ⟨h1, by have := Nat.mul_le_mul_left n hb; omega, L, h4, h5⟩
theorem bytesK_field : 16 ≤ Try.prog.bytesOf 59 := of_decide_eq_true (by kernel_rfl)
theorem cellsK_field : Try.prog.cellsOf 59 = 3 := by kernel_rfl
set_option maxRecDepth 100000 in
theorem openK_field {H : Type} {enc : TypeId × Value → H} {w : World} {fuel : Nat} {a : Option Addr} {n cap : Nat} {x : DataW H × List MemPlace} (hf : DataW.trod enc Try.prog w 0 (fun _ => true) true fuel 23 [.slice a n cap] = some x) (hw : ∀ m ∈ x.1.weights Try.prog 23, m ≤ reachBytes) :
    n ≤ cap ∧ n ≤ 140737488355328 ∧ ∃ L : List KD, Ss 3 KD.cells w a n L ∧ ∀ c ∈ L, IntR c.fl := by
  obtain ⟨h1, h2, h3, L, h4, h5⟩ := open_many (by omega) Try.underlying23 cellsK_field KD.cells (fun c : KD => IntR c.fl) (fun fuel cs x hl ht hx => by
    match cs, hl with
    | [c0, c1, c2], _ =>
      obtain ⟨xs, k, _, hxe, _, hlen, hg⟩ := DataW.trod_struct Try.underlying59 ht
      subst hxe
      match xs, hlen with
      | [y0, y1, y2], _ =>
        have g0 : DataW.trod enc Try.prog w 0 (fun _ => true) true k 3 [c0] = some y0 := hg 0 _ rfl
        have g1 : DataW.trod enc Try.prog w 0 (fun _ => true) true k 3 [c1] = some y1 := hg 1 _ rfl
        have g2 : DataW.trod enc Try.prog w 0 (fun _ => true) true k 3 [c2] = some y2 := hg 2 _ rfl
        have hx' : ∀ m ∈ DataW.weightsEach Try.prog [3, 3, 3] [y0.1, y1.1, y2.1], m ≤ reachBytes := fun m hm => hx m (by
          simp only [DataW.weights, Try.underlying59]
          exact hm)
        obtain ⟨e0, rfl, w0⟩ := int_ofL Try.underlying3 g0
        obtain ⟨e1, rfl, w1⟩ := int_ofL Try.underlying3 g1
        obtain ⟨e2, rfl, w2⟩ := int_ofL Try.underlying3 g2
        exact ⟨⟨e0, e1, e2⟩, rfl, wf_i64L w0⟩) hf hw
  have hb := bytesK_field
  rw [reach_eqI] at h3
  exact ⟨h1, by have := Nat.mul_le_mul_left n hb; omega, L, h4, h5⟩
theorem bytesK_map : 16 ≤ Try.prog.bytesOf 51 := of_decide_eq_true (by kernel_rfl)
theorem cellsK_map : Try.prog.cellsOf 51 = 3 := by kernel_rfl
set_option maxRecDepth 100000 in
theorem openK_map {H : Type} {enc : TypeId × Value → H} {w : World} {fuel : Nat} {a : Option Addr} {n cap : Nat} {x : DataW H × List MemPlace} (hf : DataW.trod enc Try.prog w 0 (fun _ => true) true fuel 46 [.slice a n cap] = some x) (hw : ∀ m ∈ x.1.weights Try.prog 46, m ≤ reachBytes) :
    n ≤ cap ∧ n ≤ 140737488355328 ∧ ∃ L : List KP, Ss 3 KP.cells w a n L ∧ ∀ c ∈ L, (c.Rd w ∧ c.ln ≤ 140737488355328 ∧ c.sn ≤ 140737488355328) := by
  obtain ⟨h1, h2, h3, L, h4, h5⟩ := open_many (by omega) Try.underlying46 cellsK_map KP.cells (fun c : KP => (c.Rd w ∧ c.ln ≤ 140737488355328 ∧ c.sn ≤ 140737488355328)) (fun fuel cs x hl ht hx => by
    match cs, hl with
    | [c0, c1, c2], _ =>
      obtain ⟨xs, k, _, hxe, _, hlen, hg⟩ := DataW.trod_struct Try.underlying51 ht
      subst hxe
      match xs, hlen with
      | [y0, y1, y2], _ =>
        have g0 : DataW.trod enc Try.prog w 0 (fun _ => true) true k 3 [c0] = some y0 := hg 0 _ rfl
        have g1 : DataW.trod enc Try.prog w 0 (fun _ => true) true k 49 [c1] = some y1 := hg 1 _ rfl
        have g2 : DataW.trod enc Try.prog w 0 (fun _ => true) true k 49 [c2] = some y2 := hg 2 _ rfl
        have hx' : ∀ m ∈ DataW.weightsEach Try.prog [3, 49, 49] [y0.1, y1.1, y2.1], m ≤ reachBytes := fun m hm => hx m (by
          simp only [DataW.weights, Try.underlying51]
          exact hm)
        obtain ⟨e0, rfl, w0⟩ := int_ofL Try.underlying3 g0
        obtain ⟨a1, n1, k1, rfl⟩ := sl_ofI Try.underlying49 g1
        obtain ⟨h1a, h1b, L1, h1c, h1d⟩ := openK_slot g1 fun m hm => hx' m (DataW.weights_mem_each (j := 1) rfl rfl m hm)
        obtain ⟨a2, n2, k2, rfl⟩ := sl_ofI Try.underlying49 g2
        obtain ⟨h2a, h2b, L2, h2c, h2d⟩ := openK_slot g2 fun m hm => hx' m (DataW.weights_mem_each (j := 2) rfl rfl m hm)
        exact ⟨⟨e0, a1, n1, k1, L1, a2, n2, k2, L2⟩, rfl, ⟨⟨h1c, h2c⟩, h1b, h2b⟩⟩) hf hw
  have hb := bytesK_map
  rw [reach_eqI] at h3
  exact ⟨h1, by have := Nat.mul_le_mul_left n hb; omega, L, h4, h5⟩
theorem bytesK_meth : 16 ≤ Try.prog.bytesOf 48 := of_decide_eq_true (by kernel_rfl)
theorem cellsK_meth : Try.prog.cellsOf 48 = 8 := by kernel_rfl
set_option maxRecDepth 100000 in
theorem openK_meth {H : Type} {enc : TypeId × Value → H} {w : World} {fuel : Nat} {a : Option Addr} {n cap : Nat} {x : DataW H × List MemPlace} (hf : DataW.trod enc Try.prog w 0 (fun _ => true) true fuel 24 [.slice a n cap] = some x) (hw : ∀ m ∈ x.1.weights Try.prog 24, m ≤ reachBytes) :
    n ≤ cap ∧ n ≤ 140737488355328 ∧ ∃ L : List KM, Ss 8 KM.cells w a n L ∧ ∀ c ∈ L, (c.Rd w ∧ IntR c.fl ∧ c.cn ≤ 140737488355328 ∧ c.tn ≤ 140737488355328 ∧ c.mn ≤ 140737488355328 ∧ ∀ p ∈ c.maps, p.ln ≤ 140737488355328 ∧ p.sn ≤ 140737488355328) := by
  obtain ⟨h1, h2, h3, L, h4, h5⟩ := open_many (by omega) Try.underlying24 cellsK_meth KM.cells (fun c : KM => (c.Rd w ∧ IntR c.fl ∧ c.cn ≤ 140737488355328 ∧ c.tn ≤ 140737488355328 ∧ c.mn ≤ 140737488355328 ∧ ∀ p ∈ c.maps, p.ln ≤ 140737488355328 ∧ p.sn ≤ 140737488355328)) (fun fuel cs x hl ht hx => by
    match cs, hl with
    | [c0, c1, c2, c3, c4, c5, c6, c7], _ =>
      obtain ⟨xs, k, _, hxe, _, hlen, hg⟩ := DataW.trod_struct Try.underlying48 ht
      subst hxe
      match xs, hlen with
      | [y0, y1, y2, y3, y4, y5, y6, y7], _ =>
        have g0 : DataW.trod enc Try.prog w 0 (fun _ => true) true k 3 [c0] = some y0 := hg 0 _ rfl
        have g1 : DataW.trod enc Try.prog w 0 (fun _ => true) true k 3 [c1] = some y1 := hg 1 _ rfl
        have g2 : DataW.trod enc Try.prog w 0 (fun _ => true) true k 3 [c2] = some y2 := hg 2 _ rfl
        have g3 : DataW.trod enc Try.prog w 0 (fun _ => true) true k 3 [c3] = some y3 := hg 3 _ rfl
        have g4 : DataW.trod enc Try.prog w 0 (fun _ => true) true k 3 [c4] = some y4 := hg 4 _ rfl
        have g5 : DataW.trod enc Try.prog w 0 (fun _ => true) true k 29 [c5] = some y5 := hg 5 _ rfl
        have g6 : DataW.trod enc Try.prog w 0 (fun _ => true) true k 45 [c6] = some y6 := hg 6 _ rfl
        have g7 : DataW.trod enc Try.prog w 0 (fun _ => true) true k 46 [c7] = some y7 := hg 7 _ rfl
        have hx' : ∀ m ∈ DataW.weightsEach Try.prog [3, 3, 3, 3, 3, 29, 45, 46] [y0.1, y1.1, y2.1, y3.1, y4.1, y5.1, y6.1, y7.1], m ≤ reachBytes := fun m hm => hx m (by
          simp only [DataW.weights, Try.underlying48]
          exact hm)
        obtain ⟨e0, rfl, w0⟩ := int_ofL Try.underlying3 g0
        obtain ⟨e1, rfl, w1⟩ := int_ofL Try.underlying3 g1
        obtain ⟨e2, rfl, w2⟩ := int_ofL Try.underlying3 g2
        obtain ⟨e3, rfl, w3⟩ := int_ofL Try.underlying3 g3
        obtain ⟨e4, rfl, w4⟩ := int_ofL Try.underlying3 g4
        obtain ⟨a5, n5, k5, rfl⟩ := sl_ofI Try.underlying29 g5
        obtain ⟨h5a, h5b, L5, h5c, h5d⟩ := openK_bytes g5 fun m hm => hx' m (DataW.weights_mem_each (j := 5) rfl rfl m hm)
        obtain ⟨a6, n6, k6, rfl⟩ := sl_ofI Try.underlying45 g6
        obtain ⟨h6a, h6b, L6, h6c, h6d⟩ := openK_trap g6 fun m hm => hx' m (DataW.weights_mem_each (j := 6) rfl rfl m hm)
        obtain ⟨a7, n7, k7, rfl⟩ := sl_ofI Try.underlying46 g7
        obtain ⟨h7a, h7b, L7, h7c, h7d⟩ := openK_map g7 fun m hm => hx' m (DataW.weights_mem_each (j := 7) rfl rfl m hm)
        exact ⟨⟨e0, e1, e2, e3, e4, a5, n5, k5, L5, a6, n6, k6, L6, a7, n7, k7, L7⟩, rfl, ⟨⟨h5c, h5a, h6c, h7c, fun p hp => (h7d p hp).1⟩, wf_i64L w0, h5b, h6b, h7b, fun p hp => (h7d p hp).2⟩⟩) hf hw
  have hb := bytesK_meth
  rw [reach_eqI] at h3
  exact ⟨h1, by have := Nat.mul_le_mul_left n hb; omega, L, h4, h5⟩
theorem cellsK_file : Try.prog.cellsOf 26 = 5 := by kernel_rfl
/-- A class that came in. -/
structure IsFile (w : World) (f : KF) : Prop where
  rd : f.Rd w
  big : f.Big
  num : ∀ c ∈ f.pool, -9223372036854775808 ≤ c.n ∧ c.n ≤ 9223372036854775807
  fl : ∀ d ∈ f.fields, IntR d.fl
  mfl : ∀ m ∈ f.methods, IntR m.fl
set_option maxRecDepth 100000 in
theorem open_file {H : Type} {enc : TypeId × Value → H} {w : World} {r : Reach} {b0 : Nat} {v : Value} {d : DataW H} {p : List MemPlace} (hv : Value.okWide Try.prog w r b0 26 v) (h : DataW.Trod enc Try.prog w 0 (fun _ => true) true 26 v d p) (hw : ∀ m ∈ d.weights Try.prog 26, m ≤ reachBytes) :
    ∃ x : KF, v = .agg x.vals ∧ IsFile w x := by
  obtain ⟨cs, rfl, hsz⟩ := okWide_struct Try.underlying26 hv
  obtain ⟨fuel, hf⟩ := h
  obtain ⟨cl⟩ := cs
  have hl : cl.length = 5 := hsz.trans cellsK_file
  match cl, hl with
  | [c0, c1, c2, c3, c4], _ =>
    have hf : DataW.trod enc Try.prog w 0 (fun _ => true) true fuel 26 [c0, c1, c2, c3, c4] = some (d, p) := hf
    obtain ⟨xs, k, _, hxe, _, hlen, hg⟩ := DataW.trod_struct Try.underlying26 hf
    match xs, hlen with
    | [y0, y1, y2, y3, y4], _ =>
      have g0 : DataW.trod enc Try.prog w 0 (fun _ => true) true k 22 [c0] = some y0 := hg 0 _ rfl
      have g1 : DataW.trod enc Try.prog w 0 (fun _ => true) true k 3 [c1] = some y1 := hg 1 _ rfl
      have g2 : DataW.trod enc Try.prog w 0 (fun _ => true) true k 3 [c2] = some y2 := hg 2 _ rfl
      have g3 : DataW.trod enc Try.prog w 0 (fun _ => true) true k 23 [c3] = some y3 := hg 3 _ rfl
      have g4 : DataW.trod enc Try.prog w 0 (fun _ => true) true k 24 [c4] = some y4 := hg 4 _ rfl
      have hd : d = .agg [y0.1, y1.1, y2.1, y3.1, y4.1] := congrArg Prod.fst hxe
      subst hd
      have hx' : ∀ m ∈ DataW.weightsEach Try.prog [22, 3, 3, 23, 24] [y0.1, y1.1, y2.1, y3.1, y4.1], m ≤ reachBytes := fun m hm => hw m (by
        simp only [DataW.weights, Try.underlying26]
        exact hm)
      obtain ⟨a0, n0, k0, rfl⟩ := sl_ofI Try.underlying22 g0
      obtain ⟨e1, rfl, w1⟩ := int_ofL Try.underlying3 g1
      obtain ⟨e2, rfl, w2⟩ := int_ofL Try.underlying3 g2
      obtain ⟨a3, n3, k3, rfl⟩ := sl_ofI Try.underlying23 g3
      obtain ⟨a4, n4, k4, rfl⟩ := sl_ofI Try.underlying24 g4
      obtain ⟨_, i0, L0, s0, q0⟩ := openK_const g0 fun m hm => hx' m (DataW.weights_mem_each (j := 0) rfl rfl m hm)
      obtain ⟨_, i3, L3, s3, q3⟩ := openK_field g3 fun m hm => hx' m (DataW.weights_mem_each (j := 3) rfl rfl m hm)
      obtain ⟨_, i4, L4, s4, q4⟩ := openK_meth g4 fun m hm => hx' m (DataW.weights_mem_each (j := 4) rfl rfl m hm)
      exact ⟨⟨a0, n0, k0, L0, e1, e2, a3, n3, k3, L3, a4, n4, k4, L4⟩, rfl, ⟨s0, s3, s4, fun m hm => (q4 m hm).1⟩, ⟨i0, i3, i4, fun c hc => (q0 c hc).2, fun m hm => (q4 m hm).2.2⟩, fun c hc => (q0 c hc).1, q3, fun m hm => (q4 m hm).2.1⟩
end Go.Proofs.Ytnfhiakdbakpgaa
/- klass: sizes of classes that are small, or that may be. Plain. -/
namespace Go.Proofs.Ytnfhiakdbakpgaa
open Go.ChangeShapes Go.WideShapes Go.ChangeAt Go.RowKit
theorem le_sum {l : List Nat} {x : Nat} (h : x ∈ l) : x ≤ l.sum := by
  induction l with
  | nil => cases h
  | cons y t ih =>
    rw [List.sum_cons]
    rcases List.mem_cons.1 h with rfl | h
    · omega
    · have := ih h; omega
theorem costP_le {l : List KP} {p : KP} (h : p ∈ l) : 10 + p.ln + p.sn ≤ costPs l := le_sum (List.mem_map.2 ⟨p, h, rfl⟩)
theorem costM_le {l : List KM} {m : KM} (h : m ∈ l) : m.cn + 10 * m.tn + costPs m.maps ≤ costMs l := le_sum (List.mem_map.2 ⟨m, h, rfl⟩)
theorem costPs_len (l : List KP) : 10 * l.length ≤ costPs l := by
  unfold costPs
  induction l with
  | nil => simp
  | cons p t ih => rw [List.map_cons, List.sum_cons, List.length_cons]; unfold costP at ih ⊢; omega
theorem FewF.fit {f : KF} {w : World} (h : FewF f) (hr : f.Rd w) (h1 : ∀ d ∈ f.fields, IntR d.fl) (h2 : ∀ m ∈ f.methods, IntR m.fl) : f.Fit := by
  obtain ⟨a1, a2, a3, a4, a5⟩ := h
  refine ⟨by omega, fun i hi => ?_, by omega, by omega, h1, fun m hm => ?_⟩
  · have hl : i < f.pool.length := by rw [hr.pool.1]; exact hi
    rw [kAt_get f.pool i hl]
    exact Nat.le_trans (a4 _ (List.getElem_mem hl)) (by omega)
  · have c1 := costM_le hm
    have c2 := costPs_len m.maps
    have c3 := (hr.each m hm).maps.1
    refine ⟨h2 m hm, by unfold maxLen; omega, by omega, by omega, fun p hp => ?_⟩
    have c4 := costP_le hp
    exact ⟨by omega, by omega⟩
theorem FewF.sml {f : KF} {w : World} (h : FewF f) (hr : f.Rd w) : f.Sml := by
  obtain ⟨a1, a2, a3, a4, a5⟩ := h
  refine ⟨by omega, by omega, by omega, fun m hm => ?_⟩
  have c1 := costM_le hm
  have c2 := costPs_len m.maps
  have c3 := (hr.each m hm).maps.1
  refine ⟨by omega, by omega, by omega, fun p hp => ?_⟩
  have c4 := costP_le hp
  exact ⟨by omega, by omega⟩
theorem oneK_le (c : KV) (h : c.s.length ≤ 300) : (oneK c).length ≤ 312 := by
  unfold oneK
  repeat' split
  all_goals simp only [List.length_append, putB_length, List.length_cons, List.length_nil]
  all_goals omega
theorem flat_lek {α : Type} (F : α → List UInt8) (k : Nat) (l : List α) (h : ∀ x ∈ l, (F x).length ≤ k) : (l.flatMap F).length ≤ l.length * k := by
  induction l with
  | nil => simp
  | cons x t ih =>
    have h1 := h x (List.mem_cons_self ..)
    have h2 := ih (fun y hy => h y (List.mem_cons_of_mem _ hy))
    rw [List.flatMap_cons, List.length_append, List.length_cons, Nat.add_mul]
    omega
theorem slotsB_le (l : List KS) : (slotsB l).length ≤ 2 + 3 * l.length := by
  have h := flat_lek slotB 3 l (fun s _ => (slotB_len s).2)
  unfold slotsB
  rw [List.length_append, z2_len, List.length_cons, List.length_nil]
  omega
theorem kmaps_cost (w : World) (l : List KP) (h : ∀ p ∈ l, p.Rd w) : (l.flatMap kmapB).length ≤ 3 * costPs l := by
  induction l with
  | nil => simp
  | cons p t ih =>
    have h1 := h p (List.mem_cons_self ..)
    have h2 := ih (fun y hy => h y (List.mem_cons_of_mem _ hy))
    have h3 := slotsB_le p.loc
    have h4 := slotsB_le p.stk
    have h5 := h1.loc.1
    have h6 := h1.stk.1
    have h7 : costPs (p :: t) = (10 + p.ln + p.sn) + costPs t := by unfold costPs; simp [costP]
    have h8 : (kmapB p).length = 2 + (slotsB p.loc).length + (slotsB p.stk).length := by
      unfold kmapB
      simp only [List.length_append, z2_len, List.length_cons, List.length_nil]
    rw [List.flatMap_cons, List.length_append, h7]
    omega
theorem codeB_cost (w : World) (L : List KV) (m : KM) (h : m.Rd w) : (codeB L m).length ≤ 20 + 3 * costM m := by
  have h1 := codeB_len L m
  have h2 := kmaps_cost w m.maps h.each
  have h3 := h.code.1
  have h4 := h.traps.1
  have h5 : (tailB L m.maps).length ≤ 10 + (m.maps.flatMap kmapB).length := by
    unfold tailB mapsB
    split
    · rw [z2_len]; simp only [List.length_cons, List.length_nil]; omega
    · simp only [List.length_append, z2_len, z4_len, List.length_cons, List.length_nil]; omega
  have h6 : costM m = m.cn + 10 * m.tn + costPs m.maps := rfl
  omega
theorem meths_cost (w : World) (L : List KV) (l : List KM) (h : ∀ m ∈ l, m.Rd w) : (l.flatMap (methB L)).length ≤ 34 * l.length + 3 * costMs l := by
  induction l with
  | nil => simp
  | cons m t ih =>
    have h1 := codeB_cost w L m (h m (List.mem_cons_self ..))
    have h2 := ih (fun y hy => h y (List.mem_cons_of_mem _ hy))
    have h7 : costMs (m :: t) = costM m + costMs t := by unfold costMs; simp
    have h8 : (methB L m).length = 14 + (codeB L m).length := by
      unfold methB
      simp only [List.length_append, z2_len, z4_len, List.length_cons, List.length_nil]
    rw [List.flatMap_cons, List.length_append, h7, List.length_cons]
    omega
theorem few_bound (w : World) (f : KF) (hr : f.Rd w) (h1 : f.pool.length ≤ 121) (h2 : ∀ c ∈ f.pool, c.s.length ≤ 300) (h3 : f.fn ≤ 70) (h4 : f.mn ≤ 70) (h5 : costMs f.methods ≤ 4000) : (classB f).length ≤ 60000 := by
  have e1 := classB_len f
  have e2 := meths_cost w f.pool f.methods hr.each
  have e3 := hr.methods.1
  have e4 := hr.fields.1
  have e5 : (bytesK f.pool).length ≤ 2 + f.pool.length * 312 := by
    have := flat_lek oneK 312 f.pool (fun c hc => oneK_le c (h2 c hc))
    unfold bytesK
    rw [List.length_append, putB_length]
    omega
  omega
/-- Of a class that may be all is small. -/
theorem ok_fit {f : KF} {w : World} (h : classOk f = true) (hr : f.Rd w) : f.Fit ∧ f.Big ∧ f.Sml := by
  obtain ⟨a1, a2, a3, ⟨a4, a4'⟩, a5, a6⟩ := (classOk_iff f).1 h
  have l1 := pool_len a1
  have e1 := hr.pool.1
  have e2 := hr.fields.1
  have e3 := hr.methods.1
  have hfl : ∀ d ∈ f.fields, IntR d.fl := fun d hd => by
    have h1 := List.all_eq_true.1 a5 d hd
    unfold membOk at h1
    simp only [Bool.and_eq_true, decide_eq_true_eq] at h1
    unfold IntR
    rcases h1.1.1 with h2 | h2 <;> rw [h2] <;> omega
  have hm : ∀ m ∈ f.methods, IntR m.fl ∧ m.cn ≤ 4096 ∧ m.tn ≤ 255 ∧ m.mn ≤ 255 ∧ ∀ p ∈ m.maps, p.ln ≤ 64 ∧ p.sn ≤ 64 := fun m hm => by
    have h1 := (methOk_iff f.pool m).1 (List.all_eq_true.1 a6 m hm)
    obtain ⟨b1, b2, b3, b4, b5, b6⟩ := h1
    have r := hr.each m hm
    have r1 := r.code.1
    have r2 := r.traps.1
    have r3 := r.maps.1
    refine ⟨?_, by omega, by omega, by omega, fun p hp => ?_⟩
    · unfold membOk at b1
      simp only [Bool.and_eq_true, decide_eq_true_eq] at b1
      unfold IntR
      rcases b1.1.1 with h2 | h2 <;> rw [h2] <;> omega
    · have h2 := List.all_eq_true.1 b5 p hp
      unfold mapOk slotsOk at h2
      simp only [Bool.and_eq_true, decide_eq_true_eq] at h2
      have s1 := (r.each p hp).loc.1
      have s2 := (r.each p hp).stk.1
      exact ⟨by omega, by omega⟩
  refine ⟨⟨by omega, fun i _ => pool_text a1 i, by omega, by omega, hfl, fun m h1 => ?_⟩, ⟨by omega, by omega, by omega, fun c hc => ?_, fun m h1 => ?_⟩, ⟨by omega, by omega, by omega, fun m h1 => ?_⟩⟩
  · obtain ⟨c1, c2, c3, c4, c5⟩ := hm m h1
    exact ⟨c1, by unfold maxLen; omega, by omega, by omega, fun p hp => ⟨by have := (c5 p hp).1; omega, by have := (c5 p hp).2; omega⟩⟩
  · obtain ⟨i, hi, rfl⟩ := List.getElem_of_mem hc
    have := pool_text a1 i
    rw [kAt_get f.pool i hi] at this
    omega
  · obtain ⟨c1, c2, c3, c4, c5⟩ := hm m h1
    exact ⟨by omega, by omega, by omega, fun p hp => ⟨by have := (c5 p hp).1; omega, by have := (c5 p hp).2; omega⟩⟩
  · obtain ⟨c1, c2, c3, c4, c5⟩ := hm m h1
    exact ⟨by omega, by omega, by omega, fun p hp => ⟨by have := (c5 p hp).1; omega, by have := (c5 p hp).2; omega⟩⟩
end Go.Proofs.Ytnfhiakdbakpgaa
/- klass: the law's fixed calls. No condition. -/
namespace Go.Proofs.Ytnfhiakdbakpgaa
open Go.ChangeShapes Go.WideShapes Go.ChangeAt Go.RowKit
def leastL : List KV := [⟨0, 0, 0, 0, []⟩, ⟨1, 0, 0, 0, [65]⟩, ⟨7, 1, 0, 0, []⟩]
def leastF (b : Nat) : KF := ⟨some ⟨b, 0, none⟩, 3, 3, leastL, 2, 0, none, 0, 0, [], none, 0, 0, []⟩
def leastP : KF := ⟨none, 0, 0, leastL, 2, 0, none, 0, 0, [], none, 0, 0, []⟩
theorem leastF_p (b : Nat) : (leastF b).p = leastP := rfl
theorem leastP_ok : classOk leastP = true := by decide +kernel
theorem leastP_len : (classB leastP).length = 31 := by decide +kernel
theorem leastF_ok (b : Nat) : classOk (leastF b) = true := by rw [← classOk_p, leastF_p]; exact leastP_ok
theorem leastF_bytes (b : Nat) : classB (leastF b) = classB leastP := by rw [← classB_p, leastF_p]
theorem leastP_parse : parseF (classB leastP) = (leastP, 0) := by
  have h := parseF_class leastP leastP_ok (by rw [leastP_len]; decide) (by decide +kernel) leastP_ok []
  rw [List.append_nil, if_pos rfl] at h
  exact h
theorem kf0_ok : classOk kf0 = false := by decide +kernel
theorem parse_nil : parseF [] = (kf0, 6) := by rfl
set_option maxRecDepth 100000 in
set_option maxHeartbeats 8000000 in
theorem least_any (w : World) : Calls Try.prog 15 #[] w fun e w' => ∃ b : Nat, e = .returned (.agg (leastF b).vals) ∧ Ks w' (some ⟨b, 0, none⟩) 3 leastL ∧ Below w.heap.size w w' := by
  go_enter Try.func15, Try.ntmps15
  go_wp2_with fail
  have hb1 : Below w.heap.size w (w.alloc (.cells #[.slice (some ⟨w.heap.size + 1, 0, none⟩) 3 3, .int .i64 2, .int .i64 0, .slice none 0 0, .slice none 0 0] 26)) := below_1 _ _
  have hb2 := below_1 (w.alloc (.cells #[.slice (some ⟨w.heap.size + 1, 0, none⟩) 3 3, .int .i64 2, .int .i64 0, .slice none 0 0, .slice none 0 0] 26)) (.cells #[.int .i64 0, .int .i64 0, .int .i64 0, .int .i64 0, .string ⟨#[]⟩, .int .i64 1, .int .i64 0, .int .i64 0, .int .i64 0, .string ⟨#[65]⟩, .int .i64 7, .int .i64 1, .int .i64 0, .int .i64 0, .string ⟨#[]⟩] 42)
  have hz : (w.alloc (.cells #[.slice (some ⟨w.heap.size + 1, 0, none⟩) 3 3, .int .i64 2, .int .i64 0, .slice none 0 0, .slice none 0 0] 26)).heap.size = w.heap.size + 1 := by simp
  have hk := heap_alloc_last (w.alloc (.cells #[.slice (some ⟨w.heap.size + 1, 0, none⟩) 3 3, .int .i64 2, .int .i64 0, .slice none 0 0, .slice none 0 0] 26)) (.cells #[.int .i64 0, .int .i64 0, .int .i64 0, .int .i64 0, .string ⟨#[]⟩, .int .i64 1, .int .i64 0, .int .i64 0, .int .i64 0, .string ⟨#[65]⟩, .int .i64 7, .int .i64 1, .int .i64 0, .int .i64 0, .string ⟨#[]⟩] 42)
  rw [hz] at hk
  refine bodyPost_ret (results_cell_row rfl _ _ w.heap.size _ _ _ _ rfl (row_below (heap_alloc_last w _) hb2) Try.underlying26 rfl infoFile) rfl ?_
  exact ⟨w.heap.size + 1, rfl, Ss.lit KV.cells_length hk rfl rfl, hb1.trans (hb2.mono hb1.size)⟩
theorem leastF_rd {w : World} {b : Nat} (h : Ks w (some ⟨b, 0, none⟩) 3 leastL) : (leastF b).Rd w := ⟨h, Ss.nil _ _, Ss.nil _ _, fun m hm => by cases hm⟩
theorem leastF_fit {w : World} {b : Nat} (h : Ks w (some ⟨b, 0, none⟩) 3 leastL) : (leastF b).Fit ∧ (leastF b).Sml := ⟨(ok_fit (leastF_ok b) (leastF_rd h)).1, (ok_fit (leastF_ok b) (leastF_rd h)).2.2⟩
set_option maxRecDepth 100000 in
set_option maxHeartbeats 8000000 in
theorem fixed14 (w : World) : Calls Try.prog 7 #[] w (BoolRet true w) := by
  have HL0 := Lib.hid (least_any w)
  go_enter Try.func7, Try.ntmps7
  go_wp2_with fail
  refine HL0.out.mono ?_
  rintro e w1 ⟨b1, rfl, hk1, hb1⟩
  have HBY := Lib.hid (KBytes_any w1 (leastF b1) (leastF_rd hk1) (leastF_fit hk1).1 (fun _ => by rw [leastF_bytes, leastP_len]; decide))
  have HB1 := Lib.hid hb1
  clear hk1 hb1 HL0
  unfold KF.vals leastF
  dsimp only
  go_wp2_with fail
  refine HBY.out.mono ?_
  rintro e w2 (⟨hbad, _⟩ | ⟨_, v2, m2, rfl, ho2, hb2⟩)
  · rw [leastF_ok] at hbad; cases hbad
  rw [leastF_bytes] at ho2
  obtain ⟨a2, c2, rfl, hs2, hc2⟩ := Sl.ofOwn ho2
  have hm2 : m2 = 31 := by rw [own_lenB ho2, leastP_len]
  subst hm2
  have HS2 := Lib.hid hs2
  have HB2 := Lib.hid (HB1.out.trans (hb2.mono HB1.out.size))
  have HPA := Lib.hid (KParse_any w2 a2 31 c2 _ hs2 (by decide) hc2)
  rw [leastP_parse] at HPA
  clear ho2 hb2 hs2 HBY HB1
  go_wp2_with fail
  refine HPA.out.mono ?_
  rintro e w3 ⟨x, hxp, rfl, hxr, hxf, hb3⟩
  have HXP := Lib.hid (show x.p = leastP from hxp)
  have HX3 := Lib.hid hxr
  have HXS := Lib.hid (show x.Sml from (ok_fit (by rw [← classOk_p, HXP.out]; exact leastP_ok) hxr).2.2)
  have HB3 := Lib.hid (HB2.out.trans (hb3.mono HB2.out.size))
  clear hxp hxr hxf hb3 HB2 HPA HS2
  obtain ⟨pa, pn, pc, pool, th, su, fa, fn, fc, fields, ma, mn, mc, methods⟩ := x
  unfold KF.vals
  dsimp only
  go_upto_region 3 with fail
  have hal := below_1 w3 (.cells #[.slice pa pn pc, .int .i64 th, .int .i64 su, .slice fa fn fc, .slice ma mn mc] 26)
  have HX4 := Lib.hid (HX3.out.below hal)
  have HR4 := Lib.hid (heap_alloc_last w3 (.cells #[.slice pa pn pc, .int .i64 th, .int .i64 su, .slice fa fn fc, .slice ma mn mc] 26))
  have HB4 := Lib.hid (HB3.out.trans (hal.mono HB3.out.size))
  clear hal HX3 HB3
  generalize w3.alloc (.cells #[.slice pa pn pc, .int .i64 th, .int .i64 su, .slice fa fn fc, .slice ma mn mc] 26) = w4 at *
  generalize w3.heap.size = b3 at *
  have HPB := Lib.hid (KParse_any w4 none 0 0 [] (Sl.nil _ _) (by decide) (by decide))
  rw [parse_nil] at HPB
  go_wp2_with fail
  refine HPB.out.mono ?_
  rintro e w5 ⟨x5, -, rfl, -, -, hb5⟩
  have HX5 := Lib.hid (HX4.out.below hb5)
  have HR5 := Lib.hid (row_below HR4.out hb5)
  have HB5 := Lib.hid (HB4.out.trans (hb5.mono HB4.out.size))
  clear hb5 HX4 HR4 HB4 HPB
  obtain ⟨pa5, pn5, pc5, pool5, th5, su5, fa5, fn5, fc5, fields5, ma5, mn5, mc5, methods5⟩ := x5
  unfold KF.vals
  dsimp only
  go_upto_region 4 with fail
  have hal := below_1 w5 (.cells #[.slice pa5 pn5 pc5, .int .i64 th5, .int .i64 su5, .slice fa5 fn5 fc5, .slice ma5 mn5 mc5] 26)
  have HX6 := Lib.hid (HX5.out.below hal)
  have HR6 := Lib.hid (row_below HR5.out hal)
  have HB6 := Lib.hid (HB5.out.trans (hal.mono HB5.out.size))
  clear hal HX5 HR5 HB5
  generalize w5.alloc (.cells #[.slice pa5 pn5 pc5, .int .i64 th5, .int .i64 su5, .slice fa5 fn5 fc5, .slice ma5 mn5 mc5] 26) = w6 at *
  generalize w5.heap.size = b5 at *
  have k0 := row_cell HR6.out 0 rfl
  have k1 := row_cell HR6.out 1 rfl
  have k2 := row_cell HR6.out 2 rfl
  have k3 := row_cell HR6.out 3 rfl
  have k4 := row_cell HR6.out 4 rfl
  dsimp at k0 k1 k2 k3 k4
  have hSw : Below w6.heap.size w6 w6.drew := (Below.refl _ _).drew
  have l0 := fun u (h : Below w6.heap.size w6 u) => cellS_below h k0
  have l1 := fun u (h : Below w6.heap.size w6 u) => cellS_below h k1
  have l2 := fun u (h : Below w6.heap.size w6 u) => cellS_below h k2
  have l3 := fun u (h : Below w6.heap.size w6 u) => cellS_below h k3
  have l4 := fun u (h : Below w6.heap.size w6 u) => cellS_below h k4
  clear k0 k1 k2 k3 k4
  refine wp_region_lexS (Below w6.heap.size w6) (.of [(0, true), (1, true), (2, true), (3, true), (4, true), (5, true), (6, true), (7, true), (8, true), (9, true), (10, true), (11, true), (12, true), (13, true), (14, true), (15, true), (16, true), (17, false)] (.stir [(18, false), (19, true), (20, true), (21, true), (22, false), (23, true), (24, true), (25, true)])) (by kernel_rfl) (by kernel_rfl) (fun c a d v w h => by cases d <;> exact h) ?_
  iterate 17
    refine lexS_step (fun K hK => ?_)
    simp only [lexOp, List.getElem?_toArray, List.getElem?_cons_succ, List.getElem?_cons_zero]
    rw [if_pos (by rfl)]
    apply Exists.intro
    refine ⟨fun w' hS' => ?_, hSw, ?_⟩
    · first | (go_simp <;> with_reducible rfl) | (go_simp; go_bits; with_reducible rfl)
    go_simp
    try go_bits
    refine hK _ _ ?_
    clear hK K
  refine lexS_step (fun K hK => ?_)
  simp only [lexOp, List.getElem?_toArray, List.getElem?_cons_succ, List.getElem?_cons_zero]
  rw [if_pos (by rfl)]
  go_step
  refine (least_any _).mono ?_
  rintro e w7 ⟨b7, rfl, hk7, hb7⟩
  replace hSw : Below w6.heap.size w6 w7 := hSw.trans (hb7.mono hSw.size)
  have HB7 := Lib.hid (HB6.out.trans (hSw.mono HB6.out.size))
  have HSA := Lib.hid (fun u (h : Below w7.heap.size w7 u) => Same_yes u _ (leastF b7) ((HX6.out.below hSw).below h) (leastF_rd (Ss.below hk7 h)) (HXP.out.trans (leastF_p b7).symm) HXS.out)
  have HCH := Lib.hid (fun u => KCheck_any u kf0 (kf0_rd u) kf0_fit)
  unfold KCheckRet at HCH
  rw [kf0_ok] at HCH
  unfold KF.vals leastF kf0 at *
  dsimp only at *
  clear hk7 hb7 l0 l1 l2 l3 l4
  go_simp
  first | refine hK _ _ ?_ | refine ⟨hSw, hK _ _ ?_⟩
  clear hK K
  refine lexS_stir (Below w7.heap.size w7) (fun y hy => hSw.trans (hy.mono hSw.size)) (Below.refl _ _) ?_
  clear hSw
  refine stir_step (fun K hK => ?_)
  simp only [stirOp, List.getElem?_toArray, List.getElem?_cons_succ, List.getElem?_cons_zero]
  rw [if_pos (by rfl)]
  apply Exists.intro
  refine ⟨fun w' hS' => ?_, ?_⟩
  · go_simp
    exact Stirs.call (Calls.mono ((HSA.out w' hS')) fun e w'' h => ⟨h.1, (fun hb'' => hS'.trans (hb''.mono hS'.size)) h.2⟩)
  go_simp
  refine hK _ ?_
  clear hK K
  iterate 3
    refine stir_step (fun K hK => ?_)
    simp only [stirOp, List.getElem?_toArray, List.getElem?_cons_succ, List.getElem?_cons_zero]
    rw [if_pos (by rfl)]
    apply Exists.intro
    refine ⟨fun w' hS' => ?_, ?_⟩
    · first | (go_simp <;> with_reducible rfl) | (go_simp; go_bits; with_reducible rfl)
    go_simp
    try go_bits
    refine hK _ ?_
    clear hK K
  refine stir_step (fun K hK => ?_)
  simp only [stirOp, List.getElem?_toArray, List.getElem?_cons_succ, List.getElem?_cons_zero]
  rw [if_pos (by rfl)]
  apply Exists.intro
  refine ⟨fun w' hS' => ?_, ?_⟩
  · go_simp
    exact Stirs.call (Calls.mono ((HCH.out w')) fun e w'' h => ⟨h.1, (fun hb'' => hS'.trans (hb''.mono hS'.size)) h.2⟩)
  go_simp
  refine hK _ ?_
  clear hK K
  iterate 3
    refine stir_step (fun K hK => ?_)
    simp only [stirOp, List.getElem?_toArray, List.getElem?_cons_succ, List.getElem?_cons_zero]
    rw [if_pos (by rfl)]
    apply Exists.intro
    refine ⟨fun w' hS' => ?_, ?_⟩
    · first | (go_simp <;> with_reducible rfl) | (go_simp; go_bits; with_reducible rfl)
    go_simp
    try go_bits
    refine hK _ ?_
    clear hK K
  refine stir_nil (fun u hu => ?_)
  go_wp2_with fail
  go_ret
  exact ⟨rfl, HB7.out.trans (hu.mono HB7.out.size)⟩
end Go.Proofs.Ytnfhiakdbakpgaa
