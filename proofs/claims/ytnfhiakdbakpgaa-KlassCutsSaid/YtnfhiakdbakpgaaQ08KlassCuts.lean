/- pool: Parse. No condition. -/
import Derived.Test.YtnfhiakdbakpgaaQ07KlassCuts
import Derived.Test.YtnfhiakdbakpgaaQ04KlassCuts
namespace Go.Proofs.Ytnfhiakdbakpgaa
open Go.ChangeShapes Go.WideShapes Go.ChangeAt Go.RowKit
/-- The places from one on, behind others: what is wrong, the place behind, all of them. -/
def parF (bs : List UInt8) (count : Nat) : Nat → Nat → List KV → Int × Nat × List KV
  | 0, p, acc => (0, p, acc)
  | fuel + 1, p, acc =>
    if count ≤ acc.length then (0, p, acc)
    else if (oneR bs p).2.2 ≠ 0 then ((oneR bs p).2.2, (oneR bs p).2.1, [])
    else parF bs count fuel (oneR bs p).2.1 (acc ++ [(oneR bs p).1] ++ (if (oneR bs p).1.tag = 5 then [kz] else []))
def parseK (bs : List UInt8) : Int × Nat × List KV :=
  if (nextR bs 0 0 2).2.2 ≠ 0 then ((nextR bs 0 0 2).2.2, 0, [])
  else if (nextR bs 0 0 2).1 < 1 ∨ 1024 < (nextR bs 0 0 2).1 then (8, 0, [])
  else if (parF bs (nextR bs 0 0 2).1.toNat (nextR bs 0 0 2).1.toNat 2 [kz]).1 ≠ 0 then ((parF bs (nextR bs 0 0 2).1.toNat (nextR bs 0 0 2).1.toNat 2 [kz]).1, 0, [])
  else if (nextR bs 0 0 2).1.toNat < (parF bs (nextR bs 0 0 2).1.toNat (nextR bs 0 0 2).1.toNat 2 [kz]).2.2.length ∨ poolOk (parF bs (nextR bs 0 0 2).1.toNat (nextR bs 0 0 2).1.toNat 2 [kz]).2.2 = false then (8, 0, [])
  else (0, (parF bs (nextR bs 0 0 2).1.toNat (nextR bs 0 0 2).1.toNat 2 [kz]).2.1, (parF bs (nextR bs 0 0 2).1.toNat (nextR bs 0 0 2).1.toNat 2 [kz]).2.2)
theorem parF_end {bs : List UInt8} {count fuel p : Nat} {acc : List KV} (h : count ≤ acc.length) : parF bs count fuel p acc = (0, p, acc) := by
  cases fuel
  · rfl
  · unfold parF; rw [if_pos h]
theorem parF_err {bs : List UInt8} {count fuel p : Nat} {acc : List KV} (h : ¬ count ≤ acc.length) (he : (oneR bs p).2.2 ≠ 0) : parF bs count (fuel + 1) p acc = ((oneR bs p).2.2, (oneR bs p).2.1, []) := by
  rw [parF, if_neg h, if_pos he]
theorem parF_next {bs : List UInt8} {count fuel p : Nat} {acc : List KV} (h : ¬ count ≤ acc.length) (he : (oneR bs p).2.2 = 0) : parF bs count (fuel + 1) p acc = parF bs count fuel (oneR bs p).2.1 (acc ++ [(oneR bs p).1] ++ (if (oneR bs p).1.tag = 5 then [kz] else [])) := by
  rw [parF, if_neg h, if_neg (by simp [he])]
theorem text_place (bs : List UInt8) (p m : Nat) (e : Int) (h : (textR bs p e m).2.2 = 0) : (textR bs p e m).2.1 ≤ bs.length := by
  unfold textR at h ⊢
  by_cases he : e ≠ 0
  · rw [if_pos he] at h; exact absurd h he
  rw [if_neg he] at h ⊢
  by_cases hs : (bs.length : Int) - p < m
  · rw [if_pos hs] at h; cases h
  rw [if_neg hs]
  simp only
  omega
theorem text_len (bs : List UInt8) (p m : Nat) (e : Int) : (textR bs p e m).1.length ≤ m := by
  unfold textR
  split
  · exact Nat.zero_le _
  split
  · exact Nat.zero_le _
  · simp; omega
theorem next_in (bs : List UInt8) (p m : Nat) (h : (nextR bs p 0 m).2.2 = 0) : (nextR bs p 0 m).2.1 ≤ bs.length := by
  have h1 := (next_ok bs p m h).2
  unfold nextR
  rw [if_pos rfl]
  exact h1
/-- What is read right ends within the bytes; its text is short. -/
theorem one_place (bs : List UInt8) (p : Nat) (h : (oneR bs p).2.2 = 0) : (oneR bs p).2.1 ≤ bs.length := by
  unfold oneR at h ⊢
  simp only at h ⊢
  by_cases h0 : (nextR bs p 0 1).2.2 ≠ 0
  · rw [if_pos h0] at h; exact absurd h h0
  rw [if_neg h0] at h ⊢
  by_cases h1 : (nextR bs p 0 1).1 = 1
  · rw [if_pos h1] at h ⊢; exact text_place _ _ _ _ h
  rw [if_neg h1] at h ⊢
  by_cases h3 : (nextR bs p 0 1).1 = 3
  · rw [if_pos h3] at h ⊢; exact next_in _ _ _ h
  rw [if_neg h3] at h ⊢
  by_cases h5 : (nextR bs p 0 1).1 = 5
  · rw [if_pos h5] at h ⊢; exact next_in _ _ _ h
  rw [if_neg h5] at h ⊢
  by_cases h7 : (nextR bs p 0 1).1 = 7 ∨ (nextR bs p 0 1).1 = 8
  · rw [if_pos h7] at h ⊢; exact next_in _ _ _ h
  rw [if_neg h7] at h ⊢
  by_cases h9 : (nextR bs p 0 1).1 = 9 ∨ (nextR bs p 0 1).1 = 10 ∨ (nextR bs p 0 1).1 = 12
  · rw [if_pos h9] at h ⊢; exact next_in _ _ _ h
  rw [if_neg h9] at h
  cases h
theorem one_text (bs : List UInt8) (p : Nat) : (oneR bs p).1.s.length ≤ 65536 := by
  unfold oneR
  simp only
  split
  · exact Nat.zero_le _
  split
  · have h1 := text_len bs (nextR bs (nextR bs p 0 1).2.1 0 2).2.1 (nextR bs (nextR bs p 0 1).2.1 0 2).1.toNat (nextR bs (nextR bs p 0 1).2.1 0 2).2.2
    have h2 := (next_bound bs (nextR bs p 0 1).2.1 0 2 (by decide))
    rw [show ((256 ^ 2 : Nat) : Int) = 65536 from rfl] at h2
    simp only
    omega
  split
  · exact Nat.zero_le _
  split
  · exact Nat.zero_le _
  split
  · exact Nat.zero_le _
  split
  · exact Nat.zero_le _
  · exact Nat.zero_le _
theorem stKr : StE 22 42 (.agg #[.int .i64 0, .int .i64 0, .int .i64 0, .int .i64 0, .string ⟨#[]⟩]) 5 48 := ⟨Try.underlying22, by kernel_rfl, rfl⟩
theorem own_lit1 (w : World) (base : Nat) (C : Array Value) (e : TypeId) (z : Nat) (hb : base ≤ w.heap.size) (hC : C.size = 1 * z) : (w.alloc (.cells C e)).ownsRow base e z (.slice (some ⟨w.heap.size, 0, none⟩) 1 1) 1 C.toList :=
  ⟨by simpa using hC, .inr ⟨w.heap.size, 1, C, rfl, hb, heap_alloc_last w _, Nat.le_refl _, by decide, hC, by rw [List.take_of_length_le (by simpa using Nat.le_of_eq hC)]⟩⟩
theorem kept_typeK {w w' : World} {B : Nat} {e t : TypeId} {size : Nat} {v : Value} {n g : Nat} {xs : List Value} {o : Obj} {cs : Array Value} {fr : Nat × Nat} (ho : w.ownsRow B e size v n xs) (hg : (w.alloc o).grownBy w' v.ownBlock) (hx : w.heap[g]? = some (.cells cs t fr)) (hne : e ≠ t) : w'.heap[g]? = some (.cells cs t fr) := by
  have hlt := (Array.getElem?_eq_some_iff.1 hx).1
  rw [hg.block g (by simp; omega) ?_, Below.heap_alloc _ _ _ hlt]
  · exact hx
  · intro he
    rcases ho.2 with ⟨rfl, _⟩ | ⟨g2, cap, cur, rfl, _, hg2, _⟩
    · simp [Value.ownBlock] at he
    · simp [Value.ownBlock] at he
      subst he
      rw [hg2] at hx
      simp at hx
      exact hne hx.2.1
theorem own_over {w w' : World} {B : Nat} {e t : TypeId} {size : Nat} {v : Value} {n g : Nat} {xs : List Value} {cs : Array Value} {fr : Nat × Nat} (ho : w.ownsRow B e size v n xs) (hx : w.heap[g]? = some (.cells cs t fr)) (hne : e ≠ t) (hg : w.grownBy w' (some g)) : w'.ownsRow B e size v n xs := by
  refine ho.kept hg (.inr fun he => ?_)
  rcases ho.2 with ⟨rfl, _⟩ | ⟨g2, cap, cur, rfl, _, hg2, _⟩
  · simp [Value.ownBlock] at he
  · simp [Value.ownBlock] at he
    subst he
    rw [hg2] at hx
    simp at hx
    exact hne hx.2.1
theorem own_snocs {w : World} {B : Nat} {e : TypeId} {v : Value} {m : Nat} {L : List KV} (h : w.ownsRow B e 5 v m (L.flatMap KV.cells)) : L.length = m := by
  have h1 := h.1
  rw [flat_len KV.cells_length] at h1
  omega
theorem kept_own {w w' : World} {o : Obj} {row : Option Nat} {b : Nat} {ct ca cb cn : Int} {cs : List UInt8} (hg : (w.alloc o).grownBy w' row) (h : KBlk w b ct ca cb cn cs) (hne : row ≠ some b) : KBlk w' b ct ca cb cn cs := by
  have hlt := (Array.getElem?_eq_some_iff.1 h).1
  unfold KBlk
  rw [hg.block b (by simp; omega) hne.symm, Below.heap_alloc _ _ _ hlt]
  exact h
def parFin (c : Nat) (F : Int × Nat × List KV) : Int × Nat × List KV := if F.1 ≠ 0 then (F.1, 0, []) else if c < F.2.2.length ∨ poolOk F.2.2 = false then (8, 0, []) else (0, F.2.1, F.2.2)
/-- Where the reading stands. -/
def ParR (bs : List UInt8) (R : Int × Nat × List KV) (w : World) (a : Option Addr) (n cap c gn : Nat) (v : Value) (wr : World) : Prop :=
  ∃ (m p : Nat) (e : Int) (acc : List KV), Hid (wr.ownsRow w.heap.size 42 5 v m (acc.flatMap KV.cells)) ∧ Hid (RdBlk wr w.heap.size a n cap p e) ∧ Hid (Below w.heap.size w wr) ∧
    Hid (∀ x ∈ acc, x.s.length ≤ 65536) ∧ m ≤ 1025 ∧ ((e = 0 ∧ p ≤ n ∧ 0 < n ∧ c ≤ 1024 ∧ 1 ≤ c ∧ c ≤ gn + m ∧ Hid (R = parFin c (parF bs c gn p acc))) ∨ (e ≠ 0 ∧ Hid (R = (e, 0, []))))
def ParseRet (R : Int × Nat × List KV) (w : World) (e : Ending) (w' : World) : Prop :=
  ∃ v m, e = .returned (.tuple #[v, .int .i64 (R.2.1 : Nat), .int .i64 R.1]) ∧ w'.ownsRow w.heap.size 42 5 v m (R.2.2.flatMap KV.cells) ∧ Below w.heap.size w w'
theorem ParseRet.err {R : Int × Nat × List KV} {w w' : World} {e : Int} (h : R = (e, 0, [])) (hb : Below w.heap.size w w') : ParseRet R w (.returned (.tuple #[.slice none 0 0, .int .i64 0, .int .i64 e])) w' := by
  subst h
  exact ⟨_, 0, rfl, World.ownsRow_nil _ _ _ _, hb⟩
set_option maxRecDepth 100000 in
set_option maxHeartbeats 16000000 in
theorem poolParse_any (w : World) (a : Option Addr) (n cap : Nat) (bs : List UInt8) (hs : Sl encB w a n bs) (hn : n ≤ 1048576) (hcap : n ≤ cap) : Calls Try.prog 33 #[.slice a n cap] w (ParseRet (parseK bs) w) := by
  have HLn := Lib.hid hs.1
  have hbg : ∀ b off, 0 < n → a = some ⟨b, off, none⟩ → b ≠ w.heap.size := fun b off h0 he => by
    obtain ⟨b', off', ha, hlt, _⟩ := hs.2 h0
    rw [he] at ha
    cases ha
    omega
  have HS := Lib.hid hs
  obtain ⟨R, hR⟩ : ∃ R, R = parseK bs := ⟨_, rfl⟩
  rw [← hR]
  have HR := Lib.hid hR
  have HN1 := Lib.hid (next_any (w.alloc (.cells #[.slice a n cap, .int .i64 0, .int .i64 0] 109)) a n cap bs w.heap.size 0 0 2 (hs.below ((Below.refl _ _).alloc (Nat.le_refl _) _)) hn hcap (by decide) (by decide) (heap_alloc_last w _))
  have HNB := Lib.hid (next_bound bs 0 0 2 (by decide))
  have HNI := Lib.hid (next_in bs 0 2)
  have HNO := Lib.hid (next_ok bs 0 2)
  have HPK : Hid (R = parseK bs) := HR
  clear hs hR
  unfold NextRet at HN1
  unfold parseK at HPK
  have HB0 := Lib.hid ((Below.refl w.heap.size w).alloc (Nat.le_refl _) (.cells #[.slice a n cap, .int .i64 0, .int .i64 0] 109))
  obtain ⟨c, hc⟩ : ∃ c : Nat, (nextR bs 0 0 2).1 = c := ⟨(nextR bs 0 0 2).1.toNat, by have := HNB.out.1; omega⟩
  have hc2 := HNB.out.2
  rw [hc] at HN1 HPK hc2
  rw [show ((256 ^ 2 : Nat) : Int) = 65536 from rfl] at hc2
  rw [Int.toNat_natCast] at HPK
  obtain ⟨p0, hp0⟩ : ∃ p, (nextR bs 0 0 2).2.1 = p := ⟨_, rfl⟩
  have HP2 := Lib.hid (show (nextR bs 0 0 2).2.1 = 2 from rfl)
  obtain ⟨e0, he0⟩ : ∃ e, (nextR bs 0 0 2).2.2 = e := ⟨_, rfl⟩
  rw [hp0] at HN1 HNI HP2
  rw [he0] at HN1 HNI HNO HPK
  clear hc hp0 he0 HNB
  go_enter Try.func33, Try.ntmps33
  go_wp2_with fail
  refine HN1.out.mono ?_
  rintro e w2 ⟨rfl, hr2, hg2⟩
  have HB2 := Lib.hid (HB0.out.grown hg2 HB0.out.size (fun k hk => by cases hk; exact Nat.le_refl _))
  have HR2 := Lib.hid hr2
  have hgw : w.heap.size < w2.heap.size := (Array.getElem?_eq_some_iff.1 hr2).1
  clear hr2 hg2 HN1 HB0
  -- the state ahead of the places
  have hst : ∃ (e1 : Int), (e1 = 0 ∧ e0 = 0 ∧ 1 ≤ c ∧ c ≤ 1024) ∨ (e1 ≠ 0 ∧ R = (e1, 0, []) ∧ (e1 = e0 ∨ (e0 = 0 ∧ e1 = 8 ∧ (c < 1 ∨ 1024 < c)))) := by
    by_cases h0 : e0 = 0
    · by_cases hcc : (c : Int) < 1 ∨ 1024 < (c : Int)
      · exact ⟨8, .inr ⟨by decide, by rw [HPK.out, if_neg (by simp [h0]), if_pos hcc], .inr ⟨h0, rfl, by omega⟩⟩⟩
      · exact ⟨0, .inl ⟨rfl, h0, by omega, by omega⟩⟩
    · exact ⟨e0, .inr ⟨h0, by rw [HPK.out, if_pos h0], .inl rfl⟩⟩
  obtain ⟨⟨r0, r1, r2⟩, ⟨s1, s2⟩, hgl⟩ := HR2.out.box
  obtain ⟨b, hb⟩ : ∃ b, b = decide (e0 = 0 ∧ (c < 1 ∨ 1024 < c)) := ⟨_, rfl⟩
  have HBB := Lib.hid hb
  have HST := Lib.hid hst
  clear hb hst
  go_upto_region 3 with fail
  go_cut [27] (fun s27 wx => wx = w2 ∧ s27 = .bool b)
  case first =>
    by_cases h0 : e0 = 0
    · have k0 : (e0 == 0) = true := by simpa using h0
      have k0d : decide (e0 = 0) = true := by simpa using h0
      by_cases h1 : c < 1
      · have k1 : decide ((c : Int) < 1) = true := by simp; omega
        have hbv : b = true := by rw [HBB.out]; simp [h0, h1]
        clear h0 h1
        go_wp2_with fail
        go_meet
        exact ⟨rfl, by rw [hbv]⟩
      · have k1 : decide ((c : Int) < 1) = false := by simp; omega
        by_cases h2 : 1024 < c
        · have k2 : decide (1024 < (c : Int)) = true := by simp; omega
          have hbv : b = true := by rw [HBB.out]; simp [h0, h2]
          clear h0 h1 h2
          go_wp2_with fail
          go_meet
          exact ⟨rfl, by rw [hbv]⟩
        · have k2 : decide (1024 < (c : Int)) = false := by simp; omega
          have hbv : b = false := by rw [HBB.out]; simp [h0, h1, h2]
          clear h0 h1 h2
          go_wp2_with fail
          go_meet
          exact ⟨rfl, by rw [hbv]⟩
    · have k0 : (e0 == 0) = false := by simpa using h0
      have k0d : decide (e0 = 0) = false := by simpa using h0
      have hbv : b = false := by rw [HBB.out]; simp [h0]
      clear h0
      go_wp2_with fail
      go_meet
      exact ⟨rfl, by rw [hbv]⟩
  case rest =>
    obtain ⟨rfl, rfl⟩ := hcut
    go_upto_if 27 with fail
    go_cut [] (fun wx => ∃ e1 : Int, RdBlk wx w.heap.size a n cap p0 e1 ∧ Below w.heap.size w wx ∧ ((e1 = 0 ∧ e0 = 0 ∧ 1 ≤ c ∧ c ≤ 1024) ∨ (e1 ≠ 0 ∧ R = (e1, 0, []))))
    case first =>
      cases hbv : b with
      | false =>
        go_wp2_with fail
        go_meet
        refine ⟨e0, HR2.out, HB2.out, ?_⟩
        have h1 := HBB.out
        rw [hbv] at h1
        have h2 := of_decide_eq_false h1.symm
        obtain ⟨e1, h3 | h3⟩ := HST.out
        · exact .inl ⟨h3.2.1, h3.2.1, h3.2.2⟩
        · obtain ⟨h4, h5, rfl | h6⟩ := h3
          · exact .inr ⟨h4, h5⟩
          · exact absurd ⟨h6.1, h6.2.2⟩ h2
      | true =>
        have h1 := HBB.out
        rw [hbv] at h1
        have h2 := of_decide_eq_true h1.symm
        have HE := Lib.hid h2
        clear h1 h2
        go_wp2_with fail
        go_meet
        refine ⟨8, HR2.out.set2, ?_, .inr ⟨by decide, ?_⟩⟩
        · exact HB2.out.setCell (p := ⟨w.heap.size, 2, none⟩) (Nat.le_refl _) _
        · have h5 := HE.out.2
          rw [HPK.out, if_neg (by simp [HE.out.1]), if_pos (by omega)]
    case rest =>
      obtain ⟨e1, hr1, hb1, hst⟩ := hcut
      have HR1 := Lib.hid hr1
      have HB1 := Lib.hid hb1
      have HST1 := Lib.hid hst
      have hgl := (Array.getElem?_eq_some_iff.1 hr1).1
      clear hr1 hb1 hst
      have HF0 := Lib.hid (show e1 = 0 → 0 < n ∧ 2 ≤ n ∧ 1 ≤ c ∧ c ≤ 1024 ∧ R = parFin c (parF bs c c 2 [kz]) from fun h => by
        rcases HST1.out with ⟨_, h2, h3, h4⟩ | ⟨h2, _⟩
        · have h5 := (HNO.out h2).2
          rw [HLn.out] at h5
          refine ⟨by omega, by omega, h3, h4, ?_⟩
          rw [HPK.out, if_neg (by simp [h2]), if_neg (by omega)]
          rfl
        · exact absurd h h2)
      go_upto_region 5 with fail
      go_wp2_with fail
      go_loopg [7] c (fun gq v wr => ∃ gn : Nat, gn = gq ∧ ParR bs R w a n cap c gn v wr)
      case atStart =>
        refine ⟨c, rfl, 1, p0, e1, [kz], Lib.hid (own_lit1 wc w.heap.size #[.int .i64 0, .int .i64 0, .int .i64 0, .int .i64 0, .string ⟨#[]⟩] _ 5 HB1.out.size rfl), Lib.hid (HR1.out.alloc _), Lib.hid (HB1.out.alloc HB1.out.size _), Lib.hid (fun x hx => by rw [List.mem_singleton.1 hx]; exact Nat.zero_le _), by decide, ?_⟩
        by_cases h : e1 = 0
        · obtain ⟨h1, h2, h3, h4, h5⟩ := HF0.out h
          refine .inl ⟨h, by rw [HP2.out]; exact h2, h1, h4, h3, by omega, Lib.hid (by rw [HP2.out]; exact h5)⟩
        · rcases HST1.out with h1 | h1
          · exact absurd h1.1 h
          · exact .inr ⟨h, Lib.hid h1.2⟩
      case round =>
        clear HF0 HST1 HST HPK HBB HB1 HR1 HR2 HB2 HNO HNI HP2 r0 r1 r2 s1 s2 hgl hgw
        obtain ⟨gn, rfl, m, p, e, acc, HO, HR, HB, HSH, hm, hcase⟩ := hrel
        obtain ⟨va, vc, rfl, hss, hcc⟩ := Ss.ofOwn KV.cells_length (by decide) HO.out
        have HSS := Lib.hid hss
        have HML := Lib.hid (own_snocs HO.out)
        obtain ⟨⟨c0, c1, c2⟩, _, hgl⟩ := HR.out.box
        clear hss
        by_cases he : e = 0
        · subst he
          obtain ⟨hpn, hn0, hc1, hc0, hcg, HRR⟩ : p ≤ n ∧ 0 < n ∧ c ≤ 1024 ∧ 1 ≤ c ∧ c ≤ gn + m ∧ Hid (R = parFin c (parF bs c gn p acc)) := by
            rcases hcase with h | h
            · exact h.2
            · exact absurd rfl h.1
          clear hcase
          by_cases hmc : m < c
          · obtain ⟨g2, rfl⟩ : ∃ g2, gn = g2 + 1 := ⟨gn - 1, by omega⟩
            have HC1 := Lib.hid (one_any _ a n cap bs w.heap.size p (HS.out.below HB.out) hn hcap (by omega) HR.out (fun b off h => hbg b off hn0 h))
            have HX := Lib.hid (fun h => show R = ((oneR bs p).2.2, 0, []) by rw [HRR.out, parF_err (by rw [HML.out]; omega) h]; unfold parFin; rw [if_pos h])
            have HY := Lib.hid (fun h => show R = parFin c (parF bs c g2 (oneR bs p).2.1 (acc ++ [(oneR bs p).1] ++ (if (oneR bs p).1.tag = 5 then [kz] else []))) by rw [HRR.out, parF_next (by rw [HML.out]; omega) h])
            have HP := Lib.hid (fun h => show (oneR bs p).2.1 ≤ n by rw [← HLn.out]; exact one_place bs p h)
            have hks := one_text bs p
            unfold OneRet at HC1
            generalize (oneR bs p).2.2 = e2 at *
            generalize (oneR bs p).2.1 = p2 at *
            generalize (oneR bs p).1 = K at *
            obtain ⟨kt, ka, kb, kn, ks⟩ := K
            unfold kV at HC1
            simp only at HC1 HY hks
            have hmc2 : (m : Int) < c := by omega
            go_wp2_with fail
            refine HC1.out.mono ?_
            rintro en w4 ⟨rfl, hr4, hg4⟩
            have HO4 := Lib.hid (own_over HO.out HR.out (by decide) hg4)
            have HB4 := Lib.hid (HB.out.grown hg4 HB.out.size (fun k hk => by cases hk; exact Nat.le_refl _))
            have HR4 := Lib.hid hr4
            clear hr4 hg4 HC1 c0 c1 c2 HO HR HB HSS
            go_upto_region 8 with fail
            have HO5 := Lib.hid (HO4.out.alloc (.cells #[.int .i64 kt, .int .i64 ka, .int .i64 kb, .int .i64 kn, .string ⟨ks.toArray⟩] 42))
            have HR5 := Lib.hid (HR4.out.alloc (.cells #[.int .i64 kt, .int .i64 ka, .int .i64 kb, .int .i64 kn, .string ⟨ks.toArray⟩] 42))
            have HB5 := Lib.hid (HB4.out.alloc HB4.out.size (.cells #[.int .i64 kt, .int .i64 ka, .int .i64 kb, .int .i64 kn, .string ⟨ks.toArray⟩] 42))
            have HK5 : Hid (KBlk (w4.alloc (.cells #[.int .i64 kt, .int .i64 ka, .int .i64 kb, .int .i64 kn, .string ⟨ks.toArray⟩] 42)) w4.heap.size kt ka kb kn ks) := Lib.hid (heap_alloc_last w4 _)
            have HG5 : Hid (w.heap.size ≤ w4.heap.size) := Lib.hid HB4.out.size
            have HNK := Lib.hid (show ∀ g, (Value.slice va m vc).ownBlock = some g → g < w4.heap.size from fun g hg => by
              rcases HO4.out.2 with ⟨h1, _⟩ | ⟨g2, cap2, cur, h1, _, h2, _⟩
              · rw [h1] at hg; simp [Value.ownBlock] at hg
              · rw [h1] at hg; simp [Value.ownBlock] at hg; subst hg; exact (Array.getElem?_eq_some_iff.1 h2).1)
            generalize (w4.alloc (.cells #[.int .i64 kt, .int .i64 ka, .int .i64 kb, .int .i64 kn, .string ⟨ks.toArray⟩] 42)) = W at *
            generalize w4.heap.size = gk at *
            clear HO4 HB4 HR4
            obtain ⟨⟨c0, c1, c2, c3, c4⟩, _, hgk⟩ := HK5.out.box
            by_cases hk5 : kt = 5
            · subst hk5
              go_wp2_with (at_builtin; first
                | (refine wpList_appS_lit stKr rfl _ _ rfl w.heap.size _ _ _ rfl HO5.out _ 1 _ _ rfl rfl rfl (List.all_eq_true.2 (KV.cells_one ⟨5, ka, kb, kn, ks⟩)) (by omega) (by unfold maxLen; omega) HB5.out.size ?_; intro v6 w6 hown6 hg6 hb6; have HO6 := Lib.hid hown6; have HB6 := Lib.hid (HB5.out.trans hb6); have HR6 := Lib.hid (show RdBlk w6 w.heap.size a n cap p2 e2 from kept_typeK HO5.out hg6 HR5.out (by decide)); have HK6 := Lib.hid (show KBlk w6 gk 5 ka kb kn ks from kept_own hg6 HK5.out (fun he => absurd (HNK.out gk he) (Nat.lt_irrefl _))); clear c0 c1 c2 c3 c4 hown6 hg6 hb6; obtain ⟨⟨c0, c1, c2, c3, c4⟩, _, _⟩ := HK6.out.box)
                | (refine wpList_appS_lit stKr rfl _ _ rfl w.heap.size _ _ _ rfl HO6.out _ 1 _ _ rfl rfl rfl (List.all_eq_true.2 (KV.cells_one ⟨0, 0, 0, 0, []⟩)) (by omega) (by unfold maxLen; omega) HB6.out.size ?_; intro v7 w7 hown7 hg7 hb7; have HO7 := Lib.hid hown7; have HB7 := Lib.hid (HB6.out.trans hb7); have HR7 := Lib.hid (show RdBlk w7 w.heap.size a n cap p2 e2 from kept_typeK HO6.out hg7 HR6.out (by decide)); clear hown7 hg7 hb7))
              go_roundg g2
              case measure => omega
              case rel =>
                refine ⟨g2, rfl, m + 1 + 1, p2, e2, acc ++ [⟨5, ka, kb, kn, ks⟩] ++ [kz], Lib.hid (by rw [List.flatMap_append, List.flatMap_append]; exact HO7.out), HR7, HB7, Lib.hid (fun x hx => ?_), by omega, ?_⟩
                · rcases List.mem_append.1 hx with h | h
                  · rcases List.mem_append.1 h with h | h
                    · exact HSH.out x h
                    · rw [List.mem_singleton.1 h]; exact hks
                  · rw [List.mem_singleton.1 h]; exact Nat.zero_le _
                · by_cases he2 : e2 = 0
                  · exact .inl ⟨he2, HP.out he2, hn0, hc1, hc0, by omega, Lib.hid (by have h := HY.out he2; rw [if_pos trivial] at h; exact h)⟩
                  · exact .inr ⟨he2, Lib.hid (HX.out he2)⟩
            · have k5 : (kt == 5) = false := by simpa using hk5
              have k5d : decide (kt = 5) = false := by simpa using hk5
              have HKN := Lib.hid hk5
              clear hk5
              go_wp2_with (at_builtin; first
                | (refine wpList_appS_lit stKr rfl _ _ rfl w.heap.size _ _ _ rfl HO5.out _ 1 _ _ rfl rfl rfl (List.all_eq_true.2 (KV.cells_one ⟨kt, ka, kb, kn, ks⟩)) (by omega) (by unfold maxLen; omega) HB5.out.size ?_; intro v6 w6 hown6 hg6 hb6; have HO6 := Lib.hid hown6; have HB6 := Lib.hid (HB5.out.trans hb6); have HR6 := Lib.hid (show RdBlk w6 w.heap.size a n cap p2 e2 from kept_typeK HO5.out hg6 HR5.out (by decide)); have HK6 := Lib.hid (show KBlk w6 gk kt ka kb kn ks from kept_own hg6 HK5.out (fun he => absurd (HNK.out gk he) (Nat.lt_irrefl _))); clear c0 c1 c2 c3 c4 hown6 hg6 hb6; obtain ⟨⟨c0, c1, c2, c3, c4⟩, _, _⟩ := HK6.out.box))
              go_roundg g2
              case measure => omega
              case rel =>
                refine ⟨g2, rfl, m + 1, p2, e2, acc ++ [⟨kt, ka, kb, kn, ks⟩], Lib.hid (by rw [List.flatMap_append]; exact HO6.out), HR6, HB6, Lib.hid (fun x hx => ?_), by omega, ?_⟩
                · rcases List.mem_append.1 hx with h | h
                  · exact HSH.out x h
                  · rw [List.mem_singleton.1 h]; exact hks
                · by_cases he2 : e2 = 0
                  · exact .inl ⟨he2, HP.out he2, hn0, hc1, hc0, by omega, Lib.hid (by have h := HY.out he2; rw [if_neg HKN.out, List.append_nil] at h; exact h)⟩
                  · exact .inr ⟨he2, Lib.hid (HX.out he2)⟩
          · have hmd : decide ((m : Int) < c) = false := by simp; omega
            have HRE := Lib.hid (show R = parFin c (0, p, acc) by rw [HRR.out, parF_end (by rw [HML.out]; omega)])
            by_cases hgt : c < m
            · have hgd : decide ((c : Int) < m) = true := by simp; omega
              have HQ := Lib.hid (show R = (8, 0, []) by rw [HRE.out]; unfold parFin; rw [if_neg (by simp), if_pos (.inl (by rw [HML.out]; exact hgt))])
              obtain ⟨_, ⟨s1, s2⟩, _⟩ := HR.out.box
              have HR8 := Lib.hid (HR.out.set2 (e' := 8))
              have HB8 := Lib.hid (HB.out.setCell (p := ⟨w.heap.size, 2, none⟩) (Nat.le_refl _) (.int .i64 8))
              clear hbg
              go_wp2_with fail
              go_quiet (fail)
              go_wp2_with fail
              go_ret3
              exact ParseRet.err HQ.out (bdrewN HB8.out _)
            · obtain rfl : m = c := by omega
              have hgd : decide ((m : Int) < m) = false := by simp
              have HCK := Lib.hid (Check_any wr va m vc acc HSS.out (by omega) (fun i hi => HSH.out _ (by unfold kAt; rw [Int.toNat_natCast]; rw [List.getD_eq_getElem?_getD, List.getElem?_eq_getElem (by rw [HML.out]; exact hi)]; exact List.getElem_mem _)))
              unfold CheckRet at HCK
              cases hok : poolOk acc with
              | false =>
                have HQ := Lib.hid (show R = (8, 0, []) by rw [HRE.out]; unfold parFin; rw [if_neg (by simp), if_pos (.inr hok)])
                rw [hok] at HCK
                simp only [Bool.false_eq_true, if_false] at HCK
                clear hok hbg
                go_wp2_with fail
                refine HCK.out.mono ?_
                rintro en w4 ⟨rfl, hb4⟩
                have HB4 := Lib.hid (HB.out.trans (hb4.mono HB.out.size))
                have HR4 := Lib.hid (HR.out.below hb4)
                clear hb4 c0 c1 c2 HR HB HSS HO
                obtain ⟨⟨c0, c1, c2⟩, ⟨s1, s2⟩, hgl4⟩ := HR4.out.box
                have HR8 := Lib.hid (HR4.out.set2 (e' := 8))
                have HB8 := Lib.hid (HB4.out.setCell (p := ⟨w.heap.size, 2, none⟩) (Nat.le_refl _) (.int .i64 8))
                go_wp2_with fail
                go_quiet (fail)
                go_wp2_with fail
                go_ret3
                exact ParseRet.err HQ.out (bdrewN HB8.out _)
              | true =>
                have HQ := Lib.hid (show R = (0, p, acc) by rw [HRE.out]; unfold parFin; rw [if_neg (by simp), if_neg (by rw [HML.out, hok]; simp)])
                rw [hok] at HCK
                simp only [if_true] at HCK
                clear hok hbg
                go_wp2_with fail
                refine HCK.out.mono ?_
                rintro en w4 ⟨rfl, hb4⟩
                have HB4 := Lib.hid (HB.out.trans (hb4.mono HB.out.size))
                have HR4 := Lib.hid (HR.out.below hb4)
                have HO4 := Lib.hid (own_below HO.out hb4)
                clear hb4 c0 c1 c2 HR HB HSS HO
                obtain ⟨⟨c0, c1, c2⟩, ⟨s1, s2⟩, hgl4⟩ := HR4.out.box
                go_wp2_with fail
                go_quiet (fail)
                go_wp2_with fail
                go_ret3
                exact ⟨_, m, (by rw [HQ.out]; rfl), by rw [HQ.out]; exact own_below HO4.out (bdrewN (Below.refl _ _) _), bdrewN HB4.out _⟩
        · have k0 : (e == 0) = false := by simpa using he
          have k0n : (e != 0) = true := by simpa using he
          have k0d : decide (e = 0) = false := by simpa using he
          have HQ : Hid (R = (e, 0, [])) := by
            rcases hcase with h | h
            · exact absurd h.1 he
            · exact h.2
          clear hcase he hbg
          go_wp2_with fail
          go_quiet (fail)
          go_wp2_with fail
          go_ret3
          exact ParseRet.err HQ.out (bdrewN HB.out _)
end Go.Proofs.Ytnfhiakdbakpgaa
/- pool: what is written is read as it was, place by place. No program in sight. -/
namespace Go.Proofs.Ytnfhiakdbakpgaa
open Go.RowKit
theorem get_put_at (pre t : List UInt8) (v m : Nat) (h1 : 1 ≤ m) (h8 : m ≤ 8) : getR (pre ++ (putB v m ++ t)) (pre.length : Nat) (m : Nat) = (((v % 256 ^ m : Nat) : Int), 0) := by
  unfold getR
  rw [if_neg (by omega), if_neg (by simp [putB_length]; omega)]
  rw [Int.toNat_natCast, Int.toNat_natCast, List.drop_left, List.take_left' (putB_length v m), get_put]
theorem next_put (pre t : List UInt8) (v m : Nat) (h1 : 1 ≤ m) (h8 : m ≤ 8) : nextR (pre ++ (putB v m ++ t)) pre.length 0 m = (((v % 256 ^ m : Nat) : Int), pre.length + m, 0) := by
  unfold nextR
  rw [if_pos rfl, get_put_at pre t v m h1 h8]
theorem text_put (pre t s : List UInt8) : textR (pre ++ (s ++ t)) pre.length 0 s.length = (s, pre.length + s.length, 0) := by
  unfold textR
  rw [if_neg (by simp), if_neg (by simp; omega), List.drop_left, List.take_left' rfl]
/-- A place that may be written. -/
def FitsK (c : KV) : Prop :=
  (c.tag = 1 ∧ c.a = 0 ∧ c.b = 0 ∧ c.n = 0 ∧ c.s.length ≤ 65535) ∨ (c.tag = 3 ∧ c.a = 0 ∧ c.b = 0 ∧ c.s = [] ∧ -2147483648 ≤ c.n ∧ c.n ≤ 2147483647) ∨
  (c.tag = 5 ∧ c.a = 0 ∧ c.b = 0 ∧ c.s = [] ∧ -9223372036854775808 ≤ c.n ∧ c.n ≤ 9223372036854775807) ∨ ((c.tag = 7 ∨ c.tag = 8) ∧ c.b = 0 ∧ c.n = 0 ∧ c.s = [] ∧ 0 ≤ c.a ∧ c.a ≤ 65535) ∨
  ((c.tag = 9 ∨ c.tag = 10 ∨ c.tag = 12) ∧ c.n = 0 ∧ c.s = [] ∧ 0 ≤ c.a ∧ c.a ≤ 65535 ∧ 0 ≤ c.b ∧ c.b ≤ 65535)
theorem put_app2 (pre x y t : List UInt8) : pre ++ (x ++ y ++ t) = (pre ++ x) ++ (y ++ t) := by simp
theorem one_tag (bs : List UInt8) (p g : Nat) (h : nextR bs p 0 1 = ((g : Int), p + 1, 0)) : (nextR bs p 0 1).1 = g ∧ (nextR bs p 0 1).2.1 = p + 1 ∧ (nextR bs p 0 1).2.2 = 0 := by rw [h]; exact ⟨rfl, rfl, rfl⟩
theorem put_pair (a b : Nat) (hb : b < 65536) : putB (a * 65536 + b) 4 = putB a 2 ++ putB b 2 := by
  rw [putB_succ _ 3, putB_succ _ 2, putB_succ b 1, putB_succ _ 0]
  rw [show (a * 65536 + b) / 256 / 256 = a by omega, show (a * 65536 + b) % 256 = b % 256 by omega, show (a * 65536 + b) / 256 % 256 = b / 256 % 256 by omega]
  simp [putB]
theorem one_enc (pre t : List UInt8) (c : KV) (h : FitsK c) : oneR (pre ++ (oneK c ++ t)) pre.length = (c, pre.length + (oneK c).length, 0) := by
  obtain ⟨ct, ca, cb, cn, cs⟩ := c
  unfold FitsK at h
  simp only at h
  rcases h with ⟨rfl, rfl, rfl, rfl, h⟩ | ⟨rfl, rfl, rfl, rfl, h, h'⟩ | ⟨rfl, rfl, rfl, rfl, h, h'⟩ | ⟨hk, rfl, rfl, rfl, h, h'⟩ | ⟨hk, rfl, rfl, h, h', h2, h3⟩
  · have e : oneK ⟨1, 0, 0, 0, cs⟩ = putB 1 1 ++ (putB cs.length 2 ++ cs) := rfl
    have n1 := next_put pre (putB cs.length 2 ++ cs ++ t) 1 1 (by decide) (by decide)
    have n2 := next_put (pre ++ putB 1 1) (cs ++ t) cs.length 2 (by decide) (by decide)
    have n3 := text_put (pre ++ putB 1 1 ++ putB cs.length 2) t cs
    simp only [List.length_append, putB_length, List.append_assoc] at n1 n2 n3
    rw [show cs.length % 256 ^ 2 = cs.length from Nat.mod_eq_of_lt (by omega)] at n2
    rw [e]
    unfold oneR
    simp only [List.append_assoc, List.length_append, putB_length]
    rw [n1]
    simp [n2, n3]
    omega
  · have e : oneK ⟨3, 0, 0, cn, []⟩ = putB 3 1 ++ putB (u64N cn) 4 := rfl
    have n1 := next_put pre (putB (u64N cn) 4 ++ t) 3 1 (by decide) (by decide)
    have n2 := next_put (pre ++ putB 3 1) t (u64N cn) 4 (by decide) (by decide)
    simp only [List.length_append, putB_length, List.append_assoc] at n1 n2
    have hs : signB ((u64N cn % 256 ^ 4 : Nat) : Int) 4 = cn := by
      rw [signB_4, show (256 : Nat) ^ 4 = 4294967296 by decide]
      unfold wrap32 u64N; omega
    rw [e]
    unfold oneR
    simp only [List.append_assoc, List.length_append, putB_length]
    rw [n1]
    simp only [n2, hs]
    simp
  · have e : oneK ⟨5, 0, 0, cn, []⟩ = putB 5 1 ++ putB (u64N cn) 8 := rfl
    have n1 := next_put pre (putB (u64N cn) 8 ++ t) 5 1 (by decide) (by decide)
    have n2 := next_put (pre ++ putB 5 1) t (u64N cn) 8 (by decide) (by decide)
    simp only [List.length_append, putB_length, List.append_assoc] at n1 n2
    have hs : signB ((u64N cn % 256 ^ 8 : Nat) : Int) 8 = cn := by
      rw [signB_8, show (256 : Nat) ^ 8 = 18446744073709551616 by decide]
      unfold wrap64 u64N; omega
    rw [e]
    unfold oneR
    simp only [List.append_assoc, List.length_append, putB_length]
    rw [n1]
    simp only [n2, hs]
    simp
  · have e : ∀ g : Int, g = 7 ∨ g = 8 → oneK ⟨g, ca, 0, 0, []⟩ = putB g.toNat 1 ++ putB (u64N ca) 2 := by
      rintro g (rfl | rfl) <;> rfl
    have hv : ((u64N ca % 256 ^ 2 : Nat) : Int) = ca := by
      rw [show (256 : Nat) ^ 2 = 65536 by decide]
      unfold u64N; omega
    rw [e ct hk]
    have n1 := next_put pre (putB (u64N ca) 2 ++ t) ct.toNat 1 (by decide) (by decide)
    have n2 := next_put (pre ++ putB ct.toNat 1) t (u64N ca) 2 (by decide) (by decide)
    simp only [List.length_append, putB_length, List.append_assoc] at n1 n2
    have hg : ((ct.toNat % 256 ^ 1 : Nat) : Int) = ct := by omega
    rw [hg] at n1
    rw [hv] at n2
    unfold oneR
    simp only [List.append_assoc, List.length_append, putB_length]
    rw [n1]
    rcases hk with rfl | rfl <;> (simp only [show (7 : Int).toNat = 7 from rfl, show (8 : Int).toNat = 8 from rfl] at n2 ⊢; simp [n2])
  · have e : ∀ g : Int, g = 9 ∨ g = 10 ∨ g = 12 → oneK ⟨g, ca, cb, 0, []⟩ = putB g.toNat 1 ++ (putB (u64N ca) 2 ++ putB (u64N cb) 2) := by
      rintro g (rfl | rfl | rfl) <;> rfl
    have ea : ((u64N ca : Nat) : Int) = ca := by unfold u64N; omega
    have eb : ((u64N cb : Nat) : Int) = cb := by unfold u64N; omega
    rw [e ct hk, ← put_pair _ _ (by omega)]
    generalize u64N ca = x at *
    generalize u64N cb = y at *
    have n1 := next_put pre (putB (x * 65536 + y) 4 ++ t) ct.toNat 1 (by decide) (by decide)
    have n2 := next_put (pre ++ putB ct.toNat 1) t (x * 65536 + y) 4 (by decide) (by decide)
    simp only [List.length_append, putB_length, List.append_assoc] at n1 n2
    have hg : ((ct.toNat % 256 ^ 1 : Nat) : Int) = ct := by omega
    have hv : (x * 65536 + y) % 256 ^ 4 = x * 65536 + y := Nat.mod_eq_of_lt (by omega)
    rw [hg] at n1
    rw [hv] at n2
    have v1 : (((x * 65536 + y : Nat) : Int)) / 65536 = ca := by omega
    have v2 : (((x * 65536 + y : Nat) : Int)) % 65536 = cb := by omega
    generalize ((x * 65536 + y : Nat) : Int) = V at n2 v1 v2
    unfold oneR
    simp only [List.append_assoc, List.length_append, putB_length]
    rw [n1]
    rcases hk with rfl | rfl | rfl <;> (simp only [show (9 : Int).toNat = 9 from rfl, show (10 : Int).toNat = 10 from rfl, show (12 : Int).toNat = 12 from rfl] at n2 ⊢; simp [n2, v1, v2])
end Go.Proofs.Ytnfhiakdbakpgaa
/- pool: what is written is read as it was: whole pools. No program in sight. -/
namespace Go.Proofs.Ytnfhiakdbakpgaa
open Go.RowKit
theorem kAt_get (L : List KV) (k : Nat) (h : k < L.length) : kAt L (k : Int) = L[k] := by
  unfold kAt; simp [List.getD, h]
theorem bare_parts {c : KV} (h : bareOk c = true) : (c.tag = 1 ∨ c.s = []) ∧ ((c.tag = 5 ∨ c.n = 0) ∨ (c.tag = 3 ∧ -2147483648 ≤ c.n ∧ c.n ≤ 2147483647)) ∧ ((c.tag = 9 ∨ c.tag = 10 ∨ c.tag = 12) ∨ c.b = 0) ∧ ((c.tag = 9 ∨ c.tag = 10 ∨ c.tag = 12 ∨ c.tag = 7 ∨ c.tag = 8) ∨ c.a = 0) := by
  unfold bareOk at h
  simp only [Bool.and_eq_true, Bool.or_eq_true, decide_eq_true_eq, List.isEmpty_iff] at h
  obtain ⟨⟨⟨b1, b2⟩, b3⟩, b4⟩ := h
  exact ⟨b1, b2, b3, b4⟩
theorem place_parts {L : List KV} (hp : poolOk L = true) (k : Nat) (hk : k < L.length) : bareOk (kAt L k) = true ∧ leadOk L k = true := by
  have h1 := (poolOk_parts hp).2.2.2 k hk
  unfold placeOk at h1
  simpa using h1
theorem zero_in {L : List KV} (hp : poolOk L = true) (k : Nat) (hk : k < L.length) (h0 : (kAt L k).tag = 0) : kAt L k = kz := by
  obtain ⟨b1, b2, b3, b4⟩ := bare_parts (place_parts hp k hk).1
  generalize kAt L k = c at *
  obtain ⟨t, a, b, n, s⟩ := c
  simp only at *
  subst h0
  rcases b1 with h | rfl
  · cases h
  have hn : n = 0 := by omega
  have hb : b = 0 := by omega
  have ha : a = 0 := by omega
  subst hn hb ha
  rfl
theorem fits_in {L : List KV} (hp : poolOk L = true) (hw : ∀ c ∈ L, -9223372036854775808 ≤ c.n ∧ c.n ≤ 9223372036854775807) (k : Nat) (hk : k < L.length) (h0 : (kAt L k).tag ≠ 0) : FitsK (kAt L k) := by
  obtain ⟨h1, h2⟩ := place_parts hp k hk
  obtain ⟨b1, b2, b3, b4⟩ := bare_parts h1
  have h3 := tags hp k hk
  have hl := (poolOk_parts hp).2.1
  have hn := hw (kAt L k) (by rw [kAt_get L k hk]; exact List.getElem_mem hk)
  unfold leadOk at h2
  simp only at h2
  unfold FitsK
  generalize kAt L k = c at *
  obtain ⟨t, a, b, n, s⟩ := c
  simp only at *
  rcases h3 with h | rfl | rfl | rfl | rfl | rfl | rfl | rfl | rfl
  · exact absurd h h0
  · simp only [show ¬ ((1 : Int) = 0) by decide, if_false, if_true, Bool.and_eq_true, decide_eq_true_eq] at h2
    exact .inl ⟨rfl, by omega, by omega, by omega, h2.2⟩
  · rcases b1 with h | rfl
    · cases h
    exact .inr (.inl ⟨rfl, by omega, by omega, rfl, by omega, by omega⟩)
  · rcases b1 with h | rfl
    · cases h
    exact .inr (.inr (.inl ⟨rfl, by omega, by omega, rfl, by omega, by omega⟩))
  · rcases b1 with h | rfl
    · cases h
    simp only [show ¬ ((7 : Int) = 0) by decide, show ¬ ((7 : Int) = 1) by decide, show ¬ ((7 : Int) = 3) by decide, show ¬ ((7 : Int) = 5) by decide, show ¬ ((7 : Int) = 12) by decide, if_false, true_or, if_true] at h2
    have h5 := isT_true h2
    exact .inr (.inr (.inr (.inl ⟨.inl rfl, by omega, by omega, rfl, by omega, by omega⟩)))
  · rcases b1 with h | rfl
    · cases h
    simp only [show ¬ ((8 : Int) = 0) by decide, show ¬ ((8 : Int) = 1) by decide, show ¬ ((8 : Int) = 3) by decide, show ¬ ((8 : Int) = 5) by decide, show ¬ ((8 : Int) = 12) by decide, if_false, or_true, if_true] at h2
    have h5 := isT_true h2
    exact .inr (.inr (.inr (.inl ⟨.inr rfl, by omega, by omega, rfl, by omega, by omega⟩)))
  all_goals
    rcases b1 with h | rfl
    · cases h
    simp (decide := true) only [if_false, if_true, Bool.and_eq_true] at h2
    have h5 := isT_true h2.1
    have h6 := isT_true h2.2
    exact .inr (.inr (.inr (.inr ⟨by omega, by omega, rfl, by omega, by omega, by omega, by omega⟩)))
theorem bytes_split (L : List KV) (more : List UInt8) (j : Nat) (hj : j < L.length) : bytesK L ++ more = (putB L.length 2 ++ (L.take j).flatMap oneK) ++ (oneK (kAt L j) ++ ((L.drop (j + 1)).flatMap oneK ++ more)) := by
  have h : L.flatMap oneK = (L.take j).flatMap oneK ++ (oneK (kAt L j) ++ (L.drop (j + 1)).flatMap oneK) := by
    rw [kAt_get L j hj, ← List.flatMap_cons, ← List.drop_eq_getElem_cons hj, ← List.flatMap_append, List.take_append_drop]
  unfold bytesK
  rw [h]
  simp
theorem parF_of {L : List KV} (hp : poolOk L = true) (hw : ∀ c ∈ L, -9223372036854775808 ≤ c.n ∧ c.n ≤ 9223372036854775807) (more : List UInt8) :
    ∀ (fuel j : Nat), 1 ≤ j → j ≤ L.length → L.length ≤ fuel + j → (kAt L ((j : Int) - 1)).tag ≠ 5 → parF (bytesK L ++ more) L.length fuel (2 + ((L.take j).flatMap oneK).length) (L.take j) = (0, (bytesK L).length, L) := by
  have hend : ∀ fuel, parF (bytesK L ++ more) L.length fuel (2 + ((L.take L.length).flatMap oneK).length) (L.take L.length) = (0, (bytesK L).length, L) := by
    intro fuel
    rw [List.take_length, parF_end (Nat.le_refl _)]
    unfold bytesK
    rw [List.length_append, putB_length]
  intro fuel
  induction fuel with
  | zero =>
    intro j h1 h2 h3 h4
    obtain rfl : j = L.length := by omega
    exact hend 0
  | succ fuel ih =>
    intro j h1 h2 h3 h4
    by_cases hj : j = L.length
    · subst hj; exact hend _
    have hjl : j < L.length := by omega
    have hlead := (place_parts hp j hjl).2
    have h0 : (kAt L j).tag ≠ 0 := fun h0 => by
      unfold leadOk at hlead
      simp only at hlead
      rw [if_pos h0] at hlead
      simp at hlead
      omega
    have hone := one_enc (putB L.length 2 ++ (L.take j).flatMap oneK) ((L.drop (j + 1)).flatMap oneK ++ more) (kAt L j) (fits_in hp hw j hjl h0)
    rw [← bytes_split L more j hjl, List.length_append, putB_length] at hone
    have htk : (L.take (j + 1)) = L.take j ++ [kAt L j] := by rw [List.take_succ_eq_append_getElem hjl, kAt_get L j hjl]
    have hfl : ((L.take (j + 1)).flatMap oneK).length = ((L.take j).flatMap oneK).length + (oneK (kAt L j)).length := by
      rw [htk, List.flatMap_append, List.length_append]; simp
    rw [parF_next (by simp; omega) (by rw [hone]), hone]
    simp only
    by_cases h5 : (kAt L j).tag = 5
    · rw [if_pos h5]
      unfold leadOk at hlead
      simp only at hlead
      rw [if_neg h0, if_neg (by omega), if_neg (by omega), if_pos h5] at hlead
      simp only [Bool.and_eq_true, decide_eq_true_eq] at hlead
      have hz := zero_in hp (j + 1) hlead.1 (by rw [Int.natCast_add]; exact hlead.2)
      have htk2 : (L.take (j + 2)) = L.take j ++ [kAt L j] ++ [kz] := by rw [List.take_succ_eq_append_getElem hlead.1, ← kAt_get L (j + 1) hlead.1, hz, htk]
      have hfl2 : ((L.take (j + 2)).flatMap oneK).length = ((L.take j).flatMap oneK).length + (oneK (kAt L j)).length := by
        rw [htk2, ← htk, List.flatMap_append, List.length_append, hfl]
        simp [oneK, kz]
      have h6 := ih (j + 2) (by omega) (by omega) (by omega) (by rw [show ((j + 2 : Nat) : Int) - 1 = ((j + 1 : Nat) : Int) by omega, hz]; decide)
      rw [hfl2, htk2] at h6
      rw [Nat.add_assoc]
      exact h6
    · rw [if_neg h5]
      have h6 := ih (j + 1) (by omega) (by omega) (by omega) (by rw [show ((j + 1 : Nat) : Int) - 1 = (j : Int) by omega]; exact h5)
      rw [hfl, htk] at h6
      rw [Nat.add_assoc, List.append_nil]
      exact h6
/-- What is written is read as it was, whatever stands behind. -/
theorem parse_bytes {L : List KV} (hp : poolOk L = true) (hw : ∀ c ∈ L, -9223372036854775808 ≤ c.n ∧ c.n ≤ 9223372036854775807) (more : List UInt8) : parseK (bytesK L ++ more) = (0, (bytesK L).length, L) := by
  obtain ⟨h1, h2, h3, _⟩ := poolOk_parts hp
  have hz := zero_in hp 0 (by omega) h3
  have hn := next_put [] (L.flatMap oneK ++ more) L.length 2 (by decide) (by decide)
  rw [List.nil_append, ← List.append_assoc] at hn
  rw [show putB L.length 2 ++ L.flatMap oneK ++ more = bytesK L ++ more from rfl, Nat.mod_eq_of_lt (by omega : L.length < 256 ^ 2)] at hn
  simp only [List.length_nil, Nat.zero_add] at hn
  have ht : L.take 1 = [kz] := by rw [← hz]; rw [List.take_succ_eq_append_getElem (by omega : 0 < L.length), kAt_get L 0 (by omega)]; simp
  have hf := parF_of hp hw more L.length 1 (by omega) h1 (by omega) (by rw [show ((1 : Nat) : Int) - 1 = ((0 : Nat) : Int) by omega, hz]; decide)
  rw [ht, show ([kz].flatMap oneK).length = 0 from rfl] at hf
  unfold parseK
  rw [hn]
  simp only [Int.toNat_natCast]
  rw [hf]
  simp only [ne_eq, not_true_eq_false, if_false, hp]
  rw [if_neg (by omega), if_neg (by simp)]
end Go.Proofs.Ytnfhiakdbakpgaa
