/- utf: Decode, Len, Plain, and the reference's. No condition. -/
import Derived.Test.YtlfoedagcagpgaaUtfFn
namespace Go.Proofs.Ytlfoedagcagpgaa
open Go.ChangeShapes Go.WideShapes Go.ChangeAt Go.RowKit
attribute [local go_sem ↓] Go.wp_at_zero Go.wp_at_succ

/-- What Decode returns. -/
def DecRet (w : World) (r : Option (List UInt16)) (e : Ending) (w' : World) : Prop :=
  match r with
  | none => e = .returned (.tuple #[.slice none 0 0, .int .i64 8]) ∧ Below w.heap.size w w'
  | some us => ∃ v n, e = .returned (.tuple #[v, .int .i64 0]) ∧ w'.ownsRow w.heap.size 63 1 v n (us.map encU) ∧ Below w.heap.size w w'

/-- At the head of Decode's loop. -/
def DecRel (w : World) (n : Nat) (bs : List UInt8) (s t : Value) (wr : World) : Prop :=
  ∃ (a' : Option Addr) (m c f k : Nat) (rest : List UInt8) (us : List UInt16), s = .slice a' m c ∧ m ≤ f ∧ f ≤ n ∧ m ≤ c ∧ k + m ≤ n ∧ Hid (Sl encB w a' m rest) ∧ Hid (wr.ownsRow w.heap.size 63 1 t k (us.map encU)) ∧ Hid (Below w.heap.size w wr) ∧
      Hid (decodeB bs = (decodeF f rest).map (us ++ ·))
def lenOfV : Value → Nat | .slice _ m _ => m | _ => 0

set_option maxRecDepth 100000 in
set_option maxHeartbeats 2000000 in
theorem Decode_any (w : World) (a : Option Addr) (n cap : Nat) (bs : List UInt8) (hs : Sl encB w a n bs) (hn : n ≤ 65536) (hcap : n ≤ cap) :
    Calls Try.prog 35 #[.slice a n cap] w (DecRet w (decodeB bs)) := by
  have HS := Lib.hid hs
  have hnl := hs.1
  have HC := Lib.hid hcap
  clear hs hcap
  go_enter Try.func35, Try.ntmps35
  go_wp2
  go_loopw [0, 4] (fun s t wr => DecRel w n bs s t wr) (fun s _ _ => lenOfV s)
  case atStart => exact ⟨a, n, cap, n, 0, bs, [], rfl, Nat.le_refl _, Nat.le_refl _, HC.out, by omega, HS, World.ownsRow_nil _ _ _ _, Below.refl _ _, by show _ = _; unfold decodeB; rw [hnl]; simp⟩
  case round =>
    obtain ⟨a', m, c, f, k, rest, us, rfl, hmf, hfn, hmc, hkm, HR, HO, HW, HD⟩ := hrel
    by_cases hlt : 0 < m
    · have hne : rest ≠ [] := by intro h; have := HR.out.1; rw [h] at this; simp at this; omega
      have hle := takeN_le hne
      rw [HR.out.1] at hle
      go_wp2_with fail
      refine (take_any _ _ _ _ rest (HR.out.below HW.out) (by omega) hlt).mono ?_
      obtain ⟨u, hu⟩ : ∃ u, u = (takeN rest).1 := ⟨_, rfl⟩
      obtain ⟨q, hq⟩ : ∃ q, q = (takeN rest).2 := ⟨_, rfl⟩
      rw [← hu, ← hq] at hle
      obtain ⟨hq1, hu1⟩ := hle
      unfold TakeRet
      rw [← hu, ← hq]
      have HU := Lib.hid hu
      have HQ := Lib.hid hq
      clear hu hq
      rintro e w1 ⟨rfl, rfl⟩
      obtain ⟨f, rfl⟩ : ∃ f', f = f' + 1 := ⟨f - 1, by omega⟩
      have hstep := decodeF_step (f := f) (bs := rest) (by rw [HR.out.1]; omega) hne
      rw [← HU.out, ← HQ.out] at hstep
      have HT := Lib.hid hstep
      clear hstep hne
      by_cases hq0 : q = 0
      · have hN : decodeB bs = none := by rw [HD.out, HT.out, if_pos hq0]; rfl
        have HN := Lib.hid hN
        clear hN
        subst hq0
        go_wp2
        go_ret2
        rw [HN.out]
        exact ⟨rfl, HW.out⟩
      · have hq2 : ((q : Int) == 0) = false := by simp; omega
        have hqp : 0 < q := by omega
        have HD2 := Lib.hid (show decodeB bs = (decodeF f (rest.drop q)).map ((us ++ [UInt16.ofNat u]) ++ ·) by
          rw [HD.out, HT.out, if_neg hq0]
          cases decodeF f (rest.drop q) <;> simp)
        have HE := Lib.hid (show (Value.int .u16 (u : Int)) = encU (UInt16.ofNat u) by unfold encU; rw [UInt16.toNat_ofNat_of_lt' hu1])
        have g1 : (0 : Int) ≤ (q : Int) := by omega
        have g2 : (q : Int) ≤ (m : Int) := by omega
        have g3 : (m : Int) ≤ (c : Int) := by omega
        obtain ⟨b, off, rfl, _⟩ := HR.out.drop (j := 0) hlt
        by_cases hqc : c = q
        · obtain rfl : q = m := by omega
          subst hqc
          clear hq0
          go_wp2_with fail
          go_region_law ((refine step_app_lit oneU (by rfl) _ _ (by rfl) w.heap.size _ _ _ (by rfl) HO.out.drew _ 1 _ (by rfl) (by rfl) (by rfl) (by omega) (by unfold maxLen; omega) HW.out.size ?_; intro v1 w1 hown1 hg1 hb1))
          have HO1 := Lib.hid hown1
          have HB1 := Lib.hid (HW.out.trans (((Below.refl _ _).drew).trans hb1))
          clear hown1 hg1 hb1
          go_wp2_with fail
          have hrel : DecRel w n bs (.slice (some ⟨b, off, none⟩) 0 0) v1 w1 :=
            ⟨_, 0, 0, f, k + 1, _, us ++ [UInt16.ofNat u], rfl, by omega, by omega, by omega, by omega, by
              have hl := HR.out.1
              show Sl _ _ _ _ _
              rw [List.drop_of_length_le (by omega)]
              exact Sl.nil _ _, by rw [List.map_append]; show World.ownsRow _ _ _ _ _ _ (_ ++ [_]); rw [← HE.out]; exact HO1.out, HB1, HD2⟩
          exact ⟨⟨_, _, _, _, hrel, rfl, rfl, rfl, rfl⟩, by simp only [lenOfV]; omega⟩
        · clear hq0
          go_wp2_with fail
          go_region_law ((refine step_app_lit oneU (by rfl) _ _ (by rfl) w.heap.size _ _ _ (by rfl) HO.out.drew _ 1 _ (by rfl) (by rfl) (by rfl) (by omega) (by unfold maxLen; omega) HW.out.size ?_; intro v1 w1 hown1 hg1 hb1))
          have HO1 := Lib.hid hown1
          have HB1 := Lib.hid (HW.out.trans (((Below.refl _ _).drew).trans hb1))
          clear hown1 hg1 hb1
          go_wp2_with fail
          have hSl : Sl encB w (some ⟨b, off + q, none⟩) (m - q) (rest.drop q) := by
            by_cases hqm : q < m
            · obtain ⟨b', off', he, hSl⟩ := HR.out.drop hqm
              simp only [Option.some.injEq, Addr.mk.injEq, and_true] at he
              rw [he.1, he.2]; exact hSl
            · have hl := HR.out.1
              rw [List.drop_of_length_le (by omega), show m - q = 0 by omega]
              exact Sl.nil _ _
          have hrel : DecRel w n bs (.slice (some ⟨b, off + q, none⟩) (m - q) (c - q)) v1 w1 :=
            ⟨_, m - q, c - q, f, k + 1, _, us ++ [UInt16.ofNat u], rfl, by omega, by omega, by omega, by omega, hSl,
              by rw [List.map_append]; show World.ownsRow _ _ _ _ _ _ (_ ++ [_]); rw [← HE.out]; exact HO1.out, HB1, HD2⟩
          exact ⟨⟨_, _, _, _, hrel, rfl, rfl, rfl, rfl⟩, by simp only [lenOfV]; omega⟩
    · have hN : decodeB bs = some us := by
        have : rest = [] := List.eq_nil_of_length_eq_zero (by rw [HR.out.1]; omega)
        rw [HD.out, this]; simp [decodeF]
      have HN := Lib.hid hN
      clear hN
      go_wp2
      go_ret2
      rw [HN.out]
      exact ⟨_, k, rfl, HO.out, HW.out⟩

/-- What Len returns. -/
def lenOf (r : Option (List UInt16)) : Int × Int := match r with | none => (0, 8) | some us => (us.length, 0)
set_option maxRecDepth 100000 in
set_option maxHeartbeats 2000000 in
theorem Len_any (w : World) (a : Option Addr) (n cap : Nat) (bs : List UInt8) (hs : Sl encB w a n bs) (hn : n ≤ 65536) (hcap : n ≤ cap) :
    Calls Try.prog 29 #[.slice a n cap] w fun e w' => e = .returned (.tuple #[.int .i64 (lenOf (decodeB bs)).1, .int .i64 (lenOf (decodeB bs)).2]) ∧ Below w.heap.size w w' := by
  have HD := Lib.hid (Decode_any w a n cap bs hs hn hcap)
  clear hs hcap
  go_enter Try.func29, Try.ntmps29
  go_wp2_with fail
  refine HD.out.mono ?_
  intro e w1 hr
  clear HD
  cases hd : decodeB bs with
  | none =>
    rw [hd] at hr
    obtain ⟨rfl, hb⟩ := hr
    have H := Lib.hid hd
    clear hd
    go_wp2
    go_ret2
    exact ⟨by rw [H.out]; rfl, hb⟩
  | some us =>
    rw [hd] at hr
    obtain ⟨v, m, rfl, hown, hb⟩ := hr
    obtain ⟨a1, cap1, rfl, hsl, _⟩ := Sl.ofOwn hown
    have hl := hsl.1
    have H := Lib.hid hd
    have HL := Lib.hid hl
    clear hd hown hsl hl
    go_wp2
    go_ret2
    exact ⟨by rw [H.out, show m = us.length from HL.out.symm]; rfl, hb⟩

/-- Does a byte make a text other than plain? -/
def oddB (c : UInt8) : Bool := c.toNat == 0 || decide (128 ≤ c.toNat)
/-- The first place at which p holds, or -1. -/
def firstAt (p : UInt8 → Bool) (bs : List UInt8) : Int := match bs.findIdx? p with | some i => i | none => -1
theorem firstAt_here {p : UInt8 → Bool} {bs : List UInt8} {k : Nat} (h : k < bs.length) (hp : p bs[k] = true) (hn : ∀ j (h : j < k) (h' : j < bs.length), p bs[j] = false) : firstAt p bs = k := by
  unfold firstAt
  rw [List.findIdx?_eq_some_iff_getElem.2 ⟨h, hp, fun j hj => by have := hn j hj (by omega); simp [this]⟩]
theorem firstAt_none {p : UInt8 → Bool} {bs : List UInt8} (hn : ∀ j (h' : j < bs.length), p bs[j] = false) : firstAt p bs = -1 := by
  unfold firstAt
  rw [List.findIdx?_eq_none_iff.2 (fun x hx => by obtain ⟨j, hj, rfl⟩ := List.mem_iff_getElem.1 hx; exact hn j hj)]

theorem firstAt_pos (p : UInt8 → Bool) (bs : List UInt8) : decide (0 ≤ firstAt p bs) = bs.any p := by
  unfold firstAt
  cases h : bs.findIdx? p with
  | none =>
    rw [List.findIdx?_eq_none_iff] at h
    have : bs.any p = false := by rw [List.any_eq_false]; intro x hx; simp [h x hx]
    rw [this]; rfl
  | some i =>
    obtain ⟨hi, hp, _⟩ := List.findIdx?_eq_some_iff_getElem.1 h
    have : bs.any p = true := List.any_eq_true.2 ⟨_, List.getElem_mem hi, hp⟩
    rw [this]; simp
end Go.Proofs.Ytlfoedagcagpgaa
