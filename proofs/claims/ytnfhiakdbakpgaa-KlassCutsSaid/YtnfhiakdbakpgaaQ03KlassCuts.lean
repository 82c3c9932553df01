/- utf: Decode, Len, Plain, and the reference's. No condition. -/
import Derived.Test.YtnfhiakdbakpgaaQ02KlassCuts
import Derived.Test.YtnfhiakdbakpgaaQ00KlassCuts
import Derived.Lib.ConvBytes
import Derived.OrdersHeld
namespace Go.Proofs.Ytnfhiakdbakpgaa
open Go.ChangeShapes Go.WideShapes Go.ChangeAt Go.RowKit
attribute [local go_sem ↓] Go.wp_at_zero Go.wp_at_succ

/-- What Decode returns. -/
def DecRet (w : World) (r : Option (List UInt16)) (e : Ending) (w' : World) : Prop :=
  match r with
  | none => e = .returned (.tuple #[.slice none 0 0, .int .i64 8]) ∧ Below w.heap.size w w'
  | some us => ∃ v n, e = .returned (.tuple #[v, .int .i64 0]) ∧ w'.ownsRow w.heap.size 39 1 v n (us.map encU) ∧ Below w.heap.size w w'

/-- At the head of Decode's loop. -/
def DecRel (w : World) (n : Nat) (bs : List UInt8) (s t : Value) (wr : World) : Prop :=
  ∃ (a' : Option Addr) (m c f k : Nat) (rest : List UInt8) (us : List UInt16), s = .slice a' m c ∧ m ≤ f ∧ f ≤ n ∧ m ≤ c ∧ k + m ≤ n ∧ Hid (Sl encB w a' m rest) ∧ Hid (wr.ownsRow w.heap.size 39 1 t k (us.map encU)) ∧ Hid (Below w.heap.size w wr) ∧
      Hid (decodeB bs = (decodeF f rest).map (us ++ ·))
def lenOfV : Value → Nat | .slice _ m _ => m | _ => 0

set_option maxRecDepth 100000 in
set_option maxHeartbeats 2000000 in
theorem Decode_any (w : World) (a : Option Addr) (n cap : Nat) (bs : List UInt8) (hs : Sl encB w a n bs) (hn : n ≤ 65536) (hcap : n ≤ cap) :
    Calls Try.prog 88 #[.slice a n cap] w (DecRet w (decodeB bs)) := by
  have HS := Lib.hid hs
  have hnl := hs.1
  have HC := Lib.hid hcap
  clear hs hcap
  go_enter Try.func88, Try.ntmps88
  go_wp2
  go_loopw [0, 4] (fun s t wr => DecRel w n bs s t wr) (fun s _ _ => lenOfV s)
  case atStart => exact ⟨a, n, cap, n, 0, bs, [], rfl, Nat.le_refl _, Nat.le_refl _, HC.out, by omega, HS, World.ownsRow_nil _ _ _ _, Below.refl _ _, by show _ = _; unfold decodeB; rw [hnl]; simp⟩
  case round =>
    obtain ⟨a', m, c, f, k, rest, us, rfl, hmf, hfn, hmc, hkm, HR, HO, HW, HD⟩ := hrel
    by_cases hlt : 0 < m
    · have hne : rest ≠ [] := by intro h; have := HR.out.1; rw [h] at this; simp at this; omega
      have hle := takeN_le hne
      rw [HR.out.1] at hle
      go_wp2_with fail
      refine (take_any _ _ _ _ rest (HR.out.below HW.out) (by omega) hlt).mono ?_
      obtain ⟨u, hu⟩ : ∃ u, u = (takeN rest).1 := ⟨_, rfl⟩
      obtain ⟨q, hq⟩ : ∃ q, q = (takeN rest).2 := ⟨_, rfl⟩
      rw [← hu, ← hq] at hle
      obtain ⟨hq1, hu1⟩ := hle
      unfold TakeRet
      rw [← hu, ← hq]
      have HU := Lib.hid hu
      have HQ := Lib.hid hq
      clear hu hq
      rintro e w1 ⟨rfl, rfl⟩
      obtain ⟨f, rfl⟩ : ∃ f', f = f' + 1 := ⟨f - 1, by omega⟩
      have hstep := decodeF_step (f := f) (bs := rest) (by rw [HR.out.1]; omega) hne
      rw [← HU.out, ← HQ.out] at hstep
      have HT := Lib.hid hstep
      clear hstep hne
      by_cases hq0 : q = 0
      · have hN : decodeB bs = none := by rw [HD.out, HT.out, if_pos hq0]; rfl
        have HN := Lib.hid hN
        clear hN
        subst hq0
        go_wp2
        go_ret2
        rw [HN.out]
        exact ⟨rfl, HW.out⟩
      · have hq2 : ((q : Int) == 0) = false := by simp; omega
        have hqp : 0 < q := by omega
        have HD2 := Lib.hid (show decodeB bs = (decodeF f (rest.drop q)).map ((us ++ [UInt16.ofNat u]) ++ ·) by
          rw [HD.out, HT.out, if_neg hq0]
          cases decodeF f (rest.drop q) <;> simp)
        have HE := Lib.hid (show (Value.int .u16 (u : Int)) = encU (UInt16.ofNat u) by unfold encU; rw [UInt16.toNat_ofNat_of_lt' hu1])
        have g1 : (0 : Int) ≤ (q : Int) := by omega
        have g2 : (q : Int) ≤ (m : Int) := by omega
        have g3 : (m : Int) ≤ (c : Int) := by omega
        obtain ⟨b, off, rfl, _⟩ := HR.out.drop (j := 0) hlt
        by_cases hqc : c = q
        · obtain rfl : q = m := by omega
          subst hqc
          clear hq0
          go_wp2_with fail
          go_region_law ((refine step_app_lit oneU (by rfl) _ _ (by rfl) w.heap.size _ _ _ (by rfl) HO.out.drew _ 1 _ (by rfl) (by rfl) (by rfl) (by omega) (by unfold maxLen; omega) HW.out.size ?_; intro v1 w1 hown1 hg1 hb1))
          have HO1 := Lib.hid hown1
          have HB1 := Lib.hid (HW.out.trans (((Below.refl _ _).drew).trans hb1))
          clear hown1 hg1 hb1
          go_wp2_with fail
          have hrel : DecRel w n bs (.slice (some ⟨b, off, none⟩) 0 0) v1 w1 :=
            ⟨_, 0, 0, f, k + 1, _, us ++ [UInt16.ofNat u], rfl, by omega, by omega, by omega, by omega, by
              have hl := HR.out.1
              show Sl _ _ _ _ _
              rw [List.drop_of_length_le (by omega)]
              exact Sl.nil _ _, by rw [List.map_append]; show World.ownsRow _ _ _ _ _ _ (_ ++ [_]); rw [← HE.out]; exact HO1.out, HB1, HD2⟩
          exact ⟨⟨_, _, _, _, hrel, rfl, rfl, rfl, rfl⟩, by simp only [lenOfV]; omega⟩
        · clear hq0
          go_wp2_with fail
          go_region_law ((refine step_app_lit oneU (by rfl) _ _ (by rfl) w.heap.size _ _ _ (by rfl) HO.out.drew _ 1 _ (by rfl) (by rfl) (by rfl) (by omega) (by unfold maxLen; omega) HW.out.size ?_; intro v1 w1 hown1 hg1 hb1))
          have HO1 := Lib.hid hown1
          have HB1 := Lib.hid (HW.out.trans (((Below.refl _ _).drew).trans hb1))
          clear hown1 hg1 hb1
          go_wp2_with fail
          have hSl : Sl encB w (some ⟨b, off + q, none⟩) (m - q) (rest.drop q) := by
            by_cases hqm : q < m
            · obtain ⟨b', off', he, hSl⟩ := HR.out.drop hqm
              simp only [Option.some.injEq, Addr.mk.injEq, and_true] at he
              rw [he.1, he.2]; exact hSl
            · have hl := HR.out.1
              rw [List.drop_of_length_le (by omega), show m - q = 0 by omega]
              exact Sl.nil _ _
          have hrel : DecRel w n bs (.slice (some ⟨b, off + q, none⟩) (m - q) (c - q)) v1 w1 :=
            ⟨_, m - q, c - q, f, k + 1, _, us ++ [UInt16.ofNat u], rfl, by omega, by omega, by omega, by omega, hSl,
              by rw [List.map_append]; show World.ownsRow _ _ _ _ _ _ (_ ++ [_]); rw [← HE.out]; exact HO1.out, HB1, HD2⟩
          exact ⟨⟨_, _, _, _, hrel, rfl, rfl, rfl, rfl⟩, by simp only [lenOfV]; omega⟩
    · have hN : decodeB bs = some us := by
        have : rest = [] := List.eq_nil_of_length_eq_zero (by rw [HR.out.1]; omega)
        rw [HD.out, this]; simp [decodeF]
      have HN := Lib.hid hN
      clear hN
      go_wp2
      go_ret2
      rw [HN.out]
      exact ⟨_, k, rfl, HO.out, HW.out⟩

/-- What Len returns. -/
def lenOf (r : Option (List UInt16)) : Int × Int := match r with | none => (0, 8) | some us => (us.length, 0)
set_option maxRecDepth 100000 in
set_option maxHeartbeats 2000000 in
theorem Len_any (w : World) (a : Option Addr) (n cap : Nat) (bs : List UInt8) (hs : Sl encB w a n bs) (hn : n ≤ 65536) (hcap : n ≤ cap) :
    Calls Try.prog 79 #[.slice a n cap] w fun e w' => e = .returned (.tuple #[.int .i64 (lenOf (decodeB bs)).1, .int .i64 (lenOf (decodeB bs)).2]) ∧ Below w.heap.size w w' := by
  have HD := Lib.hid (Decode_any w a n cap bs hs hn hcap)
  clear hs hcap
  go_enter Try.func79, Try.ntmps79
  go_wp2_with fail
  refine HD.out.mono ?_
  intro e w1 hr
  clear HD
  cases hd : decodeB bs with
  | none =>
    rw [hd] at hr
    obtain ⟨rfl, hb⟩ := hr
    have H := Lib.hid hd
    clear hd
    go_wp2
    go_ret2
    exact ⟨by rw [H.out]; rfl, hb⟩
  | some us =>
    rw [hd] at hr
    obtain ⟨v, m, rfl, hown, hb⟩ := hr
    obtain ⟨a1, cap1, rfl, hsl, _⟩ := Sl.ofOwn hown
    have hl := hsl.1
    have H := Lib.hid hd
    have HL := Lib.hid hl
    clear hd hown hsl hl
    go_wp2
    go_ret2
    exact ⟨by rw [H.out, show m = us.length from HL.out.symm]; rfl, hb⟩

/-- Does a byte make a text other than plain? -/
def oddB (c : UInt8) : Bool := c.toNat == 0 || decide (128 ≤ c.toNat)
/-- The first place at which p holds, or -1. -/
def firstAt (p : UInt8 → Bool) (bs : List UInt8) : Int := match bs.findIdx? p with | some i => i | none => -1
theorem firstAt_here {p : UInt8 → Bool} {bs : List UInt8} {k : Nat} (h : k < bs.length) (hp : p bs[k] = true) (hn : ∀ j (h : j < k) (h' : j < bs.length), p bs[j] = false) : firstAt p bs = k := by
  unfold firstAt
  rw [List.findIdx?_eq_some_iff_getElem.2 ⟨h, hp, fun j hj => by have := hn j hj (by omega); simp [this]⟩]
theorem firstAt_none {p : UInt8 → Bool} {bs : List UInt8} (hn : ∀ j (h' : j < bs.length), p bs[j] = false) : firstAt p bs = -1 := by
  unfold firstAt
  rw [List.findIdx?_eq_none_iff.2 (fun x hx => by obtain ⟨j, hj, rfl⟩ := List.mem_iff_getElem.1 hx; exact hn j hj)]

theorem firstAt_pos (p : UInt8 → Bool) (bs : List UInt8) : decide (0 ≤ firstAt p bs) = bs.any p := by
  unfold firstAt
  cases h : bs.findIdx? p with
  | none =>
    rw [List.findIdx?_eq_none_iff] at h
    have : bs.any p = false := by rw [List.any_eq_false]; intro x hx; simp [h x hx]
    rw [this]; rfl
  | some i =>
    obtain ⟨hi, hp, _⟩ := List.findIdx?_eq_some_iff_getElem.1 h
    have : bs.any p = true := List.any_eq_true.2 ⟨_, List.getElem_mem hi, hp⟩
    rw [this]; simp
end Go.Proofs.Ytnfhiakdbakpgaa
/- []byte(s) of any string. No condition. -/
namespace Go.Proofs.Ytnfhiakdbakpgaa
open Go.ChangeShapes Go.WideShapes Go.ChangeAt Go.RowKit
theorem conv_bytes (w : World) (bs : List UInt8) : ∃ c w1, (convert 9 29 (.string ⟨bs.toArray⟩)).run Try.prog w = .ok (.slice (some ⟨w.heap.size, 0, none⟩) bs.length c) w1 ∧
    Sl encB w1 (some ⟨w.heap.size, 0, none⟩) bs.length bs ∧ bs.length ≤ c ∧ Below w.heap.size w w1 ∧ w1.heap.size = w.heap.size + 1 := by
  have hr := Lib.run_convert_string_bytes (P := Try.prog) w 9 29 5 ⟨bs.toArray⟩ Try.underlying9 Try.underlying29 Try.underlying5
  have hsz : (⟨bs.toArray⟩ : ByteArray).size = bs.length := by simp [ByteArray.size]
  rw [hsz] at hr
  refine ⟨_, _, hr, ⟨rfl, fun _ => ⟨w.heap.size, 0, rfl, by rw [Lib.bytesWorld_size]; omega, fun i hi => ?_⟩⟩, grownCap_ge _ _ _ _, ⟨?_, ?_, ?_, by rw [Lib.bytesWorld_size]; omega, fun k hk => Lib.bytesWorld_at_old _ _ _ _ hk⟩, Lib.bytesWorld_size _ _ _⟩
  · rw [Nat.zero_add, Lib.bytesWorld_cell _ _ _ i (by rw [hsz]; exact hi)]
    simp [List.getD, hi, encB]
  · simp [Lib.bytesWorld, World.freeze, World.alloc, World.drew, -World.alloc_eq, -World.drew_eq]
  · simp [Lib.bytesWorld, World.freeze, World.alloc, World.drew, -World.alloc_eq, -World.drew_eq]
  · simp [Lib.bytesWorld, World.freeze, World.alloc, World.drew, -World.alloc_eq, -World.drew_eq]
end Go.Proofs.Ytnfhiakdbakpgaa
/- pool: leads (printed by gen/pool2.py). No condition. -/
namespace Go.Proofs.Ytnfhiakdbakpgaa
open Go.ChangeShapes Go.WideShapes Go.ChangeAt Go.RowKit
def BoolRet (r : Bool) (w : World) (e : Ending) (w' : World) : Prop := e = .returned (.bool r) ∧ Below w.heap.size w w'
theorem below_1 (w : World) (A : Obj) : Below w.heap.size w (w.alloc A) := (Below.refl _ _).alloc (Nat.le_refl _) _
set_option maxRecDepth 100000 in
set_option maxHeartbeats 4000000 in
theorem lead_0 (w : World) (a : Option Addr) (n cap : Nat) (L : List KV) (i : Nat) (hs : Ks w a n L) (hn : n ≤ 65536) (hi : i < n) (ht : (kAt L i).tag = 0) : Calls Try.prog 60 #[.slice a n cap, .int .i64 i] w (BoolRet (leadOk L i) w) := by
  obtain ⟨b, off, rfl, hbl, hk⟩ := hs.at i hi
  obtain ⟨q0, q1, q2, q3, q4⟩ := hk
  rw [ht] at q0
  by_cases h0 : i = 0
  · subst h0
    have ht' : (kAt L 0).tag = 0 := ht
    rw [show leadOk L 0 = true from by unfold leadOk; simp [ht']]
    simp only [Nat.zero_mul, Nat.add_zero] at q0 q1 q2 q3 q4
    clear hs ht ht'
    go_enter Try.func60, Try.ntmps60
    go_wp2_with fail
    go_ret
    exact ⟨rfl, below_1 _ _⟩
  · obtain ⟨b', off', he, _, hk⟩ := hs.at (i - 1) (by omega)
    cases he
    have p0 := hk.c0
    have hij : ((i - 1 : Nat) : Int) = (i : Int) - 1 := by omega
    rw [show off + (i - 1) * 5 = off + (i - 1) * 5 from rfl] at p0
    have e0 : ((i : Int) == 0) = false := by simp; omega
    have i1 : (1 : Int) ≤ i := by omega
    have i2 : ((i : Int) - 1).toNat = i - 1 := by omega
    have i3 : (i : Int) - 1 < n := by omega
    rw [show leadOk L i = decide ((kAt L ((i : Int) - 1)).tag = 5) from by unfold leadOk; simp [ht, h0], ← hij]
    generalize (kAt L ((i - 1 : Nat) : Int)).tag = t1 at *
    clear hs ht hk hij h0
    generalize (kAt L i).a = ca at *
    generalize (kAt L i).b = cb at *
    generalize (kAt L i).n = cn at *
    generalize (kAt L i).s = cs at *
    by_cases h5 : t1 = 5
    · subst h5
      go_enter Try.func60, Try.ntmps60
      go_wp2_with fail
      go_ret
      exact ⟨rfl, below_1 _ _⟩
    · have e5 : (t1 == 5) = false := by simp [h5]
      rw [decide_eq_false h5]
      clear h5
      go_enter Try.func60, Try.ntmps60
      go_wp2_with fail
      go_ret
      exact ⟨rfl, below_1 _ _⟩
set_option maxRecDepth 100000 in
set_option maxHeartbeats 4000000 in
theorem lead_1 (w : World) (a : Option Addr) (n cap : Nat) (L : List KV) (i : Nat) (hs : Ks w a n L) (hn : n ≤ 65536) (hi : i < n) (ht : (kAt L i).tag = 1) (hl : (kAt L i).s.length ≤ 65536) : Calls Try.prog 60 #[.slice a n cap, .int .i64 i] w (BoolRet (leadOk L i) w) := by
  obtain ⟨b, off, rfl, hbl, hk⟩ := hs.at i hi
  obtain ⟨q0, q1, q2, q3, q4⟩ := hk
  rw [ht] at q0
  obtain ⟨r, hrr⟩ : ∃ r, r = leadOk L i := ⟨_, rfl⟩
  rw [← hrr]
  have HRR := Lib.hid (show r = ((decodeB (kAt L i).s).isSome && decide ((kAt L i).s.length ≤ 65535)) from by rw [hrr]; unfold leadOk; simp [ht])
  clear hrr
  generalize (kAt L i).a = ca at *
  generalize (kAt L i).b = cb at *
  generalize (kAt L i).n = cn at *
  generalize (kAt L i).s = cs at *
  obtain ⟨c, w1, hr, hs1, hc1, hb1, hz1⟩ := conv_bytes (w.alloc (.cells #[.int .i64 1, .int .i64 ca, .int .i64 cb, .int .i64 cn, .string ⟨cs.toArray⟩] 42)) cs
  have hz : (w.alloc (.cells #[.int .i64 1, .int .i64 ca, .int .i64 cb, .int .i64 cn, .string ⟨cs.toArray⟩] 42)).heap.size = w.heap.size + 1 := by simp
  rw [hz] at hr hs1
  clear hz
  have CL := Len_any w1 _ cs.length c cs hs1 hl hc1
  have HB1 := Lib.hid (show Below w.heap.size w w1 from (below_1 _ _).trans (hb1.mono (by simp)))
  have HK1 := Lib.hid (cellS_below hb1 (cell_of_row (w.alloc (.cells #[.int .i64 1, .int .i64 ca, .int .i64 cb, .int .i64 cn, .string ⟨cs.toArray⟩] 42)) w.heap.size 4 _ _ _ (heap_alloc_last w _)))
  have HL := Lib.hid CL
  clear CL hs hs1 hc1 hb1 ht hz1
  go_enter Try.func60, Try.ntmps60
  go_wp2_with fail
  refine HL.out.mono ?_
  rintro e w2 ⟨rfl, hb2⟩
  have HB2 := Lib.hid (HB1.out.trans (hb2.mono HB1.out.size))
  have c4 : w2.cell? ⟨w.heap.size, 4, none⟩ = some (.string ⟨cs.toArray⟩) := cellS_below hb2 HK1.out
  clear hb2 hr
  cases hd : decodeB cs with
  | none =>
    rw [hd] at HRR
    simp only [lenOf]
    clear hd
    go_wp2_with fail
    go_ret
    exact ⟨by rw [HRR.out]; rfl, HB2.out⟩
  | some us =>
    rw [hd] at HRR
    simp only [lenOf]
    clear hd
    by_cases h6 : cs.length ≤ 65535
    · have h7 : decide ((cs.length : Int) ≤ 65535) = true := by simp; omega
      have H6 := Lib.hid (show r = true by rw [HRR.out, decide_eq_true h6]; rfl)
      go_wp2_with fail
      go_ret
      exact ⟨by rw [H6.out]; rfl, HB2.out⟩
    · have h7 : decide ((cs.length : Int) ≤ 65535) = false := by simp; omega
      have H6 := Lib.hid (show r = false by rw [HRR.out, decide_eq_false h6]; rfl)
      go_wp2_with fail
      go_ret
      exact ⟨by rw [H6.out]; rfl, HB2.out⟩
set_option maxRecDepth 100000 in
set_option maxHeartbeats 4000000 in
theorem lead_3 (w : World) (a : Option Addr) (n cap : Nat) (L : List KV) (i : Nat) (hs : Ks w a n L) (hn : n ≤ 65536) (hi : i < n) (ht : (kAt L i).tag = 3) : Calls Try.prog 60 #[.slice a n cap, .int .i64 i] w (BoolRet (leadOk L i) w) := by
  obtain ⟨b, off, rfl, hbl, hk⟩ := hs.at i hi
  obtain ⟨q0, q1, q2, q3, q4⟩ := hk
  rw [ht] at q0
  rw [show leadOk L i = true from by unfold leadOk; simp [ht]]
  clear hs ht
  generalize (kAt L i).a = ca at *
  generalize (kAt L i).b = cb at *
  generalize (kAt L i).n = cn at *
  generalize (kAt L i).s = cs at *
  go_enter Try.func60, Try.ntmps60
  go_wp2_with fail
  go_ret
  exact ⟨rfl, below_1 _ _⟩
set_option maxRecDepth 100000 in
set_option maxHeartbeats 4000000 in
theorem lead_5 (w : World) (a : Option Addr) (n cap : Nat) (L : List KV) (i : Nat) (hs : Ks w a n L) (hn : n ≤ 65536) (hi : i < n) (ht : (kAt L i).tag = 5) : Calls Try.prog 60 #[.slice a n cap, .int .i64 i] w (BoolRet (leadOk L i) w) := by
  obtain ⟨b, off, rfl, hbl, hk⟩ := hs.at i hi
  obtain ⟨q0, q1, q2, q3, q4⟩ := hk
  rw [ht] at q0
  rw [show leadOk L i = (decide (i + 1 < n) && decide ((kAt L ((i : Int) + 1)).tag = 0)) from by unfold leadOk; simp [ht, hs.1]]
  by_cases h1 : i + 1 < n
  · obtain ⟨b', off', he, _, hk⟩ := hs.at (i + 1) h1
    cases he
    have p0 := hk.c0
    have hij : ((i + 1 : Nat) : Int) = (i : Int) + 1 := by omega
    rw [← hij, decide_eq_true h1, Bool.true_and]
    have e1 : decide ((i : Int) + 1 < n) = true := by simp; omega
    have i3 : (i : Int) + 1 < n := by omega
    generalize (kAt L ((i + 1 : Nat) : Int)).tag = t1 at *
    clear hs ht hk hij
    generalize (kAt L i).a = ca at *
    generalize (kAt L i).b = cb at *
    generalize (kAt L i).n = cn at *
    generalize (kAt L i).s = cs at *
    by_cases h5 : t1 = 0
    · subst h5
      go_enter Try.func60, Try.ntmps60
      go_wp2_with fail
      go_ret
      exact ⟨rfl, below_1 _ _⟩
    · have e5 : (t1 == 0) = false := by simp [h5]
      rw [decide_eq_false h5]
      clear h5
      go_enter Try.func60, Try.ntmps60
      go_wp2_with fail
      go_ret
      exact ⟨rfl, below_1 _ _⟩
  · rw [decide_eq_false h1, Bool.false_and]
    have e1 : decide ((i : Int) + 1 < n) = false := by simp; omega
    clear hs ht
    generalize (kAt L i).a = ca at *
    generalize (kAt L i).b = cb at *
    generalize (kAt L i).n = cn at *
    generalize (kAt L i).s = cs at *
    go_enter Try.func60, Try.ntmps60
    go_wp2_with fail
    go_ret
    exact ⟨rfl, below_1 _ _⟩
set_option maxRecDepth 100000 in
set_option maxHeartbeats 4000000 in
theorem lead_12 (w : World) (a : Option Addr) (n cap : Nat) (L : List KV) (i : Nat) (hs : Ks w a n L) (hn : n ≤ 65536) (hi : i < n) (ht : (kAt L i).tag = 12) : Calls Try.prog 60 #[.slice a n cap, .int .i64 i] w (BoolRet (leadOk L i) w) := by
  obtain ⟨b, off, rfl, hbl, hk⟩ := hs.at i hi
  obtain ⟨q0, q1, q2, q3, q4⟩ := hk
  rw [ht] at q0
  rw [show leadOk L i = (isT L (kAt L i).a 1 && isT L (kAt L i).b 1) from by unfold leadOk; simp [ht]]
  have C1 := Lib.hid (is_any (w.alloc (.cells #[.int .i64 12, .int .i64 (kAt L i).a, .int .i64 (kAt L i).b, .int .i64 (kAt L i).n, .string ⟨(kAt L i).s.toArray⟩] 42)) _ n cap L (kAt L i).a 1 (hs.below (below_1 _ _)) hn)
  have C2 := Lib.hid (is_any (w.alloc (.cells #[.int .i64 12, .int .i64 (kAt L i).a, .int .i64 (kAt L i).b, .int .i64 (kAt L i).n, .string ⟨(kAt L i).s.toArray⟩] 42)) _ n cap L (kAt L i).b 1 (hs.below (below_1 _ _)) hn)
  generalize isT L (kAt L i).a 1 = r1 at *
  generalize isT L (kAt L i).b 1 = r2 at *
  clear hs ht
  generalize (kAt L i).a = ca at *
  generalize (kAt L i).b = cb at *
  generalize (kAt L i).n = cn at *
  generalize (kAt L i).s = cs at *
  cases r1
  · go_enter Try.func60, Try.ntmps60
    go_wp2_with fail
    refine C1.out.mono ?_
    rintro e w' ⟨rfl, rfl⟩
    go_wp2_with fail
    go_ret
    exact ⟨rfl, below_1 _ _⟩
  · go_enter Try.func60, Try.ntmps60
    go_wp2_with fail
    refine C1.out.mono ?_
    rintro e w' ⟨rfl, rfl⟩
    go_wp2_with fail
    refine C2.out.mono ?_
    rintro e w' ⟨rfl, rfl⟩
    go_wp2_with fail
    go_ret
    exact ⟨rfl, below_1 _ _⟩
set_option maxRecDepth 100000 in
set_option maxHeartbeats 4000000 in
theorem lead_7 (w : World) (a : Option Addr) (n cap : Nat) (L : List KV) (i : Nat) (hs : Ks w a n L) (hn : n ≤ 65536) (hi : i < n) (ht : (kAt L i).tag = 7) : Calls Try.prog 60 #[.slice a n cap, .int .i64 i] w (BoolRet (leadOk L i) w) := by
  obtain ⟨b, off, rfl, hbl, hk⟩ := hs.at i hi
  obtain ⟨q0, q1, q2, q3, q4⟩ := hk
  rw [ht] at q0
  rw [show leadOk L i = isT L (kAt L i).a 1 from by unfold leadOk; simp [ht]]
  have C1 := Lib.hid (is_any (w.alloc (.cells #[.int .i64 7, .int .i64 (kAt L i).a, .int .i64 (kAt L i).b, .int .i64 (kAt L i).n, .string ⟨(kAt L i).s.toArray⟩] 42)) _ n cap L (kAt L i).a 1 (hs.below (below_1 _ _)) hn)
  generalize isT L (kAt L i).a 1 = r1 at *
  clear hs ht
  generalize (kAt L i).a = ca at *
  generalize (kAt L i).b = cb at *
  generalize (kAt L i).n = cn at *
  generalize (kAt L i).s = cs at *
  go_enter Try.func60, Try.ntmps60
  go_wp2_with fail
  refine C1.out.mono ?_
  rintro e w' ⟨rfl, rfl⟩
  go_wp2_with fail
  go_ret
  exact ⟨rfl, below_1 _ _⟩
set_option maxRecDepth 100000 in
set_option maxHeartbeats 4000000 in
theorem lead_8 (w : World) (a : Option Addr) (n cap : Nat) (L : List KV) (i : Nat) (hs : Ks w a n L) (hn : n ≤ 65536) (hi : i < n) (ht : (kAt L i).tag = 8) : Calls Try.prog 60 #[.slice a n cap, .int .i64 i] w (BoolRet (leadOk L i) w) := by
  obtain ⟨b, off, rfl, hbl, hk⟩ := hs.at i hi
  obtain ⟨q0, q1, q2, q3, q4⟩ := hk
  rw [ht] at q0
  rw [show leadOk L i = isT L (kAt L i).a 1 from by unfold leadOk; simp [ht]]
  have C1 := Lib.hid (is_any (w.alloc (.cells #[.int .i64 8, .int .i64 (kAt L i).a, .int .i64 (kAt L i).b, .int .i64 (kAt L i).n, .string ⟨(kAt L i).s.toArray⟩] 42)) _ n cap L (kAt L i).a 1 (hs.below (below_1 _ _)) hn)
  generalize isT L (kAt L i).a 1 = r1 at *
  clear hs ht
  generalize (kAt L i).a = ca at *
  generalize (kAt L i).b = cb at *
  generalize (kAt L i).n = cn at *
  generalize (kAt L i).s = cs at *
  go_enter Try.func60, Try.ntmps60
  go_wp2_with fail
  refine C1.out.mono ?_
  rintro e w' ⟨rfl, rfl⟩
  go_wp2_with fail
  go_ret
  exact ⟨rfl, below_1 _ _⟩
set_option maxRecDepth 100000 in
set_option maxHeartbeats 4000000 in
theorem lead_9 (w : World) (a : Option Addr) (n cap : Nat) (L : List KV) (i : Nat) (hs : Ks w a n L) (hn : n ≤ 65536) (hi : i < n) (ht : (kAt L i).tag = 9) : Calls Try.prog 60 #[.slice a n cap, .int .i64 i] w (BoolRet (leadOk L i) w) := by
  obtain ⟨b, off, rfl, hbl, hk⟩ := hs.at i hi
  obtain ⟨q0, q1, q2, q3, q4⟩ := hk
  rw [ht] at q0
  rw [show leadOk L i = (isT L (kAt L i).a 7 && isT L (kAt L i).b 12) from by unfold leadOk; simp [ht]]
  have C1 := Lib.hid (is_any (w.alloc (.cells #[.int .i64 9, .int .i64 (kAt L i).a, .int .i64 (kAt L i).b, .int .i64 (kAt L i).n, .string ⟨(kAt L i).s.toArray⟩] 42)) _ n cap L (kAt L i).a 7 (hs.below (below_1 _ _)) hn)
  have C2 := Lib.hid (is_any (w.alloc (.cells #[.int .i64 9, .int .i64 (kAt L i).a, .int .i64 (kAt L i).b, .int .i64 (kAt L i).n, .string ⟨(kAt L i).s.toArray⟩] 42)) _ n cap L (kAt L i).b 12 (hs.below (below_1 _ _)) hn)
  generalize isT L (kAt L i).a 7 = r1 at *
  generalize isT L (kAt L i).b 12 = r2 at *
  clear hs ht
  generalize (kAt L i).a = ca at *
  generalize (kAt L i).b = cb at *
  generalize (kAt L i).n = cn at *
  generalize (kAt L i).s = cs at *
  cases r1
  · go_enter Try.func60, Try.ntmps60
    go_wp2_with fail
    refine C1.out.mono ?_
    rintro e w' ⟨rfl, rfl⟩
    go_wp2_with fail
    go_ret
    exact ⟨rfl, below_1 _ _⟩
  · go_enter Try.func60, Try.ntmps60
    go_wp2_with fail
    refine C1.out.mono ?_
    rintro e w' ⟨rfl, rfl⟩
    go_wp2_with fail
    refine C2.out.mono ?_
    rintro e w' ⟨rfl, rfl⟩
    go_wp2_with fail
    go_ret
    exact ⟨rfl, below_1 _ _⟩
set_option maxRecDepth 100000 in
set_option maxHeartbeats 4000000 in
theorem lead_10 (w : World) (a : Option Addr) (n cap : Nat) (L : List KV) (i : Nat) (hs : Ks w a n L) (hn : n ≤ 65536) (hi : i < n) (ht : (kAt L i).tag = 10) : Calls Try.prog 60 #[.slice a n cap, .int .i64 i] w (BoolRet (leadOk L i) w) := by
  obtain ⟨b, off, rfl, hbl, hk⟩ := hs.at i hi
  obtain ⟨q0, q1, q2, q3, q4⟩ := hk
  rw [ht] at q0
  rw [show leadOk L i = (isT L (kAt L i).a 7 && isT L (kAt L i).b 12) from by unfold leadOk; simp [ht]]
  have C1 := Lib.hid (is_any (w.alloc (.cells #[.int .i64 10, .int .i64 (kAt L i).a, .int .i64 (kAt L i).b, .int .i64 (kAt L i).n, .string ⟨(kAt L i).s.toArray⟩] 42)) _ n cap L (kAt L i).a 7 (hs.below (below_1 _ _)) hn)
  have C2 := Lib.hid (is_any (w.alloc (.cells #[.int .i64 10, .int .i64 (kAt L i).a, .int .i64 (kAt L i).b, .int .i64 (kAt L i).n, .string ⟨(kAt L i).s.toArray⟩] 42)) _ n cap L (kAt L i).b 12 (hs.below (below_1 _ _)) hn)
  generalize isT L (kAt L i).a 7 = r1 at *
  generalize isT L (kAt L i).b 12 = r2 at *
  clear hs ht
  generalize (kAt L i).a = ca at *
  generalize (kAt L i).b = cb at *
  generalize (kAt L i).n = cn at *
  generalize (kAt L i).s = cs at *
  cases r1
  · go_enter Try.func60, Try.ntmps60
    go_wp2_with fail
    refine C1.out.mono ?_
    rintro e w' ⟨rfl, rfl⟩
    go_wp2_with fail
    go_ret
    exact ⟨rfl, below_1 _ _⟩
  · go_enter Try.func60, Try.ntmps60
    go_wp2_with fail
    refine C1.out.mono ?_
    rintro e w' ⟨rfl, rfl⟩
    go_wp2_with fail
    refine C2.out.mono ?_
    rintro e w' ⟨rfl, rfl⟩
    go_wp2_with fail
    go_ret
    exact ⟨rfl, below_1 _ _⟩
set_option maxRecDepth 100000 in
set_option maxHeartbeats 4000000 in
theorem lead_else (w : World) (a : Option Addr) (n cap : Nat) (L : List KV) (i : Nat) (hs : Ks w a n L) (hn : n ≤ 65536) (hi : i < n) (h0 : (kAt L i).tag ≠ 0) (h1 : (kAt L i).tag ≠ 1) (h3 : (kAt L i).tag ≠ 3) (h5 : (kAt L i).tag ≠ 5) (h12 : (kAt L i).tag ≠ 12) (h7 : (kAt L i).tag ≠ 7) (h8 : (kAt L i).tag ≠ 8) (h9 : (kAt L i).tag ≠ 9) (h10 : (kAt L i).tag ≠ 10) : Calls Try.prog 60 #[.slice a n cap, .int .i64 i] w (BoolRet (leadOk L i) w) := by
  obtain ⟨b, off, rfl, hbl, hk⟩ := hs.at i hi
  obtain ⟨q0, q1, q2, q3, q4⟩ := hk
  rw [show leadOk L i = false from by unfold leadOk; simp [h0, h1, h3, h5, h12, h7, h8, h9, h10]]
  clear hs
  generalize (kAt L i).tag = t at *
  generalize (kAt L i).a = ca at *
  generalize (kAt L i).b = cb at *
  generalize (kAt L i).n = cn at *
  generalize (kAt L i).s = cs at *
  have e0 : (t == 0) = false := by simp [h0]
  have e1 : (t == 1) = false := by simp [h1]
  have e3 : (t == 3) = false := by simp [h3]
  have e5 : (t == 5) = false := by simp [h5]
  have e12 : (t == 12) = false := by simp [h12]
  have e7 : (t == 7) = false := by simp [h7]
  have e8 : (t == 8) = false := by simp [h8]
  have e9 : (t == 9) = false := by simp [h9]
  have e10 : (t == 10) = false := by simp [h10]
  clear h0 h1 h3 h5 h12 h7 h8 h9 h10
  go_enter Try.func60, Try.ntmps60
  go_wp2_with fail
  go_ret
  exact ⟨rfl, below_1 _ _⟩
theorem leads_any (w : World) (a : Option Addr) (n cap : Nat) (L : List KV) (i : Nat) (hs : Ks w a n L) (hn : n ≤ 65536) (hi : i < n) (hl : (kAt L i).s.length ≤ 65536) : Calls Try.prog 60 #[.slice a n cap, .int .i64 i] w (BoolRet (leadOk L i) w) := by
  by_cases h0 : (kAt L i).tag = 0
  · exact lead_0 w a n cap L i hs hn hi h0
  by_cases h1 : (kAt L i).tag = 1
  · exact lead_1 w a n cap L i hs hn hi h1 hl
  by_cases h3 : (kAt L i).tag = 3
  · exact lead_3 w a n cap L i hs hn hi h3
  by_cases h5 : (kAt L i).tag = 5
  · exact lead_5 w a n cap L i hs hn hi h5
  by_cases h12 : (kAt L i).tag = 12
  · exact lead_12 w a n cap L i hs hn hi h12
  by_cases h7 : (kAt L i).tag = 7
  · exact lead_7 w a n cap L i hs hn hi h7
  by_cases h8 : (kAt L i).tag = 8
  · exact lead_8 w a n cap L i hs hn hi h8
  by_cases h9 : (kAt L i).tag = 9
  · exact lead_9 w a n cap L i hs hn hi h9
  by_cases h10 : (kAt L i).tag = 10
  · exact lead_10 w a n cap L i hs hn hi h10
  exact lead_else w a n cap L i hs hn hi h0 h1 h3 h5 h12 h7 h8 h9 h10
end Go.Proofs.Ytnfhiakdbakpgaa
/- A region that draws its order, walked once: in an order of the prover's choosing; what only reads comes as early as it may, what makes memory comes up alone. Over any program. -/
namespace Go.Proofs.Ytnfhiakdbakpgaa
open Go.RowKit

/-- One operation: 'b' true: it yields one value in every world that meets S. 'b' false: it comes up alone. -/
def lexOp (P : Program) (ops : Array Oper) (Q : Exit → Act → World → Prop) (S : World → Prop) (i : Nat) (b : Bool) (K : Act → World → Prop) (a : Act) (w : World) : Prop :=
  match ops[i]? with
  | none => False
  | some o =>
    if Region.wanted o (yielded ops a.tmps) = true then
      (match b with
        | true => ∃ v, (∀ w', S w' → (execOp a.eval o).run P w' = .ok (.value v) w') ∧ S w ∧ K (a.put o.dst v) w
        | false => o.wp P a w (fun a' w' => S w' ∧ K a' w') Q)
    else S w ∧ K (a.put o.dst undef) w
def wpLex (P : Program) (ops : Array Oper) (Q : Exit → Act → World → Prop) (S : World → Prop) : List (Nat × Bool) → Act → World → Prop
  | [], a, w => Q .normal a w
  | (i, b) :: l, a, w => lexOp P ops Q S i b (wpLex P ops Q S l) a w
/-- May the operations come up in this order, and is that all that is to be looked at? -/
def checkLex (ops : Array Oper) : Array Bool → List (Nat × Bool) → Bool
  | listed, [] => (Region.ready .any ops listed).isEmpty
  | listed, (i, b) :: l => (if b then Region.free .any ops listed i && (Region.ready .any ops listed).contains i else Region.ready .any ops listed == [i]) && checkLex ops (listed.setIfInBounds i true) l

theorem lex_sound {P : Program} {ops : Array Oper} {Q : Exit → Act → World → Prop} {S : World → Prop} (hs : Region.noSelect ops = true) (hQ : ∀ c a d v w, Q (.panic c) (a.put d v) w → Q (.panic c) a w) :
    ∀ (l : List (Nat × Bool)) (listed : Array Bool) (a : Act) (w : World), checkLex ops listed l = true → wpLex P ops Q S l a w → wpAnyH P .any ops Q S l.length listed a w := by
  intro l
  induction l with
  | nil =>
    intro listed a w hc h
    exact ⟨by simpa [checkLex] using hc, h⟩
  | cons p l ih =>
    obtain ⟨i, b⟩ := p
    intro listed a w hc h
    simp only [checkLex, Bool.and_eq_true] at hc
    obtain ⟨hc1, hc2⟩ := hc
    change lexOp P ops Q S i b (wpLex P ops Q S l) a w at h
    unfold lexOp at h
    cases ho : ops[i]? with
    | none => rw [ho] at h; exact h.elim
    | some o =>
      rw [ho] at h
      simp only at h
      cases b with
      | true =>
        simp only [if_true, Bool.and_eq_true] at hc1
        obtain ⟨hf, hr⟩ := hc1
        by_cases hw : Region.wanted o (yielded ops a.tmps) = true
        · rw [if_pos hw] at h
          obtain ⟨v, h1, h2, h3⟩ := h
          exact wpAnyH_take ho hs hf hr (fun c a w => hQ c a _ _ w) (.inl ⟨hw, h1⟩) h2 (ih _ _ _ hc2 h3)
        · rw [if_neg hw] at h
          exact wpAnyH_take ho hs hf hr (fun c a w => hQ c a _ _ w) (.inr ⟨by simpa using hw, rfl⟩) h.1 (ih _ _ _ hc2 h.2)
      | false =>
        simp only [Bool.false_eq_true, if_false] at hc1
        have hr : Region.ready .any ops listed = [i] := by simpa using hc1
        refine wpAnyH_all hr (by simp) (fun j hj => ?_)
        obtain rfl : j = i := by simpa using hj
        unfold wpOp
        rw [ho]
        simp only
        by_cases hw : Region.wanted o (yielded ops a.tmps) = true
        · rw [if_pos hw] at h
          simp only [hw, if_true]
          exact .inl (Oper.wp_mono (fun a' w' h' => ⟨h'.1, ih _ _ _ hc2 h'.2⟩) h)
        · rw [if_neg hw] at h
          simp only [hw]
          exact ⟨h.1, ih _ _ _ hc2 h.2⟩
theorem wp_region_lex {P : Program} {id : Nat} {ops : Array Oper} {Q : Exit → Act → World → Prop} {a : Act} {w : World} (S : World → Prop) (l : List (Nat × Bool)) (hm : P.follows .mixedOrders = true)
    (hc : (Region.noSelect ops && (l.length == ops.size) && checkLex ops (Array.replicate ops.size false) l) = true) (hQ : ∀ c a d v w, Q (.panic c) (a.put d v) w → Q (.panic c) a w)
    (h : wpLex P ops Q S l a w.drew) : (Code.region id ops true).wp P Q a w := by
  simp only [Bool.and_eq_true, beq_iff_eq] at hc
  obtain ⟨⟨hs, hl⟩, hk⟩ := hc
  have := lex_sound (P := P) (Q := Q) (S := S) hs hQ l _ a _ hk h
  rw [hl] at this
  exact wp_region_held hm this
theorem lex_step {P : Program} {ops : Array Oper} {Q : Exit → Act → World → Prop} {S : World → Prop} {i : Nat} {b : Bool} {l : List (Nat × Bool)} {a : Act} {w : World}
    (h : ∀ K : Act → World → Prop, (∀ a w, wpLex P ops Q S l a w → K a w) → lexOp P ops Q S i b K a w) : wpLex P ops Q S ((i, b) :: l) a w := h _ (fun _ _ h => h)
theorem lex_nil {P : Program} {ops : Array Oper} {Q : Exit → Act → World → Prop} {S : World → Prop} {a : Act} {w : World} (h : Q .normal a w) : wpLex P ops Q S [] a w := h
/-- The operation is looked up, its guard says yes. -/
theorem lex_take {P : Program} {ops : Array Oper} {Q : Exit → Act → World → Prop} {S : World → Prop} {i : Nat} {o : Oper} {K : Act → World → Prop} {a : Act} {w : World} (ho : ops[i]? = some o) (hw : Region.wanted o (yielded ops a.tmps) = true) (v : Value)
    (hv : ∀ w', S w' → (execOp a.eval o).run P w' = .ok (.value v) w') (hS : S w) (h : K (a.put o.dst v) w) : lexOp P ops Q S i true K a w := by
  unfold lexOp; rw [ho]; simp only []; rw [if_pos hw]; exact ⟨v, hv, hS, h⟩
theorem lex_alone {P : Program} {ops : Array Oper} {Q : Exit → Act → World → Prop} {S : World → Prop} {i : Nat} {o : Oper} {K : Act → World → Prop} {a : Act} {w : World} (ho : ops[i]? = some o) (hw : Region.wanted o (yielded ops a.tmps) = true)
    (h : o.wp P a w (fun a' w' => S w' ∧ K a' w') Q) : lexOp P ops Q S i false K a w := by
  unfold lexOp; rw [ho]; simp only []; rw [if_pos hw]; exact h
theorem lex_skip {P : Program} {ops : Array Oper} {Q : Exit → Act → World → Prop} {S : World → Prop} {i : Nat} {b : Bool} {o : Oper} {K : Act → World → Prop} {a : Act} {w : World} (ho : ops[i]? = some o) (hw : Region.wanted o (yielded ops a.tmps) = false)
    (hS : S w) (h : K (a.put o.dst undef) w) : lexOp P ops Q S i b K a w := by
  unfold lexOp; rw [ho]; simp only []; rw [if_neg (by rw [hw]; decide)]; exact ⟨hS, h⟩
end Go.Proofs.Ytnfhiakdbakpgaa
/- A region that draws its order, walked once, where what is known of the worlds grows on the way. Over any program. -/
namespace Go.Proofs.Ytnfhiakdbakpgaa
open Go.RowKit
theorem wpAnyH_mono {P : Program} {md : Region.Mode} {ops : Array Oper} {Q : Exit → Act → World → Prop} {S S' : World → Prop} (hS : ∀ x, S' x → S x) :
    ∀ (fuel : Nat) (listed : Array Bool) (a : Act) (w : World), wpAnyH P md ops Q S' fuel listed a w → wpAnyH P md ops Q S fuel listed a w
  | 0, _, _, _, h => h
  | fuel + 1, _, _, _, h => ⟨h.1, fun i hi => wpOp_mono (fun a' w' h' => ⟨hS _ h'.1, wpAnyH_mono hS fuel _ a' w' h'.2⟩) (h.2 i hi)⟩
def wpLex2 (P : Program) (ops : Array Oper) (Q : Exit → Act → World → Prop) : List (Nat × Bool) → (World → Prop) → Act → World → Prop
  | [], _, a, w => Q .normal a w
  | (i, b) :: l, S, a, w => ∃ S' : World → Prop, (∀ x, S' x → S x) ∧ lexOp P ops Q S' i b (wpLex2 P ops Q l S') a w
theorem lex2_sound {P : Program} {ops : Array Oper} {Q : Exit → Act → World → Prop} (hs : Region.noSelect ops = true) (hQ : ∀ c a d v w, Q (.panic c) (a.put d v) w → Q (.panic c) a w) :
    ∀ (l : List (Nat × Bool)) (S : World → Prop) (listed : Array Bool) (a : Act) (w : World), checkLex ops listed l = true → wpLex2 P ops Q l S a w → wpAnyH P .any ops Q S l.length listed a w := by
  intro l
  induction l with
  | nil =>
    intro S listed a w hc h
    exact ⟨by simpa [checkLex] using hc, h⟩
  | cons p l ih =>
    obtain ⟨i, b⟩ := p
    intro S listed a w hc h
    obtain ⟨S', hSS, h⟩ := h
    refine wpAnyH_mono hSS _ _ _ _ ?_
    simp only [checkLex, Bool.and_eq_true] at hc
    obtain ⟨hc1, hc2⟩ := hc
    unfold lexOp at h
    cases ho : ops[i]? with
    | none => rw [ho] at h; exact h.elim
    | some o =>
      rw [ho] at h
      simp only at h
      cases b with
      | true =>
        simp only [if_true, Bool.and_eq_true] at hc1
        obtain ⟨hf, hr⟩ := hc1
        by_cases hw : Region.wanted o (yielded ops a.tmps) = true
        · rw [if_pos hw] at h
          obtain ⟨v, h1, h2, h3⟩ := h
          exact wpAnyH_take ho hs hf hr (fun c a w => hQ c a _ _ w) (.inl ⟨hw, h1⟩) h2 (ih _ _ _ _ hc2 h3)
        · rw [if_neg hw] at h
          exact wpAnyH_take ho hs hf hr (fun c a w => hQ c a _ _ w) (.inr ⟨by simpa using hw, rfl⟩) h.1 (ih _ _ _ _ hc2 h.2)
      | false =>
        simp only [Bool.false_eq_true, if_false] at hc1
        have hr : Region.ready .any ops listed = [i] := by simpa using hc1
        refine wpAnyH_all hr (by simp) (fun j hj => ?_)
        obtain rfl : j = i := by simpa using hj
        unfold wpOp
        rw [ho]
        simp only
        by_cases hw : Region.wanted o (yielded ops a.tmps) = true
        · rw [if_pos hw] at h
          simp only [hw, if_true]
          exact .inl (Oper.wp_mono (fun a' w' h' => ⟨h'.1, ih _ _ _ _ hc2 h'.2⟩) h)
        · rw [if_neg hw] at h
          simp only [hw]
          exact ⟨h.1, ih _ _ _ _ hc2 h.2⟩
theorem wp_region_lex2 {P : Program} {id : Nat} {ops : Array Oper} {Q : Exit → Act → World → Prop} {a : Act} {w : World} (S : World → Prop) (l : List (Nat × Bool)) (hm : P.follows .mixedOrders = true)
    (hc : (Region.noSelect ops && (l.length == ops.size) && checkLex ops (Array.replicate ops.size false) l) = true) (hQ : ∀ c a d v w, Q (.panic c) (a.put d v) w → Q (.panic c) a w)
    (h : wpLex2 P ops Q l S a w.drew) : (Code.region id ops true).wp P Q a w := by
  simp only [Bool.and_eq_true, beq_iff_eq] at hc
  obtain ⟨⟨hs, hl⟩, hk⟩ := hc
  have := lex2_sound (P := P) (Q := Q) hs hQ l S _ a _ hk h
  rw [hl] at this
  exact wp_region_held hm this
theorem lex2_step {P : Program} {ops : Array Oper} {Q : Exit → Act → World → Prop} {S : World → Prop} {i : Nat} {b : Bool} {l : List (Nat × Bool)} {a : Act} {w : World}
    (h : ∀ K : Act → World → Prop, (∀ a w, wpLex2 P ops Q l S a w → K a w) → lexOp P ops Q S i b K a w) : wpLex2 P ops Q ((i, b) :: l) S a w := ⟨S, fun _ h => h, h _ (fun _ _ h => h)⟩
/-- From here on more is known of the worlds. -/
theorem lex2_strong {P : Program} {ops : Array Oper} {Q : Exit → Act → World → Prop} {S : World → Prop} {l : List (Nat × Bool)} {a : Act} {w : World} (S' : World → Prop) (hS : ∀ x, S' x → S x) (h : wpLex2 P ops Q l S' a w) : wpLex2 P ops Q l S a w := by
  cases l with
  | nil => exact h
  | cons p l =>
    obtain ⟨i, b⟩ := p
    obtain ⟨S2, h2, h3⟩ := h
    exact ⟨S2, fun x hx => hS x (h2 x hx), h3⟩
theorem lex2_nil {P : Program} {ops : Array Oper} {Q : Exit → Act → World → Prop} {S : World → Prop} {a : Act} {w : World} (h : Q .normal a w) : wpLex2 P ops Q [] S a w := h
end Go.Proofs.Ytnfhiakdbakpgaa
