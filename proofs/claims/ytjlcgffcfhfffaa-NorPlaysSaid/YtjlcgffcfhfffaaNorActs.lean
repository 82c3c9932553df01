/- nor: acts that came in; few. No condition. -/
import Derived.Test.YtjlcgffcfhfffaaNorNew2
namespace Go.Proofs.Ytjlcgffcfhfffaa
open Go.ChangeShapes Go.WideShapes Go.ChangeAt Go.RowKit Go.Joins Go.Deep
/-- Six cells that are an act. -/
structure ActAt (w : World) (b o : Nat) (kd : Nat) (p n : Int) (x : Option Addr) (m cm : Nat) (ds : List UInt8) (keep : Int) (mask : UInt8) : Prop where
  c0 : w.cell? ⟨b, o, none⟩ = some (.int .u8 kd)
  c1 : w.cell? ⟨b, o + 1, none⟩ = some (.int .i64 p)
  c2 : w.cell? ⟨b, o + 2, none⟩ = some (.int .i64 n)
  c3 : w.cell? ⟨b, o + 3, none⟩ = some (.slice x m cm)
  c4 : w.cell? ⟨b, o + 4, none⟩ = some (.int .i64 keep)
  c5 : w.cell? ⟨b, o + 5, none⟩ = some (.int .u8 (mask.toNat : Int))
  kb : kd ≤ 255
  pr : IntR p
  nr : IntR n
  kr : IntR keep
  sl : Sl encB w x m ds
  mc : m ≤ cm
/-- A slice of n acts. -/
def IsActs (w : World) (a : Option Addr) (n cap : Nat) : Prop :=
  n ≤ cap ∧ n ≤ maxLen ∧ (0 < n → ∃ b off, a = some ⟨b, off, none⟩ ∧ b < w.heap.size ∧ ∀ i, i < n → ∃ kd p q x m cm ds keep mask, ActAt w b (off + i * 6) kd p q x m cm ds keep mask)
theorem ActAt.below {w w' : World} {b o kd : Nat} {p n : Int} {x : Option Addr} {m cm : Nat} {ds : List UInt8} {keep : Int} {mask : UInt8} (h : ActAt w b o kd p n x m cm ds keep mask) (hlt : b < w.heap.size) (hb : Below w.heap.size w w') : ActAt w' b o kd p n x m cm ds keep mask :=
  ⟨(hb.cell (by simpa using hlt)).trans h.c0, (hb.cell (by simpa using hlt)).trans h.c1, (hb.cell (by simpa using hlt)).trans h.c2, (hb.cell (by simpa using hlt)).trans h.c3, (hb.cell (by simpa using hlt)).trans h.c4, (hb.cell (by simpa using hlt)).trans h.c5, h.kb, h.pr, h.nr, h.kr, h.sl.below hb, h.mc⟩
theorem IsActs.below {w w' : World} {a : Option Addr} {n cap : Nat} (h : IsActs w a n cap) (hb : Below w.heap.size w w') : IsActs w' a n cap := by
  obtain ⟨h0, h1, h2⟩ := h
  refine ⟨h0, h1, fun hn => ?_⟩
  obtain ⟨b, off, ha, hlt, hr⟩ := h2 hn
  refine ⟨b, off, ha, Nat.lt_of_lt_of_le hlt hb.size, fun i hi => ?_⟩
  obtain ⟨kd, p, q, x, m, cm, ds, keep, mask, h⟩ := hr i hi
  exact ⟨kd, p, q, x, m, cm, ds, keep, mask, h.below hlt hb⟩
section
variable {H : Type} {enc : TypeId × Value → H} {w : World} {r : Reach} {b0 : Nat} {v : Value} {d : DataW H} {p : List MemPlace}
theorem add_two (b off k j : Nat) : ((⟨b, off, none⟩ : Addr).add k).add j = ⟨b, off + k + j, none⟩ := by
  have h1 : ∀ (o k : Nat), (⟨b, o, none⟩ : Addr).add k = ⟨b, o + k, none⟩ := by intro o k; unfold Addr.add; split <;> simp_all
  rw [h1, h1]
theorem add_zero6 (x : Addr) : (x.add (0 * 6)).add 0 = x := by simp [Addr.add]
theorem cells_act : Try.prog.cellsOf 49 = 6 := by kernel_rfl
theorem open_acts (hv : Value.okWide Try.prog w r b0 43 v) (h : DataW.Trod enc Try.prog w 0 (fun _ => true) true 43 v d p) : ∃ a n cap, v = .slice a n cap ∧ IsActs w a n cap := by
  obtain ⟨a, n, cap, rfl⟩ := okWide_slice Try.underlying43 hv
  refine ⟨a, n, cap, rfl, ?_⟩
  obtain ⟨fuel, hf⟩ := h
  rcases open_slice Try.underlying43 hf with ⟨hcs, _⟩ | ⟨x, len, c, m, n', D, Pl, hcs, _, hl, hm, hmm, _, hi⟩
  · simp [Value.cells] at hcs
    obtain ⟨rfl, rfl, rfl⟩ := hcs
    exact ⟨by omega, by unfold maxLen; omega, fun h => by omega⟩
  · simp [Value.cells] at hcs
    obtain ⟨rfl, rfl, rfl⟩ := hcs
    simp only [if_true] at hmm
    subst hmm
    refine ⟨hl, by omega, fun hn => ?_⟩
    have hsp : x.spot = none := by
      obtain ⟨cs', hc, ht⟩ := hi 0 (by omega)
      rw [cells_act] at hc
      obtain ⟨_, hcl, hat⟩ := World.cells?_some hc
      match cs', hcl with
      | [c0, c1, c2, c3, c4, c5], _ =>
        have q0 := hat 0 (by omega)
        rw [add_zero6] at q0
        exact World.cell?_spot q0
    obtain ⟨b, off, spot⟩ := x
    simp only at hsp
    subst hsp
    have key : ∀ i, i < n → ∃ kd p q x m cm ds keep mask, ActAt w b (off + i * 6) kd p q x m cm ds keep mask := by
      intro i hin
      obtain ⟨cs', hc, ht⟩ := hi i (by omega)
      rw [cells_act] at hc
      obtain ⟨_, hcl, hat⟩ := World.cells?_some hc
      match cs', hcl with
      | [c0, c1, c2, c3, c4, c5], _ =>
        obtain ⟨xs, k, _, _, _, hlen, hg⟩ := DataW.trod_struct Try.underlying49 ht
        match xs, hlen with
        | [y0, y1, y2, y3, y4], _ =>
          have g0 : DataW.trod enc Try.prog w 0 (fun _ => true) true k 5 [c0] = some y0 := hg 0 _ rfl
          have g1 : DataW.trod enc Try.prog w 0 (fun _ => true) true k 3 [c1] = some y1 := hg 1 _ rfl
          have g2 : DataW.trod enc Try.prog w 0 (fun _ => true) true k 3 [c2] = some y2 := hg 2 _ rfl
          have g3 : DataW.trod enc Try.prog w 0 (fun _ => true) true k 22 [c3] = some y3 := hg 3 _ rfl
          have g4 : DataW.trod enc Try.prog w 0 (fun _ => true) true k 39 [c4, c5] = some y4 := hg 4 _ rfl
          obtain ⟨zs, k2, _, _, _, hlen2, hg2⟩ := DataW.trod_struct Try.underlying39 g4
          match zs, hlen2 with
          | [z0, z1], _ =>
            have g40 : DataW.trod enc Try.prog w 0 (fun _ => true) true k2 3 [c4] = some z0 := hg2 0 _ rfl
            have g41 : DataW.trod enc Try.prog w 0 (fun _ => true) true k2 5 [c5] = some z1 := hg2 1 _ rfl
            obtain ⟨kd, e0, w0⟩ := int_of Try.underlying5 g0
            obtain ⟨p, e1, w1⟩ := int_of Try.underlying3 g1
            obtain ⟨q, e2, w2⟩ := int_of Try.underlying3 g2
            obtain ⟨ad, m, cm, z, e3, hr⟩ := row_of g3
            obtain ⟨keep, e4, w4⟩ := int_of Try.underlying3 g40
            obtain ⟨mk, e5, w5⟩ := int_of Try.underlying5 g41
            have hcap := Row.cap hr
            obtain ⟨ds, hds, hml⟩ := Bs.ofRow hr
            obtain ⟨b1, b2⟩ := bounds_u8 w0
            have q0 := hat 0 (by omega)
            have q1 := hat 1 (by omega)
            have q2 := hat 2 (by omega)
            have q3 := hat 3 (by omega)
            have q4 := hat 4 (by omega)
            have q5 := hat 5 (by omega)
            rw [add_two] at q0 q1 q2 q3 q4 q5
            refine ⟨kd.toNat, p, q, ad, m, cm, ds, keep, UInt8.ofNat mk.toNat, ⟨?_, ?_, ?_, ?_, ?_, ?_, by omega, bounds_i64 w1, bounds_i64 w2, bounds_i64 w4, hds.sl, hcap⟩⟩
            · rw [Nat.add_zero] at q0; rw [q0, show ((kd.toNat : Nat) : Int) = kd by omega, ← e0]; rfl
            · rw [q1, ← e1]; rfl
            · rw [q2, ← e2]; rfl
            · rw [q3, ← e3]; rfl
            · rw [q4, ← e4]; rfl
            · rw [q5, ← u8_of_int w5, ← e5]; rfl
    obtain ⟨kd, p, q, x, m, cm, ds, keep, mask, hr⟩ := key 0 hn
    exact ⟨b, off, rfl, World.block_lt_of_cell? w _ hr.c0, key⟩
end
/-- What few tells. -/
def FewRet (w : World) (b off n : Nat) (e : Ending) (w' : World) : Prop :=
  ∃ r, e = .returned (.bool r) ∧ (r = true → n ≤ 100 ∧ ∀ i, i < n → ∃ kd p q x m cm ds keep mask, ActAt w b (off + i * 6) kd p q x m cm ds keep mask ∧ m ≤ 300) ∧ Below w.heap.size w w'
set_option maxRecDepth 100000 in
set_option maxHeartbeats 4000000 in
theorem few_some (w : World) (b off n cap : Nat) (hb : b < w.heap.size) (hn : n ≤ maxLen) (hr : ∀ i, i < n → ∃ kd p q x m cm ds keep mask, ActAt w b (off + i * 6) kd p q x m cm ds keep mask) :
    Calls Try.prog 18 #[.slice (some ⟨b, off, none⟩) n cap] w (FewRet w b off n) := by
  unfold maxLen at hn
  have HR := Lib.hid hr
  clear hr
  go_enter Try.func18, Try.ntmps18
  go_wp2_with fail
  go_loopg [7] n (fun gn i wr => ∃ j : Nat, j ≤ n ∧ gn = n - j ∧ i = .int .i64 j ∧ Hid (∀ i, i < j → ∃ kd p q x m cm ds keep mask, ActAt w b (off + i * 6) kd p q x m cm ds keep mask ∧ m ≤ 300) ∧ Hid (Below w.heap.size w wr))
  case atStart => exact ⟨0, by omega, by omega, by go_num, fun i hi => absurd hi (by omega), Below.refl _ _⟩
  case round =>
    obtain ⟨j, hj, rfl, rfl, HT, HB⟩ := hrel
    by_cases hlt : j < n
    · obtain ⟨kd, p, q, x, m, cm, ds, keep, mask, hA⟩ := HR.out j hlt
      have hA2 := hA.below hb HB.out
      obtain ⟨c0, c1, c2, c3, c4, c5, _, _, _, _, _, _⟩ := hA2
      have hb2 : Below w.heap.size w (wr.alloc (.cells #[.int .u8 kd, .int .i64 p, .int .i64 q, .slice x m cm, .int .i64 keep, .int .u8 (mask.toNat : Int)] 49)) := HB.out.alloc HB.out.size _
      have HB2 := Lib.hid hb2
      have HA := Lib.hid hA
      clear hA hb2
      by_cases hm : 300 < m
      · go_wp2_with fail
        go_ret
        exact ⟨false, rfl, (fun h => by cases h), HB2.out⟩
      · have HT2 := Lib.hid (show ∀ i, i < j + 1 → ∃ kd p q x m cm ds keep mask, ActAt w b (off + i * 6) kd p q x m cm ds keep mask ∧ m ≤ 300 from fun i hi => by
          by_cases e : i = j
          · subst e; exact ⟨_, _, _, _, _, _, _, _, _, HA.out, by omega⟩
          · exact HT.out i (by omega))
        go_wp2_with fail
        go_roundg (n - (j + 1))
        case measure => omega
        case rel => exact ⟨j + 1, by omega, rfl, by go_num, HT2, HB2⟩
    · obtain rfl : j = n := by omega
      by_cases h100 : j ≤ 100
      · go_wp2_with fail
        go_ret
        exact ⟨true, by simp; omega, fun _ => ⟨h100, HT.out⟩, HB.out⟩
      · go_wp2_with fail
        go_ret
        exact ⟨false, by simp; omega, (fun h => by cases h), HB.out⟩
set_option maxRecDepth 100000 in
set_option maxHeartbeats 4000000 in
theorem few_nil (w : World) (a : Option Addr) (cap : Nat) : Calls Try.prog 18 #[.slice a 0 cap] w fun e w' => e = .returned (.bool true) ∧ w = w' := by
  go_enter Try.func18, Try.ntmps18
  go_wp2_with fail
  go_loopg [7] 0 (fun gn i wr => i = .int .i64 0 ∧ wr = w)
  case atStart => exact ⟨by go_num, rfl⟩
  case round =>
    obtain ⟨rfl, rfl⟩ := hrel
    go_wp2_with fail
    go_ret
    exact ⟨rfl, rfl⟩
end Go.Proofs.Ytjlcgffcfhfffaa
