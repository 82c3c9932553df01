/- ops: places and goes. No condition. -/
import Derived.Test.YtfhajbfgdbcpeaaOpsFn2
import Derived.Test.YtfhajbfgdbcpeaaOpsPlain2
import Derived.Maps.OwnSet
namespace Go.Proofs.Ytfhajbfgdbcpeaa
open Go.ChangeShapes Go.WideShapes Go.ChangeAt Go.RowKit
open Go.Maps (Keyed int_keyed)
/-- A slice of instructions. -/
def Rs (w : World) (a : Option Addr) (n : Nat) (L : List RW) : Prop := Ss 4 RW.cells w a n L
theorem Rs.below {w w' : World} {a : Option Addr} {n : Nat} {L : List RW} (h : Rs w a n L) (hb : Below w.heap.size w w') : Rs w' a n L := Ss.below h hb
/-- Four cells that are an instruction. -/
structure RAt (w : World) (b o : Nat) (p : Int) (k : Nat) (x y : Int) : Prop where
  c0 : w.cell? ⟨b, o, none⟩ = some (.int .i64 p)
  c1 : w.cell? ⟨b, o + 1, none⟩ = some (.int .u8 (k : Nat))
  c2 : w.cell? ⟨b, o + 2, none⟩ = some (.int .i64 x)
  c3 : w.cell? ⟨b, o + 3, none⟩ = some (.int .i64 y)
theorem RAt.below {w w' : World} {b o : Nat} {p : Int} {k : Nat} {x y : Int} (h : RAt w b o p k x y) (hb : Below w.heap.size w w') : RAt w' b o p k x y :=
  ⟨cellS_below hb h.c0, cellS_below hb h.c1, cellS_below hb h.c2, cellS_below hb h.c3⟩
theorem Rs.at {w : World} {a : Option Addr} {n : Nat} {L : List RW} (h : Rs w a n L) (i : Nat) (hi : i < n) : ∃ b off r, a = some ⟨b, off, none⟩ ∧ b < w.heap.size ∧ L[i]? = some r ∧ RAt w b (off + i * 4) r.pos r.op r.a r.b := by
  obtain ⟨b, off, ha, hlt, hc⟩ := h.2 (by omega)
  have hl : i < L.length := by rw [h.1]; exact hi
  exact ⟨b, off, L[i], ha, hlt, List.getElem?_eq_getElem hl, hc i hl 0 (by omega), hc i hl 1 (by omega), hc i hl 2 (by omega), hc i hl 3 (by omega)⟩
def IntRo (n : Int) : Prop := (Lit.int .i64 n).wf = true
/-- The map of the places. -/
def placesD (L : List RW) : DataW Unit := L.foldl (fun D r => D.put (.int .i64 r.pos) (.lit (.bool true))) (.map [])
theorem plainElem_bool_inv {H : Type} {P : Program} {e : TypeId} (he : P.underlying e = some .bool) {v : Value} {z : DataW H × List MemPlace} (h : plainElem P e v = some z) : ∃ x, v = .bool x ∧ z = (.lit (.bool x), []) := by
  unfold plainElem at h
  rw [he] at h
  cases v <;> simp at h
  exact ⟨_, rfl, h.symm⟩
theorem there_cons (r : RW) (L : List RW) (p : Int) : thereB (r :: L) p = (r.pos == p || thereB L p) := rfl
theorem fold_at (L : List RW) (D : DataW Unit) (hD : Maps.IsMap D) (p : Int) (z : DataW Unit) :
    (L.foldl (fun D r => D.put (.int .i64 r.pos) (.lit (.bool true))) D).atKey (.int .i64 p) z = if thereB L p = true then .lit (.bool true) else D.atKey (.int .i64 p) z := by
  induction L generalizing D with
  | nil => simp [thereB]
  | cons r L ih =>
    rw [List.foldl_cons, ih _ (hD.put _ _), there_cons]
    by_cases h1 : thereB L p = true
    · simp [h1]
    · by_cases h2 : r.pos = p
      · subst h2
        rw [Maps.atKey_put_same hD (by trivial)]
        simp
      · rw [Maps.atKey_put_other (by intro h; cases h; exact h2 rfl)]
        simp [h1, h2]
theorem places_at (L : List RW) (p : Int) : (placesD L).atKey (.int .i64 p) (.lit (.bool false)) = .lit (.bool (thereB L p)) := by
  unfold placesD
  rw [fold_at L _ Maps.isMap_empty]
  cases thereB L p
  · simp; rfl
  · simp
theorem zeroBool (w : World) : (zeroValue 4).run Try.prog w = .ok (.bool false) w := by kernel_rfl
/-- m[k] at bools. -/
theorem look_bool {w : World} {b n : Nat} {L : List RW} (h : w.ownsMap Try.prog 3 (plainElem Try.prog 4) b n (placesD L)) (p : Int) (hp : IntRo p) :
    (Instr.lookup 59 (.map (some b)) (.int .i64 p) false).run Try.prog w = .ok (.bool (thereB L p)) w := by
  obtain ⟨v, ps, hrun, hv⟩ := h.lookup (int_keyed Try.underlying3) Try.underlying59 (zeroBool w) (plainElem_bool Try.underlying4 false) (Maps.keyOf_int_mk Try.underlying3 hp)
  obtain ⟨x, rfl, hx⟩ := plainElem_bool_inv Try.underlying4 hv
  rw [places_at] at hx
  simp at hx
  rw [hrun, hx.1]
def PlacesRet (L : List RW) (w : World) (e : Ending) (w' : World) : Prop := ∃ b, e = .returned (.map (some b)) ∧ w.heap.size ≤ b ∧ w'.ownsMap Try.prog 3 (plainElem (H := Unit) Try.prog 4) b L.length (placesD L) ∧ Below w.heap.size w w'
set_option maxRecDepth 100000 in
set_option maxHeartbeats 4000000 in
theorem places_any (w : World) (a : Option Addr) (n cap : Nat) (L : List RW) (hs : Rs w a n L) (hn : n ≤ 65536) (hw : ∀ r ∈ L, IntRo r.pos) : Calls Try.prog 32 #[.slice a n cap] w (PlacesRet L w) := by
  have HS := Lib.hid hs
  have HLn := Lib.hid hs.1
  have HW := Lib.hid hw
  have hmm := @run_makeMap Try.prog
  clear hs hw
  go_enter Try.func32, Try.ntmps32
  go_wp2_with fail
  clear hmm
  go_loopg [9] n (fun gn i wr => ∃ j : Nat, j ≤ n ∧ gn = n - j ∧ i = .int .i64 j ∧ Hid (wr.ownsMap Try.prog 3 (plainElem (H := Unit) Try.prog 4) w.heap.size j (placesD (L.take j))) ∧ Hid (Below w.heap.size w wr))
  case atStart => exact ⟨0, by omega, by omega, by go_num, Lib.hid (World.ownsMap_made _ _ _ _), Lib.hid ((Below.refl _ _).alloc (Nat.le_refl _) _)⟩
  case round =>
    obtain ⟨j, hj, rfl, rfl, HM, HB⟩ := hrel
    by_cases hlt : j < n
    · obtain ⟨b, off, r, rfl, _, hr, q⟩ := (HS.out.below HB.out).at j hlt
      obtain ⟨q0, q1, q2, q3⟩ := q
      have hrp := HW.out r (List.mem_of_getElem? hr)
      have HN := Lib.hid (show placesD (L.take (j + 1)) = (placesD (L.take j)).put (.int .i64 r.pos) (.lit (.bool true)) by
        have hjl := (List.getElem?_eq_some_iff.1 hr).1
        have he := (List.getElem?_eq_some_iff.1 hr).2
        unfold placesD
        rw [List.take_succ_eq_append_getElem hjl, List.foldl_append, he]
        rfl)
      have j1 : (j : Int) < n := by omega
      clear hr
      obtain ⟨p, k, x, y⟩ := r
      simp only at q0 q1 q2 q3 hrp HN
      obtain ⟨w', hrun, hown, hturn⟩ := (HM.out.alloc (.cells #[.int .i64 p, .int .u8 (k : Nat), .int .i64 x, .int .i64 y] 36)).store (int_keyed Try.underlying3) Try.underlying59 (by unfold maxLen; omega) (val := .bool true) (Maps.keyOf_int_mk Try.underlying3 hrp) (plainElem_bool Try.underlying4 true)
      have HM2 := Lib.hid hown
      have HB2 := Lib.hid ((HB.out.alloc HB.out.size (.cells #[.int .i64 p, .int .u8 (k : Nat), .int .i64 x, .int .i64 y] 36)).grown hturn.grown (Nat.le_trans HB.out.size (by simp)) (fun m hm => by cases hm; exact Nat.le_refl _))
      clear hown hturn hrp
      go_wp2_with fail
      go_roundg (n - (j + 1))
      case measure => omega
      case rel => exact ⟨j + 1, by omega, rfl, by go_num, Lib.hid (by rw [HN.out]; exact HM2.out), HB2⟩
    · obtain rfl : j = n := by omega
      have HE := Lib.hid HM.out
      rw [List.take_of_length_le (by rw [HLn.out]; exact Nat.le_refl _)] at HE
      go_wp2_with fail
      go_ret
      exact ⟨_, rfl, Nat.le_refl _, by rw [HLn.out]; exact HE.out, HB.out⟩
def GoesRet (L : List RW) (w : World) (e : Ending) (w' : World) : Prop := e = .returned (.bool (goesB L)) ∧ Below w.heap.size w w'
theorem goes_bad {L : List RW} {r : RW} (hr : r ∈ L) (h : (!(formN r.op == 7) || thereB L r.a) = false) : goesB L = false := by
  unfold goesB
  rw [List.all_eq_false]
  exact ⟨r, hr, by rw [h]; decide⟩
theorem goes_good {L : List RW} (h : ∀ (k : Nat) r, L[k]? = some r → (!(formN r.op == 7) || thereB L r.a) = true) : goesB L = true := by
  unfold goesB
  rw [List.all_eq_true]
  intro r hr
  obtain ⟨k, hk, rfl⟩ := List.getElem_of_mem hr
  exact h k _ (List.getElem?_eq_getElem hk)
set_option maxRecDepth 100000 in
set_option maxHeartbeats 8000000 in
theorem goes_any (w : World) (a : Option Addr) (n cap : Nat) (L : List RW) (hs : Rs w a n L) (hn : n ≤ 65536) (hw : ∀ r ∈ L, IntRo r.pos ∧ IntRo r.a ∧ r.op < 256) : Calls Try.prog 20 #[.slice a n cap, .agg (tabN formN)] w (GoesRet L w) := by
  have HS := Lib.hid hs
  have HLn := Lib.hid hs.1
  have HW := Lib.hid hw
  have hpl := places_any (w.alloc (.cells (tabN formN) 38)) a n cap L (hs.below ((Below.refl _ _).alloc (Nat.le_refl _) _)) hn (fun r hr => (hw r hr).1)
  have HP := Lib.hid hpl
  clear hs hw hpl
  go_enter Try.func20, Try.ntmps20
  go_wp2_with fail
  refine HP.out.mono ?_
  rintro e w1 ⟨b, rfl, hb0, hm1, hb1⟩
  have hT := heap_alloc_last w (.cells (tabN formN) 38)
  rw [← hb1.block _ (by simp)] at hT
  have HT := Lib.hid hT
  have HM := Lib.hid hm1
  have HB1 := Lib.hid (((Below.refl w.heap.size w).alloc (Nat.le_refl _) (.cells (tabN formN) 38)).trans (hb1.mono (by simp)))
  clear hb0 hm1 hb1 hT HP
  go_wp2_with fail
  go_loopg [12] n (fun gn i wr => ∃ j : Nat, j ≤ n ∧ gn = n - j ∧ i = .int .i64 j ∧ Hid (∀ (k : Nat) r, k < j → L[k]? = some r → (!(formN r.op == 7) || thereB L r.a) = true) ∧ Hid (Below w1.heap.size w1 wr))
  case atStart => exact ⟨0, by omega, by omega, by go_num, Lib.hid (fun k r h => by omega), Lib.hid (Below.refl _ _)⟩
  case round =>
    obtain ⟨j, hj, rfl, rfl, HG, HB⟩ := hrel
    have HBB := Lib.hid (HB1.out.trans (HB.out.mono HB1.out.size))
    by_cases hlt : j < n
    · obtain ⟨bb, off, r, rfl, _, hr, q⟩ := (HS.out.below HBB.out).at j hlt
      obtain ⟨q0, q1, q2, q3⟩ := q
      obtain ⟨_, hra, hop⟩ := HW.out r (List.mem_of_getElem? hr)
      have hT : wr.heap[w.heap.size]? = some (.cells (tabN formN) 38) := by rw [HB.out.block _ (Array.getElem?_eq_some_iff.1 HT.out).1]; exact HT.out
      have tc : wr.cell? ⟨w.heap.size, r.op, none⟩ = some (.int .u8 (formN r.op : Nat)) := by rw [cell_of_row wr _ _ _ _ _ hT]; exact tabN_at _ _ hop
      have hk := look_bool (((HM.out.kept (row := none) ⟨HB.out.os, HB.out.tape, HB.out.output, HB.out.size, fun k hk _ => HB.out.block k hk⟩ (by simp)).alloc (.cells #[.int .i64 r.pos, .int .u8 (r.op : Nat), .int .i64 r.a, .int .i64 r.b] 36))) r.a hra
      have HBad := Lib.hid (goes_bad (L := L) (List.mem_of_getElem? hr))
      have HNx := Lib.hid (show (!(formN r.op == 7) || thereB L r.a) = true → ∀ (k : Nat) r, k < j + 1 → L[k]? = some r → (!(formN r.op == 7) || thereB L r.a) = true from fun h k r' hk hr' => by
        rcases Nat.lt_or_ge k j with h1 | h1
        · exact HG.out k r' h1 hr'
        · obtain rfl : k = j := by omega
          rw [hr] at hr'
          cases hr'
          exact h)
      have j1 : (j : Int) < n := by omega
      have o1 : (r.op : Int) < 256 := by omega
      have f9 := formN_le r.op
      obtain ⟨p, o, x, y⟩ := r
      simp only at q0 q1 q2 q3 hra hop hT tc hk HBad HNx o1 f9
      generalize thereB L x = th at *
      generalize formN o = f at *
      have hl0 : w.heap.size < wr.heap.size := (Array.getElem?_eq_some_iff.1 hT).1
      clear hr hT hra
      have HA := Lib.hid (HB.out.alloc HB.out.size (.cells #[.int .i64 p, .int .u8 (o : Nat), .int .i64 x, .int .i64 y] 36))
      by_cases h7 : f = 7
      · subst h7
        cases th
        · have HR := Lib.hid (HBad.out rfl)
          go_wp2_with fail
          go_ret
          exact ⟨by rw [HR.out]; rfl, HB1.out.trans (HA.out.mono HB1.out.size)⟩
        · have HQ := Lib.hid (HNx.out rfl)
          go_wp2_with fail
          go_roundg (n - (j + 1))
          case measure => omega
          case rel => exact ⟨j + 1, by omega, rfl, by go_num, HQ, HA⟩
      · have e7 : ((f : Int) == 7) = false := by simp; omega
        have HQ := Lib.hid (HNx.out (by simp [h7]))
        clear h7
        go_wp2_with fail
        go_roundg (n - (j + 1))
        case measure => omega
        case rel => exact ⟨j + 1, by omega, rfl, by go_num, HQ, HA⟩
    · obtain rfl : j = n := by omega
      have HR := Lib.hid (goes_good (L := L) (fun k r hk => HG.out k r (by have := (List.getElem?_eq_some_iff.1 hk).1; rw [HLn.out] at this; exact this) hk))
      go_wp2_with fail
      go_ret
      exact ⟨by rw [HR.out]; rfl, HBB.out⟩
end Go.Proofs.Ytfhajbfgdbcpeaa
