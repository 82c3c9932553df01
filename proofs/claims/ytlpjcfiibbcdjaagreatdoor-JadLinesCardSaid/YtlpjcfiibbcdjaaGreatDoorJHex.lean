/- sha's signs: Hex, Unhex and the document's (of XShaHex, XShaUnhex, XShaRefHex). No condition. -/
import Derived.Test.YtlpjcfiibbcdjaaGreatDoorBuilder
import Derived.Test.YtlpjcfiibbcdjaaGreatDoorJVars
import Derived.Test.YtlpjcfiibbcdjaaGreatDoorRegionE
import Derived.Test.YtlpjcfiibbcdjaaGreatDoorRegionS
import Derived.Test.YtlpjcfiibbcdjaaGreatDoorSs2
import Derived.Test.YtlpjcfiibbcdjaaGreatDoorConv
import Derived.Test.YtlpjcfiibbcdjaaGreatDoorNumFn
import Derived.Deep.DeepCutAuto
import Derived.Deep.LoopGhost
import Derived.Laws.MakeOwn
import Derived.Laws.Strings2
import Derived.StillTailTactics
import Derived.Laws.Strings2
namespace Go.Proofs.YtlpjcfiibbcdjaaGreatDoor
open Go.ChangeShapes Go.WideShapes Go.ChangeAt Go.RowKit
def EqW (x y : World) : Prop := y = x
theorem info_out : (Tryz.prog.info? 24).map (·.size) = some 32 := by kernel_rfl
def ZB (w : World) (g n : Nat) (t : TypeId) : Prop := ∃ old : Array Value, old.size = n ∧ w.heap[g]? = some (.cells old t (0, 0))
theorem ZB.below {w w' : World} {g n : Nat} {t : TypeId} (h : ZB w g n t) (hb : Below w.heap.size w w') : ZB w' g n t := by
  obtain ⟨old, h1, h2⟩ := h
  exact ⟨old, h1, by rw [hb.block g (Array.getElem?_eq_some_iff.1 h2).1]; exact h2⟩
theorem ZB.lt {w : World} {g n : Nat} {t : TypeId} (h : ZB w g n t) : g < w.heap.size := by
  obtain ⟨old, _, h2⟩ := h
  exact (Array.getElem?_eq_some_iff.1 h2).1
theorem ZB.row {w : World} {g g2 n : Nat} {t : TypeId} {A : Array Value} (h : ZB w g n t) (hne : g ≠ g2) : ZB (w.setRow g2 A) g n t := by
  obtain ⟨old, h1, h2⟩ := h
  exact ⟨old, h1, by rw [setRow_other _ _ _ _ hne]; exact h2⟩
def signsL : List UInt8 := [48, 49, 50, 51, 52, 53, 54, 55, 56, 57, 97, 98, 99, 100, 101, 102]
def signAt (n : Nat) : UInt8 := signsL.getD n 0
/-- A sum's signs. -/
def hexB (bs : List UInt8) : List UInt8 := bs.flatMap fun c => [signAt (c.toNat / 16), signAt (c.toNat % 16)]
theorem hexB_length (bs : List UInt8) : (hexB bs).length = 2 * bs.length := by
  induction bs with
  | nil => rfl
  | cons c bs ih => rw [hexB, List.flatMap_cons, List.length_append]; unfold hexB at ih; rw [ih, List.length_cons]; simp; omega
theorem hexB_take (bs : List UInt8) (k : Nat) (h : k < bs.length) : hexB (bs.take (k + 1)) = hexB (bs.take k) ++ [signAt (bs[k].toNat / 16)] ++ [signAt (bs[k].toNat % 16)] := by
  rw [List.take_succ_eq_append_getElem h]
  unfold hexB
  rw [List.flatMap_append]
  simp
theorem lt16 {n : Nat} (h : n < 16) : n = 0 ∨ n = 1 ∨ n = 2 ∨ n = 3 ∨ n = 4 ∨ n = 5 ∨ n = 6 ∨ n = 7 ∨ n = 8 ∨ n = 9 ∨ n = 10 ∨ n = 11 ∨ n = 12 ∨ n = 13 ∨ n = 14 ∨ n = 15 := by omega
theorem idx_sign (w : World) (n : Nat) (h : n < 16) :
    (Instr.index 9 (.string ⟨#[48, 49, 50, 51, 52, 53, 54, 55, 56, 57, 97, 98, 99, 100, 101, 102]⟩) (.int .u8 (n : Nat))).run Tryz.prog w = .ok (.int .u8 ((signAt n).toNat : Nat)) w := by
  have hu := Tryz.underlying9
  have hg : (⟨#[48, 49, 50, 51, 52, 53, 54, 55, 56, 57, 97, 98, 99, 100, 101, 102]⟩ : ByteArray)[n]? = some (signAt n) := by
    rcases lt16 h with rfl | rfl | rfl | rfl | rfl | rfl | rfl | rfl | rfl | rfl | rfl | rfl | rfl | rfl | rfl | rfl <;> rfl
  simp [go_sem, Instr.index, hu, hg]
theorem and15F : ∀ c : Fin 256, bits .and .u8 (c.1 : Int) 15 = ((c.1 % 16 : Nat) : Int) := by decide +kernel
theorem and15 (c : Nat) (h : c < 256) : bits .and .u8 (c : Int) 15 = ((c % 16 : Nat) : Int) := and15F ⟨c, h⟩
set_option maxHeartbeats 4000000 in
set_option maxRecDepth 100000 in
theorem Hex_any (w : World) (bs : List UInt8) (hl : bs.length = 32) :
    Calls Tryz.prog 20 #[.agg (bs.map encB).toArray] w fun e w' => e = .returned (.string ⟨(hexB bs).toArray⟩) ∧ Below w.heap.size w w' := by
  obtain ⟨A, hA⟩ : ∃ A, A = (bs.map encB).toArray := ⟨_, rfl⟩
  have hix : ∀ w' : World, ∀ k (h : k < bs.length), (Instr.index 24 (.agg A) (.int .i64 k)).run Tryz.prog w' = .ok (.int .u8 (bs[k].toNat : Nat)) w' := by
    intro w' k h
    have hu := Tryz.underlying24
    have hk2 : ((k : Nat) : Int) < 32 := by omega
    rw [hA]
    have hk3 : k < 32 := by omega
    simp [go_sem, Instr.index, hu, hl, h, hk2, hk3, encB]
  have hasz : A.size = 32 := by rw [hA]; simpa using hl
  rw [← hA]
  have HIX := Lib.hid hix
  have HSZ := Lib.hid hasz
  have HL := Lib.hid hl
  clear hA hix hasz hl
  have hbox : Below w.heap.size w (w.alloc (.cells A 24)) := (Below.refl _ _).alloc (Nat.le_refl _) _
  have hrow : (w.alloc (.cells A 24)).heap[w.heap.size]? = some (.cells A 24 (0, 0)) := heap_alloc_last w _
  have HBX := Lib.hid hbox
  have HBXS := Lib.hid hbox.size
  have HROW := Lib.hid hrow
  clear hbox hrow
  go_enter Tryz.func20, Tryz.ntmps20
  go_upto_region 1 with fail
  generalize w.alloc (.cells A 24) = w1 at *
  have hbld : Lib.IsBuilderF 66 5 w1.heap.size w1.heap.size (([] : List UInt8).map encB) (w1.alloc (.cells #[.pointer none, .slice none 0 0] 66)) :=
    .inl ⟨Nat.le_refl _, .slice none 0 0, heap_alloc_last w1 _, World.ownsRowF_of (World.ownsRow_nil _ _ _ _), by simp [Value.ownBlock]⟩
  have hal : Below w1.heap.size w1 (w1.alloc (.cells #[.pointer none, .slice none 0 0] 66)) := (Below.refl _ _).alloc (Nat.le_refl _) _
  have hrow2 : (w1.alloc (.cells #[.pointer none, .slice none 0 0] 66)).heap[w.heap.size]? = some (.cells A 24 (0, 0)) := by
    rw [hal.block _ (Array.getElem?_eq_some_iff.1 HROW.out).1]
    exact HROW.out
  have HBD := Lib.hid hbld
  have HAL := Lib.hid hal
  have HROW2 := Lib.hid hrow2
  clear hbld hal hrow2 HROW
  go_upto_region 2 with fail
  generalize w1.alloc (.cells #[.pointer none, .slice none 0 0] 66) = w2 at *
  have HBS := Lib.hid HAL.out.size
  generalize hbb : w1.heap.size = b at *
  clear hbb
  go_wp2_with (refine wpList_load_row rfl _ _ rfl _ rfl _ _ _ _ HROW2.out Tryz.underlying24 rfl (by rw [HSZ.out]; exact info_out) ?_)
  go_loopg [7] 32 (fun gn i wr => ∃ k : Nat, k ≤ 32 ∧ gn = 32 - k ∧ i = .int .i64 k ∧ Hid (Lib.IsBuilderF 66 5 b b ((hexB (bs.take k)).map encB) wr) ∧ Hid (Below b w1 wr) ∧ Hid (b ≤ wr.heap.size))
  case atStart => exact ⟨0, by omega, by omega, by go_num, HBD, HAL, Lib.hid HBS.out⟩
  case round =>
    clear HBD HAL
    obtain ⟨k, hk, rfl, rfl, HBD, HB, HSZB⟩ := hrel
    by_cases hlt : k < 32
    · have k1 : (k : Int) < 32 := by omega
      have hkl : k < bs.length := by rw [HL.out]; exact hlt
      have hx := HIX.out wr k hkl
      obtain ⟨c, hc⟩ : ∃ c, c = bs[k].toNat := ⟨_, rfl⟩
      rw [← hc] at hx
      have hc256 : c < 256 := by rw [hc]; exact bs[k].toNat_lt
      obtain ⟨q, hq⟩ : ∃ q, q = c / 16 := ⟨_, rfl⟩
      obtain ⟨r, hr⟩ : ∃ r, r = c % 16 := ⟨_, rfl⟩
      have hqE : (c : Int) / 16 = (q : Int) := by omega
      have hrE : bits .and .u8 (c : Int) 15 = (r : Int) := by rw [and15 c hc256, hr]
      have hs1 := fun w' => idx_sign w' q (by omega)
      have hs2 := fun w' => idx_sign w' r (by omega)
      have HC := Lib.hid hc
      have HQ := Lib.hid hq
      have HR := Lib.hid hr
      have hlen : (hexB (bs.take k)).length ≤ 64 := by rw [hexB_length, List.length_take]; omega
      have HLEN := Lib.hid hlen
      clear hc hq hr hlen
      have HW1 := Lib.hid (WriteByte_k b b (hexB (bs.take k)) (signAt q) wr HBD.out (by have := HLEN.out; omega) HSZB.out)
      go_wp2_with fail
      refine HW1.out.mono ?_
      rintro e w3 ⟨rfl, hb3, hw3⟩
      have hsz3 : b ≤ w3.heap.size := Nat.le_trans HSZB.out hw3.size
      have HW2 := Lib.hid (WriteByte_k b b (hexB (bs.take k) ++ [signAt q]) (signAt r) w3 hb3 (by have := HLEN.out; rw [List.length_append, List.length_singleton]; omega) hsz3)
      have HB3 := Lib.hid (HB.out.trans hw3)
      clear hb3 hw3 HW1 HBD HB HSZB
      go_wp2_with fail
      refine HW2.out.mono ?_
      rintro e w4 ⟨rfl, hb4, hw4⟩
      have hsz4 : b ≤ w4.heap.size := Nat.le_trans hsz3 hw4.size
      have HBD4 := Lib.hid hb4
      have HB4 := Lib.hid (HB3.out.trans hw4)
      have HSZ4 := Lib.hid hsz4
      clear hb4 hw4 hsz4 HW2 HB3 hsz3
      go_wp2_with fail
      go_roundg (32 - (k + 1))
      case measure => omega
      case rel =>
        refine ⟨k + 1, by omega, rfl, by go_num, ?_, HB4, HSZ4⟩
        rw [hexB_take bs k hkl, ← HC.out, ← HQ.out, ← HR.out]
        exact HBD4
    · obtain rfl : k = 32 := by omega
      have htk : bs.take 32 = bs := List.take_of_length_le (by rw [HL.out]; exact Nat.le_refl _)
      rw [htk] at HBD
      have HST := Lib.hid (StringB_k b b (hexB bs) wr HBD.out HSZB.out)
      clear htk HBD
      go_wp2_with fail
      refine HST.out.mono ?_
      rintro e w5 ⟨rfl, hb5⟩
      go_wp2_with fail
      go_ret
      exact ⟨rfl, HBX.out.trans ((HB.out.trans hb5).mono HBXS.out)⟩
/-- A sign's number; none: -1. -/
def posS (c : UInt8) : Int := Lib.indexByte signsL c
theorem posS_tab : ∀ c : Fin 256, -1 ≤ posS (UInt8.ofNat c.1) ∧ posS (UInt8.ofNat c.1) ≤ 15 := by decide +kernel
theorem posS_le (c : UInt8) : -1 ≤ posS c ∧ posS c ≤ 15 := by
  have h := posS_tab ⟨c.toNat, c.toNat_lt⟩
  simpa using h
/-- The bytes of signs. -/
def unhxL (s : List UInt8) : List UInt8 := (List.range 32).map fun i => UInt8.ofNat (16 * (posS (s.getD (2 * i) 0)).toNat + (posS (s.getD (2 * i + 1) 0)).toNat)
def allS (s : List UInt8) : Bool := decide (s.length = 64) && s.all fun c => decide (0 ≤ posS c)
def zeros32 : List UInt8 := List.replicate 32 0
def unhexV (s : List UInt8) : List UInt8 := if allS s then unhxL s else zeros32
def unhexE (s : List UInt8) : Int := if allS s then 0 else 8
theorem unhxL_length (s : List UInt8) : (unhxL s).length = 32 := by simp [unhxL]
theorem unhexV_length (s : List UInt8) : (unhexV s).length = 32 := by
  unfold unhexV
  split
  · exact unhxL_length s
  · rfl
theorem allS_no {s : List UInt8} {j : Nat} (h : j < s.length) (hn : posS s[j] < 0) : allS s = false := by
  unfold allS
  have : (s.all fun c => decide (0 ≤ posS c)) = false := by
    rw [List.all_eq_false]
    exact ⟨s[j], List.getElem_mem h, by simp; omega⟩
  rw [this, Bool.and_false]
theorem allS_yes {s : List UInt8} (hl : s.length = 64) (h : ∀ j (hj : j < s.length), 0 ≤ posS s[j]) : allS s = true := by
  unfold allS
  rw [hl]
  simp only [decide_true, Bool.true_and]
  rw [List.all_eq_true]
  intro c hc
  obtain ⟨j, hj, rfl⟩ := List.mem_iff_getElem.1 hc
  exact decide_eq_true (h j hj)
theorem idx_str (w : World) (s : List UInt8) (j : Nat) (h : j < s.length) : (Instr.index 9 (.string ⟨s.toArray⟩) (.int .i64 j)).run Tryz.prog w = .ok (.int .u8 (s[j].toNat : Nat)) w := by
  have hu := Tryz.underlying9
  have hg : (⟨s.toArray⟩ : ByteArray)[j]? = some s[j] := by
    rw [getElem?_pos (⟨s.toArray⟩ : ByteArray) j (by show j < s.toArray.size; simpa using h)]
    rfl
  simp [go_sem, Instr.index, hu, hg]
/-- The sum as far as it is laid. -/
def OutU (w : World) (go : Nat) (s : List UInt8) (k : Nat) : Prop := w.heap[go]? = some (.cells (((unhxL s).take k ++ List.replicate (32 - k) 0).map encB).toArray 24)
theorem OutU.at {w : World} {go : Nat} {s : List UInt8} {k : Nat} (h : OutU w go s k) (hk : k < 32) : w.cell? ⟨go, k, none⟩ = some (.int .u8 0) ∧ w.frozen? ⟨go, k, none⟩ = false := by
  constructor
  · rw [cell_of_row w go k _ _ _ h, List.getElem?_toArray, List.getElem?_map, List.getElem?_append_right (by simp [unhxL_length]; omega), List.getElem?_replicate, if_pos (by simp [unhxL_length]; omega)]
    rfl
  · unfold World.frozen?
    unfold OutU at h
    rw [h]
    rfl
theorem OutU.put {w : World} {go : Nat} {s : List UInt8} {k : Nat} (h : OutU w go s k) (hk : k < 32) {x : Int} (hx : x = ((unhxL s)[k]'(by rw [unhxL_length]; exact hk)).toNat) : OutU (w.setCell ⟨go, k, none⟩ (.int .u8 x)) go s (k + 1) := by
  unfold OutU at h ⊢
  unfold World.setCell
  simp only [Array.getElem?_modify, h, Option.map_some, if_true]
  congr 2
  have hl : ((unhxL s).take k).length = k := by rw [List.length_take, unhxL_length]; omega
  rw [List.setIfInBounds_toArray, List.map_append, List.set_append_right _ _ (by rw [List.length_map, hl]; exact Nat.le_refl _), List.length_map, hl, Nat.sub_self, show 32 - k = (32 - (k + 1)) + 1 by omega, List.replicate_succ, List.map_cons, List.set_cons_zero]
  rw [List.take_succ_eq_append_getElem (by rw [unhxL_length]; exact hk), List.map_append, List.map_append, hx]
  simp [encB]
theorem OutU.other {w : World} {go g2 : Nat} {s : List UInt8} {k o : Nat} {v : Value} (h : OutU w go s k) (hne : go ≠ g2) : OutU (w.setCell ⟨g2, o, none⟩ v) go s k := by
  unfold OutU at h ⊢
  unfold World.setCell
  simp [Array.getElem?_modify, Ne.symm hne, h]
theorem ZB.set {w : World} {g g2 n o : Nat} {t : TypeId} {v : Value} (h : ZB w g n t) (hne : g ≠ g2) : ZB (w.setCell ⟨g2, o, none⟩ v) g n t := by
  obtain ⟨old, h1, h2⟩ := h
  refine ⟨old, h1, ?_⟩
  unfold World.setCell
  simp [Array.getElem?_modify, Ne.symm hne, h2]
theorem orJ : ∀ q r : Fin 16, bits .or .i64 ((q.1 * 16 : Nat) : Int) (r.1 : Int) = ((q.1 * 16 + r.1 : Nat) : Int) := by decide +kernel
/-- So far all are signs. -/
def GoodTo (s : List UInt8) (p : Nat) : Prop := ∀ j (hj : j < s.length), j < p → 0 ≤ posS s[j]
set_option maxHeartbeats 4000000 in
set_option maxRecDepth 100000 in
theorem Unhex_any (w : World) (s : List UInt8) (hs : s.length ≤ 9223372036854775807) :
    Calls Tryz.prog 52 #[.string ⟨s.toArray⟩] w fun e w' => e = .returned (.tuple #[.agg ((unhexV s).map encB).toArray, .int .i64 (unhexE s)]) ∧ Below w.heap.size w w' := by
  have h1 : Below w.heap.size w (w.alloc (.cells (List.replicate 32 (Value.int .u8 0)).toArray 24)) := (Below.refl _ _).alloc (Nat.le_refl _) _
  have h2 : ZB (w.alloc (.cells (List.replicate 32 (Value.int .u8 0)).toArray 24)) w.heap.size 32 24 := ⟨_, rfl, heap_alloc_last w _⟩
  have HB1 := Lib.hid h1
  have HZ1 := Lib.hid h2
  clear h1 h2
  go_enter Tryz.func52, Tryz.ntmps52
  go_upto_region 1 with fail
  change Code.wp _ _ _ _ (w.alloc (.cells (List.replicate 32 (Value.int .u8 0)).toArray 24))
  generalize w.alloc (.cells (List.replicate 32 (Value.int .u8 0)).toArray 24) = w1 at *
  go_upto_region 2 with fail
  have h3 : Below w1.heap.size w1 (w1.alloc (.cells (((unhxL s).take 0 ++ List.replicate (32 - 0) 0).map encB).toArray 24)) := (Below.refl _ _).alloc (Nat.le_refl _) _
  have h4 : OutU (w1.alloc (.cells (((unhxL s).take 0 ++ List.replicate (32 - 0) 0).map encB).toArray 24)) w1.heap.size s 0 := heap_alloc_last w1 _
  change Code.wp _ _ _ _ (w1.alloc (.cells (((unhxL s).take 0 ++ List.replicate (32 - 0) 0).map encB).toArray 24))
  obtain ⟨B, hB⟩ : ∃ B, w.heap.size = B := ⟨_, rfl⟩
  rw [hB] at HB1 HZ1 ⊢
  have HBE := Lib.hid hB
  have hgB : B < w1.heap.size := HZ1.out.lt
  have HB2 := Lib.hid (HB1.out.trans (h3.mono (by omega)))
  have HZ2 := Lib.hid (HZ1.out.below h3)
  have HO2 := Lib.hid h4
  clear h3 h4 hB HB1 HZ1
  generalize w1.alloc (.cells (((unhxL s).take 0 ++ List.replicate (32 - 0) 0).map encB).toArray 24) = w2 at *
  generalize w1.heap.size = go at *
  obtain ⟨n, hn⟩ : ∃ n, s.length = n := ⟨_, rfl⟩
  have HN := Lib.hid hn
  by_cases h64 : n = 64
  · subst h64
    go_wp2_with fail
    go_loopg [12] 32 (fun gn i wr => ∃ k : Nat, k ≤ 32 ∧ gn = 32 - k ∧ i = .int .i64 k ∧ Hid (GoodTo s (2 * k)) ∧ Hid (OutU wr go s k) ∧ Hid (ZB wr B 32 24) ∧ Hid (Below B w wr))
    case atStart => exact ⟨0, by omega, by omega, by go_num, Lib.hid (fun j hj h => by omega), HO2, HZ2, HBE.out ▸ HB2⟩
    case round =>
      clear HO2 HZ2 HB2
      obtain ⟨k, hk, rfl, rfl, HG, HO, HZ, HB⟩ := hrel
      by_cases hlt : k < 32
      · have k1 : (k : Int) < 32 := by omega
        obtain ⟨p0, hp0⟩ : ∃ p0, p0 = 2 * k := ⟨_, rfl⟩
        obtain ⟨p1, hp1⟩ : ∃ p1, p1 = 2 * k + 1 := ⟨_, rfl⟩
        have hpm : 2 * (k : Int) = (p0 : Int) := by omega
        have hpn : (p0 : Int) + 1 = (p1 : Int) := by omega
        have hl0 : p0 < s.length := by omega
        have hl1 : p1 < s.length := by omega
        have hx0 := fun w' => idx_str w' s p0 hl0
        have hx1 := fun w' => idx_str w' s p1 hl1
        obtain ⟨x, hx⟩ : ∃ x, x = s[p0] := ⟨_, rfl⟩
        obtain ⟨y, hy⟩ : ∃ y, y = s[p1] := ⟨_, rfl⟩
        rw [← hx] at hx0
        rw [← hy] at hx1
        obtain ⟨xn, hxn⟩ : ∃ xn, xn = x.toNat := ⟨_, rfl⟩
        obtain ⟨yn, hyn⟩ : ∃ yn, yn = y.toNat := ⟨_, rfl⟩
        rw [← hxn] at hx0
        rw [← hyn] at hx1
        obtain ⟨hi, hhi⟩ : ∃ hi, hi = posS x := ⟨_, rfl⟩
        obtain ⟨lo, hlo⟩ : ∃ lo, lo = posS y := ⟨_, rfl⟩
        have HI : Hid (∀ w' : World, Calls Tryz.prog 72 #[.string ⟨#[48, 49, 50, 51, 52, 53, 54, 55, 56, 57, 97, 98, 99, 100, 101, 102]⟩, .int .u8 (xn : Nat)] w' fun e w'' => e = .returned (.int .i64 hi) ∧ w'' = w') := Lib.hid (fun w' => by rw [hhi, hxn]; exact IndexByte_any signsL x w')
        have HJ : Hid (∀ w' : World, Calls Tryz.prog 72 #[.string ⟨#[48, 49, 50, 51, 52, 53, 54, 55, 56, 57, 97, 98, 99, 100, 101, 102]⟩, .int .u8 (yn : Nat)] w' fun e w'' => e = .returned (.int .i64 lo) ∧ w'' = w') := Lib.hid (fun w' => by rw [hlo, hyn]; exact IndexByte_any signsL y w')
        have hr1 : -1 ≤ hi ∧ hi ≤ 15 := hhi ▸ posS_le x
        have hr2 : -1 ≤ lo ∧ lo ≤ 15 := hlo ▸ posS_le y
        have HPX := Lib.hid (And.intro hp0 hp1)
        have hxd : x = s.getD p0 0 := by rw [hx]; simp [List.getD, hl0]
        have hyd : y = s.getD p1 0 := by rw [hy]; simp [List.getD, hl1]
        have HXX := Lib.hid (And.intro hxd hhi)
        have HYY := Lib.hid (And.intro hyd hlo)
        have HLL := Lib.hid (And.intro hl0 hl1)
        clear hp0 hp1 hx hy hxd hyd hhi hlo hxn hyn hl0 hl1
        go_upto_region 7 with fail
        have hSw : EqW wr.drew wr.drew := rfl
        have hOd : OutU wr.drew go s k := HO.out
        replace HO := Lib.hid hOd
        replace HZ := Lib.hid (show ZB wr.drew B 32 24 from HZ.out)
        replace HB := Lib.hid HB.out.drew
        clear hOd
        refine wp_region_lexS (EqW wr.drew) (.stir [(0, true), (1, true), (2, true), (3, true), (4, false), (5, true), (6, true), (7, true), (8, true), (9, true), (10, false), (11, true), (12, true)]) (by kernel_rfl) (by kernel_rfl) (fun c a d v w h => by cases d <;> exact h) ?_
        generalize wr.drew = w3 at *
        refine lexS_stir (EqW w3) (fun y hy => hy) rfl ?_
        iterate 4
          refine stir_step (fun K hK => ?_)
          simp only [stirOp, List.getElem?_toArray, List.getElem?_cons_succ, List.getElem?_cons_zero]
          rw [if_pos (by rfl)]
          apply Exists.intro
          refine ⟨fun w' hS' => ?_, ?_⟩
          · first | (go_simp <;> with_reducible rfl) | (go_simp; go_bits; with_reducible rfl)
          go_simp
          try go_bits
          refine hK _ ?_
          clear hK K
        refine stir_step (fun K hK => ?_)
        simp only [stirOp, List.getElem?_toArray, List.getElem?_cons_succ, List.getElem?_cons_zero]
        rw [if_pos (by rfl)]
        apply Exists.intro
        refine ⟨fun w' hS' => ?_, ?_⟩
        · go_simp
          exact Stirs.call (Calls.mono (HI.out w') fun e w'' h => ⟨h.1, (fun hb'' => (by rw [hb'']; exact hS')) h.2⟩)
        go_simp
        refine hK _ ?_
        clear hK K
        iterate 5
          refine stir_step (fun K hK => ?_)
          simp only [stirOp, List.getElem?_toArray, List.getElem?_cons_succ, List.getElem?_cons_zero]
          rw [if_pos (by rfl)]
          apply Exists.intro
          refine ⟨fun w' hS' => ?_, ?_⟩
          · first | (go_simp <;> with_reducible rfl) | (go_simp; go_bits; with_reducible rfl)
          go_simp
          try go_bits
          refine hK _ ?_
          clear hK K
        refine stir_step (fun K hK => ?_)
        simp only [stirOp, List.getElem?_toArray, List.getElem?_cons_succ, List.getElem?_cons_zero]
        rw [if_pos (by rfl)]
        apply Exists.intro
        refine ⟨fun w' hS' => ?_, ?_⟩
        · go_simp
          exact Stirs.call (Calls.mono (HJ.out w') fun e w'' h => ⟨h.1, (fun hb'' => (by rw [hb'']; exact hS')) h.2⟩)
        go_simp
        refine hK _ ?_
        clear hK K
        iterate 2
          refine stir_step (fun K hK => ?_)
          simp only [stirOp, List.getElem?_toArray, List.getElem?_cons_succ, List.getElem?_cons_zero]
          rw [if_pos (by rfl)]
          apply Exists.intro
          refine ⟨fun w' hS' => ?_, ?_⟩
          · first | (go_simp <;> with_reducible rfl) | (go_simp; go_bits; with_reducible rfl)
          go_simp
          try go_bits
          refine hK _ ?_
          clear hK K
        refine stir_nil (fun y hy => ?_)
        obtain rfl : w3 = y := hy.symm
        by_cases hneg : hi < 0
        · have hno : allS s = false := by
            obtain ⟨h0, h1⟩ := HLL.out
            obtain ⟨h2, h3⟩ := HXX.out
            refine allS_no h0 ?_
            rw [h3, h2] at hneg
            simpa [List.getD, h0] using hneg
          have hd1 : decide (hi < 0) = true := decide_eq_true hneg
          clear hr1 hr2 hneg
          obtain ⟨A, hA⟩ : ∃ A, A = (zeros32.map encB).toArray := ⟨_, rfl⟩
          have HSZ := Lib.hid (show A.size = 32 by rw [hA]; rfl)
          have HON := Lib.hid (show A.all (·.oneCell') = true by rw [hA]; simp [encB, Value.oneCell'])
          have HAE := Lib.hid (show A = ((unhexV s).map encB).toArray ∧ unhexE s = 8 by unfold unhexV unhexE; rw [hno]; exact ⟨hA, rfl⟩)
          have HA := Lib.hid hA
          obtain ⟨old, hold, hz0⟩ := HZ.out
          have HZ0 := Lib.hid hz0
          have HOLD := Lib.hid hold
          clear hA hno hold hz0
          go_wp2_with (refine wpList_store_row rfl _ _ _ rfl _ A rfl (by rw [HA.out]; rfl) _ _ HZ0.out (by rw [HSZ.out]; exact info_out) (by rw [HSZ.out]; exact HOLD.out) HON.out ?_)
          refine bodyPost_ret (results_cell_row_tmp rfl _ _ B _ _ _ _ rfl (setRow_heap _ _ _ _ _ _ HZ0.out) Tryz.underlying24 rfl (by rw [HSZ.out]; exact info_out)) rfl ⟨by rw [HAE.out.1, HAE.out.2]; rfl, ?_⟩
          rw [HBE.out]
          exact below_setRow HB.out (Nat.le_refl _) _
        · by_cases hneg2 : lo < 0
          · have hno : allS s = false := by
              obtain ⟨h0, h1⟩ := HLL.out
              obtain ⟨h2, h3⟩ := HYY.out
              refine allS_no h1 ?_
              rw [h3, h2] at hneg2
              simpa [List.getD, h1] using hneg2
            have hd1 : decide (hi < 0) = false := decide_eq_false hneg
            have hd2 : decide (lo < 0) = true := decide_eq_true hneg2
            clear hr1 hr2 hneg hneg2
            obtain ⟨A, hA⟩ : ∃ A, A = (zeros32.map encB).toArray := ⟨_, rfl⟩
            have HSZ := Lib.hid (show A.size = 32 by rw [hA]; rfl)
            have HON := Lib.hid (show A.all (·.oneCell') = true by rw [hA]; simp [encB, Value.oneCell'])
            have HAE := Lib.hid (show A = ((unhexV s).map encB).toArray ∧ unhexE s = 8 by unfold unhexV unhexE; rw [hno]; exact ⟨hA, rfl⟩)
            have HA := Lib.hid hA
            obtain ⟨old, hold, hz0⟩ := HZ.out
            have HZ0 := Lib.hid hz0
            have HOLD := Lib.hid hold
            clear hA hno hold hz0
            go_wp2_with (refine wpList_store_row rfl _ _ _ rfl _ A rfl (by rw [HA.out]; rfl) _ _ HZ0.out (by rw [HSZ.out]; exact info_out) (by rw [HSZ.out]; exact HOLD.out) HON.out ?_)
            refine bodyPost_ret (results_cell_row_tmp rfl _ _ B _ _ _ _ rfl (setRow_heap _ _ _ _ _ _ HZ0.out) Tryz.underlying24 rfl (by rw [HSZ.out]; exact info_out)) rfl ⟨by rw [HAE.out.1, HAE.out.2]; rfl, ?_⟩
            rw [HBE.out]
            exact below_setRow HB.out (Nat.le_refl _) _
          · have hd1 : decide (hi < 0) = false := decide_eq_false hneg
            have hd2 : decide (lo < 0) = false := decide_eq_false hneg2
            obtain ⟨q, rfl⟩ : ∃ q : Nat, hi = q := ⟨hi.toNat, by omega⟩
            obtain ⟨r, rfl⟩ : ∃ r : Nat, lo = r := ⟨lo.toNat, by omega⟩
            have hq : q < 16 := by omega
            have hr : r < 16 := by omega
            obtain ⟨z, hz⟩ : ∃ z, z = q * 16 := ⟨_, rfl⟩
            obtain ⟨v, hv⟩ : ∃ v, v = q * 16 + r := ⟨_, rfl⟩
            have e1 : (q : Int) * 16 = (z : Int) := by omega
            have e2 : bits .or .i64 (z : Int) (r : Int) = (v : Int) := by rw [hz, hv]; exact orJ ⟨q, hq⟩ ⟨r, hr⟩
            have e3 : v < 256 := by omega
            have hz3 : z ≤ 240 := by omega
            have e4 : IntKind.u8.wrap (v : Int) = (v : Int) := by rw [IntKind.wrap_u8']; omega
            have hun : (unhxL s)[k]'(by rw [unhxL_length]; exact hlt) = UInt8.ofNat v := by
              have h1 := HXX.out
              have h2 := HYY.out
              have h3 := HPX.out
              unfold unhxL
              rw [List.getElem_map, List.getElem_range, ← h3.2, ← h3.1, ← h1.1, ← h2.1, ← h1.2, ← h2.2, hv]
              simp only [Int.toNat_natCast]
              rw [Nat.mul_comm 16 q]
            have hnx : OutU (w3.setCell ⟨go, k, none⟩ (.int .u8 (v : Int))) go s (k + 1) := HO.out.put hlt (by rw [hun, UInt8.toNat_ofNat_of_lt' e3])
            have hgn : GoodTo s (2 * (k + 1)) := by
              intro j hj hlt2
              obtain ⟨h0, h1⟩ := HLL.out
              have hp := HPX.out
              have h2 := HXX.out
              have h3 := HYY.out
              by_cases ha : j < 2 * k
              · exact HG.out j hj ha
              · by_cases hb : j = p0
                · subst hb
                  have h4 : s.getD j 0 = s[j] := by simp [List.getD, h0]
                  rw [← h4, ← h2.1, ← h2.2]
                  omega
                · obtain rfl : j = p1 := by omega
                  have h4 : s.getD j 0 = s[j] := by simp [List.getD, h1]
                  rw [← h4, ← h3.1, ← h3.2]
                  omega
            have HNX := Lib.hid hnx
            have HGN := Lib.hid hgn
            have HZN := Lib.hid (HZ.out.set (g2 := go) (o := k) (v := .int .u8 (v : Int)) (by omega))
            have HBN := Lib.hid (HB.out.setCell (p := ⟨go, k, none⟩) (show B ≤ go from Nat.le_of_lt hgB) (.int .u8 (v : Int)))
            obtain ⟨c0, f0⟩ := HO.out.at hlt
            clear hnx hgn hun hz hv hq hr hneg hneg2 HG HO HZ HB hr1 hr2
            go_wp2_with fail
            go_roundg (32 - (k + 1))
            case measure => omega
            case rel => exact ⟨k + 1, by omega, rfl, by go_num, HGN, HNX, HZN, HBN⟩
      · obtain rfl : k = 32 := by omega
        have hyes : allS s = true := allS_yes hn (fun j hj => HG.out j hj (by omega))
        have hrow : wr.heap[go]? = some (.cells ((unhxL s).map encB).toArray 24) := by
          have h := HO.out
          unfold OutU at h
          rw [List.take_of_length_le (by rw [unhxL_length]; omega)] at h
          simpa using h
        obtain ⟨A, hA⟩ : ∃ A, A = ((unhxL s).map encB).toArray := ⟨_, rfl⟩
        rw [← hA] at hrow
        have HSZ := Lib.hid (show A.size = 32 by rw [hA]; simp [unhxL_length])
        have HON := Lib.hid (show A.all (·.oneCell') = true by rw [hA]; simp [encB, Value.oneCell'])
        have HAE := Lib.hid (show A = ((unhexV s).map encB).toArray ∧ unhexE s = 0 by unfold unhexV unhexE; rw [hyes]; exact ⟨hA, rfl⟩)
        have HROW := Lib.hid hrow
        obtain ⟨old, hold, hz0⟩ := HZ.out
        have HZ0 := Lib.hid hz0
        have HOLD := Lib.hid hold
        clear hA hyes hrow hold hz0
        go_wp2_with (first
          | (refine wpList_load_row rfl _ _ rfl _ rfl _ _ _ _ HROW.out Tryz.underlying24 rfl (by rw [HSZ.out]; exact info_out) ?_)
          | (refine wpList_store_row rfl _ _ _ rfl _ _ rfl rfl _ _ HZ0.out (by rw [HSZ.out]; exact info_out) (by rw [HSZ.out]; exact HOLD.out) HON.out ?_))
        refine bodyPost_ret (results_cell_row_tmp rfl _ _ B _ _ _ _ rfl (setRow_heap _ _ _ _ _ _ HZ0.out) Tryz.underlying24 rfl (by rw [HSZ.out]; exact info_out)) rfl ⟨by rw [HAE.out.1, HAE.out.2]; rfl, ?_⟩
        rw [HBE.out]
        exact below_setRow HB.out (Nat.le_refl _) _
  · have hne : ((n : Int) != 64) = true := by
      have : (n : Int) ≠ 64 := by omega
      simpa using this
    have hno : allS s = false := by unfold allS; rw [hn, decide_eq_false h64, Bool.false_and]
    have hrow : w2.heap[go]? = some (.cells (zeros32.map encB).toArray 24) := HO2.out
    obtain ⟨A, hA⟩ : ∃ A, A = (zeros32.map encB).toArray := ⟨_, rfl⟩
    rw [← hA] at hrow
    have HSZ := Lib.hid (show A.size = 32 by rw [hA]; rfl)
    have HON := Lib.hid (show A.all (·.oneCell') = true by rw [hA]; simp [encB, Value.oneCell'])
    have HAE := Lib.hid (show A = ((unhexV s).map encB).toArray ∧ unhexE s = 8 by unfold unhexV unhexE; rw [hno]; exact ⟨hA, rfl⟩)
    have HROW := Lib.hid hrow
    obtain ⟨old, hold, hz0⟩ := HZ2.out
    have HZ0 := Lib.hid hz0
    have HOLD := Lib.hid hold
    clear hA hno hrow hold hz0 h64
    go_wp2_with (first
      | (refine wpList_load_row rfl _ _ rfl _ rfl _ _ _ _ HROW.out Tryz.underlying24 rfl (by rw [HSZ.out]; exact info_out) ?_)
      | (refine wpList_store_row rfl _ _ _ rfl _ _ rfl rfl _ _ HZ0.out (by rw [HSZ.out]; exact info_out) (by rw [HSZ.out]; exact HOLD.out) HON.out ?_))
    refine bodyPost_ret (results_cell_row_tmp rfl _ _ B _ _ _ _ rfl (setRow_heap _ _ _ _ _ _ HZ0.out) Tryz.underlying24 rfl (by rw [HSZ.out]; exact info_out)) rfl ⟨by rw [HAE.out.1, HAE.out.2]; rfl, ?_⟩
    rw [HBE.out]
    exact below_setRow (HBE.out ▸ HB2.out) (Nat.le_refl _) _
theorem sign_cut (q : Nat) (h : q < 16) : ((⟨#[48, 49, 50, 51, 52, 53, 54, 55, 56, 57, 97, 98, 99, 100, 101, 102]⟩ : ByteArray).extract q (q + 1)) = ⟨[signAt q].toArray⟩ := by
  rcases lt16 h with rfl | rfl | rfl | rfl | rfl | rfl | rfl | rfl | rfl | rfl | rfl | rfl | rfl | rfl | rfl | rfl <;> rfl
theorem cut_sign (w : World) (q : Nat) (h : q < 16) :
    (Instr.slice 9 (.string ⟨#[48, 49, 50, 51, 52, 53, 54, 55, 56, 57, 97, 98, 99, 100, 101, 102]⟩) (some (.int .u8 (q : Nat))) (some (.int .u8 ((q : Nat) + 1))) none).run Tryz.prog w = .ok (.string ⟨[signAt q].toArray⟩) w := by
  have hz : (⟨#[48, 49, 50, 51, 52, 53, 54, 55, 56, 57, 97, 98, 99, 100, 101, 102]⟩ : ByteArray).size = 16 := rfl
  rw [run_slice_string w 9 _ .u8 .u8 _ _ Tryz.underlying9 (by omega) (by omega) (by rw [hz]; omega), ← sign_cut q h]
  have e : ((q : Int) + 1).toNat = q + 1 := by omega
  rw [e, Int.toNat_natCast]
set_option maxHeartbeats 4000000 in
set_option maxRecDepth 100000 in
theorem refHex_any (w : World) (bs : List UInt8) (hl : bs.length = 32) :
    Calls Tryz.prog 32 #[.agg (bs.map encB).toArray] w fun e w' => e = .returned (.string ⟨(hexB bs).toArray⟩) ∧ Below w.heap.size w w' := by
  obtain ⟨A, hA⟩ : ∃ A, A = (bs.map encB).toArray := ⟨_, rfl⟩
  have hix : ∀ w' : World, ∀ k (h : k < bs.length), (Instr.index 24 (.agg A) (.int .i64 k)).run Tryz.prog w' = .ok (.int .u8 (bs[k].toNat : Nat)) w' := by
    intro w' k h
    have hu := Tryz.underlying24
    have hk2 : ((k : Nat) : Int) < 32 := by omega
    rw [hA]
    have hk3 : k < 32 := by omega
    simp [go_sem, Instr.index, hu, hl, h, hk2, hk3, encB]
  have hasz : A.size = 32 := by rw [hA]; simpa using hl
  rw [← hA]
  have HIX := Lib.hid hix
  have HSZ := Lib.hid hasz
  have HL := Lib.hid hl
  clear hA hix hasz hl
  have hbox : Below w.heap.size w (w.alloc (.cells A 24)) := (Below.refl _ _).alloc (Nat.le_refl _) _
  have hrow : (w.alloc (.cells A 24)).heap[w.heap.size]? = some (.cells A 24 (0, 0)) := heap_alloc_last w _
  have HBX := Lib.hid hbox
  have HROW := Lib.hid hrow
  clear hbox hrow
  go_enter Tryz.func32, Tryz.ntmps32
  go_upto_region 1 with fail
  generalize w.alloc (.cells A 24) = w1 at *
  go_wp2_with (refine wpList_load_row rfl _ _ rfl _ rfl _ _ _ _ HROW.out Tryz.underlying24 rfl (by rw [HSZ.out]; exact info_out) ?_)
  go_loopg [7, 3] 32 (fun gn i s wr => ∃ k : Nat, k ≤ 32 ∧ gn = 32 - k ∧ i = .int .i64 k ∧ s = .string ⟨(hexB (bs.take k)).toArray⟩ ∧ Hid (Below w.heap.size w wr))
  case atStart => exact ⟨0, by omega, by omega, by go_num, rfl, HBX⟩
  case round =>
    clear HBX HROW
    obtain ⟨k, hk, rfl, rfl, rfl, HB⟩ := hrel
    by_cases hlt : k < 32
    · have k1 : (k : Int) < 32 := by omega
      have hkl : k < bs.length := by rw [HL.out]; exact hlt
      have hx := HIX.out wr k hkl
      obtain ⟨c, hc⟩ : ∃ c, c = bs[k].toNat := ⟨_, rfl⟩
      rw [← hc] at hx
      have hc256 : c < 256 := by rw [hc]; exact bs[k].toNat_lt
      obtain ⟨q, hq⟩ : ∃ q, q = c / 16 := ⟨_, rfl⟩
      obtain ⟨r, hr⟩ : ∃ r, r = c % 16 := ⟨_, rfl⟩
      have hqE : (c : Int) / 16 = (q : Int) := by omega
      have hrE : (c : Int) % 16 = (r : Int) := by omega
      have hq16 : q < 16 := by omega
      have hr16 : r < 16 := by omega
      have hs1 := fun w' => cut_sign w' q hq16
      have hs2 := fun w' => cut_sign w' r hr16
      have HC := Lib.hid hc
      have HQ := Lib.hid hq
      have HR := Lib.hid hr
      clear hc hq hr
      obtain ⟨X, hX⟩ : ∃ X, X = hexB (bs.take k) := ⟨_, rfl⟩
      rw [← hX]
      have HX := Lib.hid hX
      clear hX
      have hxl : X.length ≤ 64 := by rw [HX.out, hexB_length, List.length_take]; omega
      have hno : ¬ (9223372036854775807 < X.length + 1) := by omega
      have hno2 : ¬ (9223372036854775807 < X.length + 1 + 1) := by omega
      go_upto_region 5 with fail
      have hSw : EqW wr.drew wr.drew := rfl
      refine wp_region_lexS (EqW wr.drew) (.stir [(0, true), (1, true), (2, true), (3, true), (4, true), (5, true), (6, true), (7, true), (8, true), (9, true), (10, true), (11, true), (12, true), (13, true), (14, true), (15, true)]) (by kernel_rfl) (by kernel_rfl) (fun c a d v w h => by cases d <;> exact h) ?_
      refine lexS_stir (EqW wr.drew) (fun y hy => hy) rfl ?_
      iterate 16
        refine stir_step (fun K hK => ?_)
        simp only [stirOp, List.getElem?_toArray, List.getElem?_cons_succ, List.getElem?_cons_zero]
        rw [if_pos (by rfl)]
        apply Exists.intro
        refine ⟨fun w' hS' => ?_, ?_⟩
        · first | (go_simp <;> with_reducible rfl) | (go_simp; go_bits; with_reducible rfl)
        go_simp
        try go_bits
        refine hK _ ?_
        clear hK K
      refine stir_nil (fun y hy => ?_)
      obtain rfl : y = wr.drew := hy
      have hnx : (⟨X.toArray⟩ : ByteArray) ++ ⟨#[signAt q]⟩ ++ ⟨#[signAt r]⟩ = ⟨(hexB (bs.take (k + 1))).toArray⟩ := by
        rw [hexB_take bs k hkl, ← HC.out, ← HQ.out, ← HR.out, ← HX.out]
        have e1 := str_app X [signAt q]
        have e2 := str_app (X ++ [signAt q]) [signAt r]
        rw [← e2, ← e1]
      have HNX := Lib.hid hnx
      clear hnx hs1 hs2 hx
      go_wp2_with fail
      rw [HNX.out]
      go_roundg (32 - (k + 1))
      case measure => omega
      case rel => exact ⟨k + 1, by omega, rfl, by go_num, rfl, Lib.hid HB.out.drew⟩
    · obtain rfl : k = 32 := by omega
      have htk : bs.take 32 = bs := List.take_of_length_le (by rw [HL.out]; exact Nat.le_refl _)
      rw [htk]
      go_wp2_with fail
      go_ret
      exact ⟨rfl, HB.out⟩
end Go.Proofs.YtlpjcfiibbcdjaaGreatDoor
