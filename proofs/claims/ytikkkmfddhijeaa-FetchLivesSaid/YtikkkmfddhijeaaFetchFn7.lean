/- fetch: Serve. No condition. -/
import Derived.Test.YtikkkmfddhijeaaFetchFn6
namespace Go.Proofs.Ytikkkmfddhijeaa
open Go.ChangeShapes Go.WideShapes Go.ChangeAt Go.RowKit
theorem own_keep3 {w : World} {B n : Nat} {e : TypeId} {v : Value} {xs : List Value} (h : w.ownsRow B e 1 v n xs) {g : Nat} (h4 : g < B) (x y z : Value) :
    (((w.setCell ⟨g, 0, none⟩ x).setCell ⟨g, 1, none⟩ y).setCell ⟨g, 2, none⟩ z).ownsRow B e 1 v n xs :=
  ownsRow_setCell_below (ownsRow_setCell_below (ownsRow_setCell_below h h4 x) h4 y) h4 z
/-- Is there such a part? -/
def partOk (len : Nat) (f n : Int) : Prop := 0 ≤ f ∧ 1 ≤ n ∧ f ≤ len ∧ n ≤ len - f
/-- A part. -/
def partL (bs : List UInt8) (f n : Int) : List UInt8 := (bs.drop f.toNat).take n.toNat
/-- What Serve returns. -/
def ServeRet (f : Int) (xs : List UInt8) (w : World) (e : Ending) (w' : World) : Prop :=
  ∃ a n cap, e = .returned (.tuple #[replyV f a n cap (S32 xs), .bool true]) ∧ w'.ownsRow w.heap.size 5 1 (.slice a n cap) n (xs.map encB) ∧ Below w.heap.size w w'
set_option maxRecDepth 100000 in
set_option maxHeartbeats 4000000 in
theorem Serve_no (w : World) (a : Option Addr) (len cap : Nat) (f n : Int) (hl : len ≤ 65536) (hf : IntR f) (hn : IntR n) (h : ¬ partOk len f n) :
    Calls Try.prog 19 #[.slice a len cap, .int .i64 f, .int .i64 n] w fun e w' => e = .returned (.tuple #[replyV 0 none 0 0 0, .bool false]) ∧ Below w.heap.size w w' := by
  have HP := Lib.hid h
  unfold partOk at h
  obtain ⟨f0, f1⟩ := hf
  obtain ⟨n0, n1⟩ := hn
  by_cases k1 : f < 0
  · clear h
    go_enter Try.func19, Try.ntmps19
    go_wp2_with fail
    exact bodyPost_ret (results_cell_row_tmp rfl _ _ w.heap.size _ _ _ _ rfl (heap_alloc_last w (.cells #[.int .i64 0, .slice none 0 0, .int .u32 0] 27)) Try.underlying27 rfl infoReply) rfl ⟨rfl, (Below.refl _ _).alloc (Nat.le_refl _) _⟩
  by_cases k2 : n < 1
  · clear h
    go_enter Try.func19, Try.ntmps19
    go_wp2_with fail
    exact bodyPost_ret (results_cell_row_tmp rfl _ _ w.heap.size _ _ _ _ rfl (heap_alloc_last w (.cells #[.int .i64 0, .slice none 0 0, .int .u32 0] 27)) Try.underlying27 rfl infoReply) rfl ⟨rfl, (Below.refl _ _).alloc (Nat.le_refl _) _⟩
  by_cases k3 : (len : Int) < f
  · clear h
    go_enter Try.func19, Try.ntmps19
    go_wp2_with fail
    exact bodyPost_ret (results_cell_row_tmp rfl _ _ w.heap.size _ _ _ _ rfl (heap_alloc_last w (.cells #[.int .i64 0, .slice none 0 0, .int .u32 0] 27)) Try.underlying27 rfl infoReply) rfl ⟨rfl, (Below.refl _ _).alloc (Nat.le_refl _) _⟩
  have k4 : (len : Int) - f < n := by omega
  · clear h
    go_enter Try.func19, Try.ntmps19
    go_wp2_with fail
    exact bodyPost_ret (results_cell_row_tmp rfl _ _ w.heap.size _ _ _ _ rfl (heap_alloc_last w (.cells #[.int .i64 0, .slice none 0 0, .int .u32 0] 27)) Try.underlying27 rfl infoReply) rfl ⟨rfl, (Below.refl _ _).alloc (Nat.le_refl _) _⟩
set_option maxRecDepth 100000 in
set_option maxHeartbeats 4000000 in
theorem Serve_any (w : World) (a : Option Addr) (len cap : Nat) (bs : List UInt8) (f n : Int) (hs : Sl encB w a len bs) (hcap : len ≤ cap) (hl : len ≤ 65536) (h : partOk len f n) :
    Calls Try.prog 19 #[.slice a len cap, .int .i64 f, .int .i64 n] w (ServeRet f (partL bs f n) w) := by
  unfold partOk at h
  obtain ⟨h0, h1, h2, h3⟩ := h
  obtain ⟨f, rfl⟩ : ∃ k : Nat, f = k := ⟨f.toNat, by omega⟩
  obtain ⟨n, rfl⟩ : ∃ k : Nat, n = k := ⟨n.toNat, by omega⟩
  obtain ⟨b, off, rfl, hd⟩ := hs.drop (j := f) (by omega)
  have HD := Lib.hid (hd.take (j := n) (by omega))
  rw [show partL bs (f : Int) (n : Int) = (bs.drop f).take n from rfl]
  generalize (bs.drop f).take n = ds at HD ⊢
  have hdl := HD.out.1
  have g1 : (0 : Int) ≤ (f : Int) := by omega
  have g2 : (f : Int) ≤ (len : Int) := by omega
  have g3 : (len : Int) ≤ (cap : Int) := by omega
  have g4 : (0 : Int) ≤ (n : Int) := by omega
  have g5 : (n : Int) ≤ ((cap : Int) - (f : Int)) := by omega
  have g6 : (n : Int) ≤ ((cap - f : Nat) : Int) := by omega
  clear hs hd
  go_enter Try.func19, Try.ntmps19
  go_wp2_with fail
  refine (Clone_any _ (some ⟨b, off + f, none⟩) n (cap - f) ds (HD.out.below ((Below.refl _ _).alloc (Nat.le_refl _) _)) (by omega)).mono ?_
  rintro e w5 ⟨v5, m5, rfl, hown, hb5⟩
  obtain ⟨a5, c5, rfl, hsl5, hc5⟩ := Sl.ofOwn hown
  have hm5 := hsl5.1
  have K6 := Lib.hid (Blk3.below (w1 := w5) (heap_alloc_last w (.cells #[.int .i64 0, .slice none 0 0, .int .u32 0] 27)) hb5)
  have HB5 := Lib.hid (((Below.refl w.heap.size w).alloc (Nat.le_refl _) _).trans (hb5.mono (by simp)))
  rw [show (w.alloc (.cells #[.int .i64 0, .slice none 0 0, .int .u32 0] 27)).heap.size = w.heap.size + 1 by simp] at hown
  have HO5 := Lib.hid hown
  have HS5 := Lib.hid hsl5
  clear hown hb5 hsl5
  go_wp2_with fail
  refine (Sum32_s _ a5 m5 c5 ds HS5.out (by omega)).mono ?_
  rintro e w6 ⟨rfl, hb6⟩
  have K6' := Lib.hid (K6.out.below hb6)
  have HB6 := Lib.hid (HB5.out.trans (hb6.mono HB5.out.size))
  have HO6 := Lib.hid (own_below HO5.out hb6)
  clear hb6 K6 HB5 HO5 HS5
  obtain ⟨p0, p1, p2, f0, f1, f2, lt2⟩ := K6'.out.box
  go_wp2_with fail
  have ho := own_keep3 HO6.out (g := w.heap.size) (by omega) (.int .i64 f) (.slice a5 m5 c5) (.int .u32 (S32 ds))
  exact bodyPost_ret (results_cell_row_tmp rfl _ _ w.heap.size _ _ _ _ rfl K6'.out.set Try.underlying27 rfl infoReply) rfl ⟨_, _, _, rfl, own_mono ho (by omega), HB6.out.trans (keep33 _ _ _ _ _)⟩
end Go.Proofs.Ytikkkmfddhijeaa
