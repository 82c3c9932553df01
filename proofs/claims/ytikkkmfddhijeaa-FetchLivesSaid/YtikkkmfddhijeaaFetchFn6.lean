/- fetch: the reference's Take. No condition. -/
import Derived.Test.YtikkkmfddhijeaaFetchFn5
namespace Go.Proofs.Ytikkkmfddhijeaa
open Go.ChangeShapes Go.WideShapes Go.ChangeAt Go.RowKit
theorem Sl.ofOwnS {α : Type} {enc : α → Value} {w : World} {base : Nat} {e : TypeId} {a : Option Addr} {n c : Nat} {xs : List α} (h : w.ownsRow base e 1 (.slice a n c) n (xs.map enc)) : Sl enc w a n xs ∧ n ≤ c := by
  obtain ⟨a', c', he, hs, hc⟩ := Sl.ofOwn h
  cases he
  exact ⟨hs, hc⟩
/-- What the reference's Take returns. -/
def RefTakeRet (s c : Int) (xs : List UInt8) (w : World) (e : Ending) (w' : World) : Prop :=
  ∃ a n cap, e = .returned (jobV s c a n cap) ∧ Sl encB w' a n xs ∧ n ≤ cap ∧ Below w.heap.size w w'
set_option maxRecDepth 100000 in
set_option maxHeartbeats 4000000 in
theorem refTake_any (w : World) (s c : Int) (a : Option Addr) (n cap : Nat) (bs : List UInt8) (f sum : Int) (b : Option Addr) (m capm : Nat) (ds : List UInt8) (hs : IntR s) (hc : IntR c) (hn : n ≤ 1048576) (hcap : n ≤ cap) (he : Sl encB w a n bs) (hds : Sl encB w b m ds) (hm : m ≤ 65536) :
    Calls Try.prog 14 #[jobV s c a n cap, replyV f b m capm sum] w (RefTakeRet s c (takeL (takesR s c n f ds sum) bs ds) w) := by
  have HD := Lib.hid hds
  have HE := Lib.hid he
  have hdl := hds.1
  have hel := he.1
  have hW := fun w' (hb : Below w.heap.size w w') => refTakes_any w' s c a n cap f sum b m capm ds hs hc (show n ≤ maxLen by unfold maxLen; omega) (HD.out.below hb) hm
  generalize takesR s c n f ds sum = T at hW ⊢
  clear hs hc hds he
  go_enter Try.func14, Try.ntmps14
  go_wp2_with fail
  have hb0 := ((((Below.refl w.heap.size w).alloc (Nat.le_refl _) (.cells #[.int .i64 s, .int .i64 c, .slice a n cap] 24)).alloc (by simp) (.cells #[.int .i64 f, .slice b m capm, .int .u32 sum] 27)).alloc (by simp; omega) (.cells #[.int .i64 0, .int .i64 0, .slice none 0 0] 24))
  refine (hW _ hb0).mono ?_
  rintro e w1 ⟨rfl, hb1⟩
  have K2 := Lib.hid (Blk3.below (w1 := w1) (three_0 w (.cells #[.int .i64 s, .int .i64 c, .slice a n cap] 24) (.cells #[.int .i64 f, .slice b m capm, .int .u32 sum] 27) (.cells #[.int .i64 0, .int .i64 0, .slice none 0 0] 24)) hb1)
  have K3 := Lib.hid (Blk3.below (w1 := w1) (three_1 w (.cells #[.int .i64 s, .int .i64 c, .slice a n cap] 24) (.cells #[.int .i64 f, .slice b m capm, .int .u32 sum] 27) (.cells #[.int .i64 0, .int .i64 0, .slice none 0 0] 24)) hb1)
  have K4 := Lib.hid (Blk3.below (w1 := w1) (three_2 w (.cells #[.int .i64 s, .int .i64 c, .slice a n cap] 24) (.cells #[.int .i64 f, .slice b m capm, .int .u32 sum] 27) (.cells #[.int .i64 0, .int .i64 0, .slice none 0 0] 24)) hb1)
  have HB := Lib.hid (hb0.trans (hb1.mono hb0.size))
  clear hb1 hW hb0
  cases T with
  | false =>
    obtain ⟨p0, p1, p2, f0, f1, f2, lt2⟩ := K2.out.box
    obtain ⟨p6, p7, p8, f6, f7, f8, lt5⟩ := K4.out.box
    go_wp2_with fail
    exact bodyPost_ret (results_cell_row rfl _ _ (w.heap.size + 1 + 1) _ _ _ _ rfl K4.out.set Try.underlying24 rfl infoJob) rfl ⟨_, _, _, rfl, HE.out.below (HB.out.trans ((keep33 _ _ _ _ _).mono (by omega))), hcap, HB.out.trans ((keep33 _ _ _ _ _).mono (by omega))⟩
  | true =>
    obtain ⟨p0, p1, p2, f0, f1, f2, lt2⟩ := K2.out.box
    obtain ⟨p3, p4, p5, f3, f4, f5, lt3⟩ := K3.out.box
    have ne1 : w.heap.size + 1 + 1 ≠ w.heap.size := by omega
    go_wp2_with fail
    have HO0 := Lib.hid (own_empty w1.drew w1.heap.size 5 (Nat.le_refl _))
    have HB0 := Lib.hid (((Below.refl w1.heap.size w1).drew).alloc (by simp) (.cells #[] 5))
    have lt4 := K4.out.box.lt
    go_region_law ((first
      | (refine step_app1 oneB (by rfl) _ _ _ (by rfl) w1.heap.size _ _ _ (by rfl) HO2.out _ m _ (by rfl) ((HD.out.below (HB.out.trans (HB2.out.mono HB.out.size))).src encB_cell Try.underlying22 _) (by omega) (by unfold maxLen; omega) HB2.out.size ?_; intro v3 w3 hown3 hg3 hb3; rw [List.map_nil, List.nil_append, ← List.map_append] at hown3; obtain ⟨a3, c3, hv3, hsl3, hc3⟩ := Sl.ofOwn hown3; subst hv3; have HO3 := Lib.hid hown3; have HB3 := Lib.hid (HB2.out.trans hb3); clear hown3 hg3 hb3 hsl3; have K4b := Lib.hid (K4.out.below HB3.out); obtain ⟨r0, r1, r2, s0, s1, s2, lu2⟩ := (K2.out.below HB3.out).box; obtain ⟨r3, r4, r5, s3, s4, s5, lu4⟩ := K4b.out.box)
      | (refine step_app1 oneB (by rfl) _ _ _ (by rfl) w1.heap.size _ _ _ (by rfl) HO0.out _ n _ (by rfl) ((HE.out.below (HB.out.trans (HB0.out.mono HB.out.size))).src encB_cell Try.underlying22 _) (by omega) (by unfold maxLen; omega) HB0.out.size ?_; intro v2 w2 hown2 hg2 hb2; have HO2 := Lib.hid hown2; have HB2 := Lib.hid (HB0.out.trans hb2); clear hown2 hg2 hb2; obtain ⟨p3', p4', p5', f3', f4', f5', lt3'⟩ := (K3.out.below HB2.out).box)))
    all_goals (go_wp2_with fail)
    all_goals (
      have ho := own_keep HO3.out (g9 := w.heap.size) (g4 := w.heap.size + 1 + 1) (by omega) (by omega) (.slice a3 (n + m) c3) (.int .i64 s) (.int .i64 c) (.slice a3 (n + m) c3)
      rw [Nat.zero_add] at ho
      exact bodyPost_ret (results_cell_row rfl _ _ (w.heap.size + 1 + 1) _ _ _ _ rfl (K4b.out.other ne1).set Try.underlying24 rfl infoJob) rfl ⟨_, _, _, rfl, (Sl.ofOwnS ho).1, (Sl.ofOwnS ho).2, ((HB.out.trans (HB3.out.mono HB.out.size)).setCell (by show w.heap.size ≤ w.heap.size; omega) _).trans ((keep33 _ _ _ _ _).mono (by omega))⟩)
end Go.Proofs.Ytikkkmfddhijeaa
