/- image: Parse (its chain printed by gen/imgparse.py). No condition. -/
import Derived.Test.YtbcldlbmbdfejaaQ14ImageBytes
namespace Go.Proofs.Ytbcldlbmbdfejaa
open Go.ChangeShapes Go.WideShapes Go.ChangeAt Go.RowKit
theorem RdS.keptB {e : TypeId} {w0 w w' : World} {g : Nat} {a : Option Addr} {n cap : Nat} {bs : List UInt8} {s : St} (h : RdS w g a n cap bs s) (k : KeptT e w w') (hne : 79 ≠ e) (h0 : Sl encB w0 a n bs) (hb : Below w0.heap.size w0 w') : RdS w' g a n cap bs s :=
  ⟨h.k.keptT k hne, h0.below hb, h.off, h.le, h.sm, h.ok, h.ne⟩
theorem infoImg : (Try.prog.info? 30).map (·.size) = some 8 := by kernel_rfl
def x0W : XW := ⟨none, 0, 0, [], none, 0, 0, [], 0, none, 0, 0, [], none, 0, 0, [], none, 0, 0, [], none, 0, 0, [], 0⟩
def zImg : Array Value := #[.slice none 0 0, .slice none 0 0, .int .i64 0, .slice none 0 0, .slice none 0 0, .slice none 0 0, .slice none 0 0, .int .i64 0]
theorem x0W_vals : x0W.vals = zImg := rfl
theorem x0W_rd (w : World) : x0W.Rd w := ⟨Ss.nil _ _, (fun c hc => by cases hc), Ss.nil _ _, Sl.nil _ _, Sl.nil _ _, Sl.nil _ _, Ss.nil _ _, (fun c hc => by cases hc)⟩
/-- What Parse answers. -/
def ParseRet (R : XP × Int) (w : World) (e : Ending) (w' : World) : Prop :=
  ∃ x : XW, e = .returned (.tuple #[.agg x.vals, .int .i64 R.2]) ∧ x.p = R.1 ∧ x.Rd w' ∧ Below w.heap.size w w'
theorem ParseRet.err {R : XP × Int} {w w' : World} {er : Int} (h : R = (xp0, er)) (hb : Below w.heap.size w w') : ParseRet R w (.returned (.tuple #[.agg zImg, .int .i64 er])) w' := by
  subst h
  exact ⟨x0W, rfl, rfl, x0W_rd _, hb⟩
def keep8 (g : Nat) (w : World) (a b c d e f h i : Value) : World := (((((((w.setCell ⟨g, 0, none⟩ a).setCell ⟨g, 1, none⟩ b).setCell ⟨g, 2, none⟩ c).setCell ⟨g, 3, none⟩ d).setCell ⟨g, 4, none⟩ e).setCell ⟨g, 5, none⟩ f).setCell ⟨g, 6, none⟩ h).setCell ⟨g, 7, none⟩ i
theorem keep8_heap {w : World} {g : Nat} {a b c d e f h i a' b' c' d' e' f' h' i' : Value} {t : TypeId} {fr : Nat × Nat} (hg : w.heap[g]? = some (.cells #[a', b', c', d', e', f', h', i'] t fr)) : (keep8 g w a b c d e f h i).heap[g]? = some (.cells #[a, b, c, d, e, f, h, i] t fr) := by
  have h0 := heap_set3 hg 0 a
  rw [show (#[a', b', c', d', e', f', h', i'] : Array Value).setIfInBounds 0 a = #[a, b', c', d', e', f', h', i'] from rfl] at h0
  have h1 := heap_set3 h0 1 b
  rw [show (#[a, b', c', d', e', f', h', i'] : Array Value).setIfInBounds 1 b = #[a, b, c', d', e', f', h', i'] from rfl] at h1
  have h2 := heap_set3 h1 2 c
  rw [show (#[a, b, c', d', e', f', h', i'] : Array Value).setIfInBounds 2 c = #[a, b, c, d', e', f', h', i'] from rfl] at h2
  have h3 := heap_set3 h2 3 d
  rw [show (#[a, b, c, d', e', f', h', i'] : Array Value).setIfInBounds 3 d = #[a, b, c, d, e', f', h', i'] from rfl] at h3
  have h4 := heap_set3 h3 4 e
  rw [show (#[a, b, c, d, e', f', h', i'] : Array Value).setIfInBounds 4 e = #[a, b, c, d, e, f', h', i'] from rfl] at h4
  have h5 := heap_set3 h4 5 f
  rw [show (#[a, b, c, d, e, f', h', i'] : Array Value).setIfInBounds 5 f = #[a, b, c, d, e, f, h', i'] from rfl] at h5
  have h6 := heap_set3 h5 6 h
  rw [show (#[a, b, c, d, e, f, h', i'] : Array Value).setIfInBounds 6 h = #[a, b, c, d, e, f, h, i'] from rfl] at h6
  have h7 := heap_set3 h6 7 i
  rw [show (#[a, b, c, d, e, f, h, i'] : Array Value).setIfInBounds 7 i = #[a, b, c, d, e, f, h, i] from rfl] at h7
  exact h7
def ErS (g : Nat) (er : Int) (w : World) : Prop := w.cell? ⟨g, 2, none⟩ = some (.int .i64 er)
def EndS (g gx p : Nat) (v : Value) (w : World) : Prop := w.cell? ⟨g, 2, none⟩ = some (.int .i64 0) ∧ w.cell? ⟨gx, 6, none⟩ = some v ∧ w.cell? ⟨g, 1, none⟩ = some (.int .i64 (p : Nat))
theorem keep8_cell {w : World} {g h o : Nat} {a b c d e f k i x : Value} (hne : h ≠ g) (hc : w.cell? ⟨h, o, none⟩ = some x) : (keep8 g w a b c d e f k i).cell? ⟨h, o, none⟩ = some x := by
  rw [← hc]
  unfold keep8 World.cell? World.setCell
  have hne' : ¬ g = h := fun e => hne e.symm
  simp [Array.getElem?_modify, hne']
theorem keep8_below {w0 w : World} {B g : Nat} (hb : Below B w0 w) (hg : B ≤ g) (a b c d e f h i : Value) : Below B w0 (keep8 g w a b c d e f h i) :=
  (((((((hb.setCell (p := ⟨g, 0, none⟩) hg a).setCell (p := ⟨g, 1, none⟩) hg b).setCell (p := ⟨g, 2, none⟩) hg c).setCell (p := ⟨g, 3, none⟩) hg d).setCell (p := ⟨g, 4, none⟩) hg e).setCell (p := ⟨g, 5, none⟩) hg f).setCell (p := ⟨g, 6, none⟩) hg h).setCell (p := ⟨g, 7, none⟩) hg i
theorem keep8_kept {w : World} {g : Nat} {a b c d e f h i a' b' c' d' e' f' h' i' : Value} {t : TypeId} {fr : Nat × Nat} (hg : w.heap[g]? = some (.cells #[a', b', c', d', e', f', h', i'] t fr)) : KeptT t w (keep8 g w a b c d e f h i) := by
  have s0 := keptT_set hg 0 a
  have h0 := heap_set3 hg 0 a
  have s1 := keptT_set h0 1 b
  have h1 := heap_set3 h0 1 b
  have s2 := keptT_set h1 2 c
  have h2 := heap_set3 h1 2 c
  have s3 := keptT_set h2 3 d
  have h3 := heap_set3 h2 3 d
  have s4 := keptT_set h3 4 e
  have h4 := heap_set3 h3 4 e
  have s5 := keptT_set h4 5 f
  have h5 := heap_set3 h4 5 f
  have s6 := keptT_set h5 6 h
  have h6 := heap_set3 h5 6 h
  have s7 := keptT_set h6 7 i
  exact ((((((s0.trans s1).trans s2).trans s3).trans s4).trans s5).trans s6).trans s7
set_option maxRecDepth 100000 in
set_option maxHeartbeats 32000000 in
theorem Parse_any (w : World) (a : Option Addr) (n cap : Nat) (bs : List UInt8) (hs : Sl encB w a n bs) (hcap : n ≤ cap) (hn : n ≤ 1048500) :
    Calls Try.prog 12 #[.slice a n cap] w (ParseRet (parseR bs) w) := by
  obtain ⟨R, hR⟩ : ∃ R, R = parseR bs := ⟨_, rfl⟩
  rw [← hR]
  have HR := Lib.hid hR
  have HS := Lib.hid hs
  have HLn := Lib.hid hs.1
  have HZ := Lib.hid (heap_alloc_last w (.cells #[.slice none 0 0, .slice none 0 0, .int .i64 0, .slice none 0 0, .slice none 0 0, .slice none 0 0, .slice none 0 0, .int .i64 0] 30))
  have HB := Lib.hid ((Below.refl w.heap.size w).alloc (Nat.le_refl _) (.cells #[.slice none 0 0, .slice none 0 0, .int .i64 0, .slice none 0 0, .slice none 0 0, .slice none 0 0, .slice none 0 0, .int .i64 0] 30))
  clear hR
  by_cases h9 : 262144 < n
  · have HQ := Lib.hid (show R = (xp0, 9) by rw [HR.out]; unfold parseR; rw [if_pos (by rw [HLn.out]; exact h9)])
    have ed : decide ((262144 : Int) < n) = true := by simp; omega
    clear h9 hs
    go_enter Try.func12, Try.ntmps12
    go_upto_region 2 with fail
    generalize w.alloc (.cells #[.slice none 0 0, .slice none 0 0, .int .i64 0, .slice none 0 0, .slice none 0 0, .slice none 0 0, .slice none 0 0, .int .i64 0] 30) = W1 at *
    have z0 := row_cell HZ.out 0 rfl
    have z1 := row_cell HZ.out 1 rfl
    have z2 := row_cell HZ.out 2 rfl
    have z3 := row_cell HZ.out 3 rfl
    have z4 := row_cell HZ.out 4 rfl
    have z5 := row_cell HZ.out 5 rfl
    have z6 := row_cell HZ.out 6 rfl
    have z7 := row_cell HZ.out 7 rfl
    have f0 := row_melt HZ.out 0
    have f1 := row_melt HZ.out 1
    have f2 := row_melt HZ.out 2
    have f3 := row_melt HZ.out 3
    have f4 := row_melt HZ.out 4
    have f5 := row_melt HZ.out 5
    have f6 := row_melt HZ.out 6
    have f7 := row_melt HZ.out 7
    have lt := row_lt HZ.out
    go_wp2_with fail
    change bodyPost _ _ _ _ _ (keep8 w.heap.size W1 _ _ _ _ _ _ _ _)
    refine bodyPost_ret (results_cell_row_tmp rfl _ _ w.heap.size _ _ _ _ rfl (keep8_heap HZ.out) Try.underlying30 rfl infoImg) rfl ?_
    change ParseRet R w (.returned (.tuple #[.agg zImg, .int .i64 9])) _
    exact ParseRet.err HQ.out (keep8_below HB.out (Nat.le_refl _) _ _ _ _ _ _ _ _)
  have hn9 : n ≤ 262144 := by omega
  have ed9 : decide ((262144 : Int) < n) = false := by simp; omega
  by_cases h4 : n < 4
  · have HQ := Lib.hid (show R = (xp0, 8) by rw [HR.out]; unfold parseR; rw [if_neg (by rw [HLn.out]; exact h9), if_pos (.inl (by rw [HLn.out]; exact h4))])
    have ed : decide ((n : Int) < 4) = true := by simp; omega
    clear h9 h4 hs
    go_enter Try.func12, Try.ntmps12
    go_upto_region 4 with fail
    generalize w.alloc (.cells #[.slice none 0 0, .slice none 0 0, .int .i64 0, .slice none 0 0, .slice none 0 0, .slice none 0 0, .slice none 0 0, .int .i64 0] 30) = W1 at *
    have z0 := row_cell HZ.out 0 rfl
    have z1 := row_cell HZ.out 1 rfl
    have z2 := row_cell HZ.out 2 rfl
    have z3 := row_cell HZ.out 3 rfl
    have z4 := row_cell HZ.out 4 rfl
    have z5 := row_cell HZ.out 5 rfl
    have z6 := row_cell HZ.out 6 rfl
    have z7 := row_cell HZ.out 7 rfl
    have f0 := row_melt HZ.out 0
    have f1 := row_melt HZ.out 1
    have f2 := row_melt HZ.out 2
    have f3 := row_melt HZ.out 3
    have f4 := row_melt HZ.out 4
    have f5 := row_melt HZ.out 5
    have f6 := row_melt HZ.out 6
    have f7 := row_melt HZ.out 7
    have lt := row_lt HZ.out
    go_wp2_with fail
    change bodyPost _ _ _ _ _ (keep8 w.heap.size W1 _ _ _ _ _ _ _ _)
    refine bodyPost_ret (results_cell_row_tmp rfl _ _ w.heap.size _ _ _ _ rfl (keep8_heap HZ.out) Try.underlying30 rfl infoImg) rfl ?_
    change ParseRet R w (.returned (.tuple #[.agg zImg, .int .i64 8])) _
    exact ParseRet.err HQ.out (keep8_below HB.out (Nat.le_refl _) _ _ _ _ _ _ _ _)
  have ed4 : decide ((n : Int) < 4) = false := by simp; omega
  obtain ⟨b, off, rfl, hbl, _⟩ := hs.2 (by omega)
  have H4 := Lib.hid (hs.take (show 4 ≤ n by omega))
  have hcv := Lib.hid (fun (w' : World) (h : Below w.heap.size w w') => run_conv (H4.out.below h) cap)
  have h4c : (4 : Int) ≤ cap := by omega
  have hc4 : ¬ cap = 0 := by omega
  by_cases hmg : bs.take 4 = magicB
  case neg =>
    have HQ := Lib.hid (show R = (xp0, 8) by rw [HR.out]; unfold parseR; rw [if_neg (by rw [HLn.out]; exact h9), if_pos (.inr hmg)])
    have en : (bs.take 4 == [67, 73, 48, 49]) = false := by rw [beq_eq_false_iff_ne]; exact hmg
    clear h9 h4 hs hmg
    go_enter Try.func12, Try.ntmps12
    go_upto_region 3 with fail
    generalize w.alloc (.cells #[.slice none 0 0, .slice none 0 0, .int .i64 0, .slice none 0 0, .slice none 0 0, .slice none 0 0, .slice none 0 0, .int .i64 0] 30) = W1 at *
    have cv := hcv.out W1 HB.out
    go_upto_region 4 with fail
    have z0 := row_cell HZ.out 0 rfl
    have z1 := row_cell HZ.out 1 rfl
    have z2 := row_cell HZ.out 2 rfl
    have z3 := row_cell HZ.out 3 rfl
    have z4 := row_cell HZ.out 4 rfl
    have z5 := row_cell HZ.out 5 rfl
    have z6 := row_cell HZ.out 6 rfl
    have z7 := row_cell HZ.out 7 rfl
    have f0 := row_melt HZ.out 0
    have f1 := row_melt HZ.out 1
    have f2 := row_melt HZ.out 2
    have f3 := row_melt HZ.out 3
    have f4 := row_melt HZ.out 4
    have f5 := row_melt HZ.out 5
    have f6 := row_melt HZ.out 6
    have f7 := row_melt HZ.out 7
    have lt := row_lt HZ.out
    go_wp2_with fail
    change bodyPost _ _ _ _ _ (keep8 w.heap.size W1 _ _ _ _ _ _ _ _)
    refine bodyPost_ret (results_cell_row_tmp rfl _ _ w.heap.size _ _ _ _ rfl (keep8_heap HZ.out) Try.underlying30 rfl infoImg) rfl ?_
    change ParseRet R w (.returned (.tuple #[.agg zImg, .int .i64 8])) _
    exact ParseRet.err HQ.out (keep8_below HB.out (Nat.le_refl _) _ _ _ _ _ _ _ _)
  have HRP := Lib.hid (show R = if (imageS bs (4, 0)).2.2 ≠ 0 then (xp0, (imageS bs (4, 0)).2.2) else if laidP (imageS bs (4, 0)).1.ks (imageS bs (4, 0)).2.1 bs.length = false then (xp0, 8) else ((imageS bs (4, 0)).1, 0) by
    rw [HR.out]; unfold parseR; rw [if_neg (by rw [HLn.out]; exact h9), if_neg (by rw [HLn.out]; intro h; rcases h with h | h; exact h4 h; exact h hmg)])
  have en : (bs.take 4 == [67, 73, 48, 49]) = true := by rw [beq_iff_eq]; exact hmg
  clear HR h9 hs hmg
  go_enter Try.func12, Try.ntmps12
  go_upto_region 3 with fail
  generalize w.alloc (.cells #[.slice none 0 0, .slice none 0 0, .int .i64 0, .slice none 0 0, .slice none 0 0, .slice none 0 0, .slice none 0 0, .int .i64 0] 30) = W1 at *
  have cv := hcv.out W1 HB.out
  go_upto_region 7 with fail
  have h1 : Below W1.heap.size W1 (W1.alloc (.cells #[.slice (some ⟨b, off, none⟩) n cap, .int .i64 4, .int .i64 0] 79)) := (Below.refl _ _).alloc (Nat.le_refl _) _
  have h2 : Below (W1.alloc (.cells #[.slice (some ⟨b, off, none⟩) n cap, .int .i64 4, .int .i64 0] 79)).heap.size (W1.alloc (.cells #[.slice (some ⟨b, off, none⟩) n cap, .int .i64 4, .int .i64 0] 79)) ((W1.alloc (.cells #[.slice (some ⟨b, off, none⟩) n cap, .int .i64 4, .int .i64 0] 79)).alloc (.cells #[.slice none 0 0, .slice none 0 0, .int .i64 0, .slice none 0 0, .slice none 0 0, .slice none 0 0, .slice none 0 0, .int .i64 0] 30)) := (Below.refl _ _).alloc (Nat.le_refl _) _
  have hsz : (W1.alloc (.cells #[.slice (some ⟨b, off, none⟩) n cap, .int .i64 4, .int .i64 0] 79)).heap.size = W1.heap.size + 1 := by simp
  have HX0 := heap_alloc_last (W1.alloc (.cells #[.slice (some ⟨b, off, none⟩) n cap, .int .i64 4, .int .i64 0] 79)) (.cells #[.slice none 0 0, .slice none 0 0, .int .i64 0, .slice none 0 0, .slice none 0 0, .slice none 0 0, .slice none 0 0, .int .i64 0] 30)
  rw [hsz] at HX0
  have HX2 := Lib.hid HX0
  have hgw : w.heap.size < W1.heap.size := row_lt HZ.out
  have HB2 := Lib.hid ((HB.out.trans (h1.mono HB.out.size)).trans (h2.mono (by rw [hsz]; omega)))
  have HZ2 := Lib.hid (row_below (row_below HZ.out h1) h2)
  have HR2 := Lib.hid (show RdS ((W1.alloc (.cells #[.slice (some ⟨b, off, none⟩) n cap, .int .i64 4, .int .i64 0] 79)).alloc (.cells #[.slice none 0 0, .slice none 0 0, .int .i64 0, .slice none 0 0, .slice none 0 0, .slice none 0 0, .slice none 0 0, .int .i64 0] 30)) W1.heap.size (some ⟨b, off, none⟩) n cap bs (4, 0) from ⟨row_below (heap_alloc_last W1 (.cells #[.slice (some ⟨b, off, none⟩) n cap, .int .i64 4, .int .i64 0] 79)) h2, HS.out.below HB2.out, Off1.old HS.out (by omega), hcap, hn, ⟨fun _ => by show 4 ≤ n; omega, by show 4 ≤ n + 8; omega⟩, by omega⟩)
  clear h1 h2 hsz HX0 HZ HB cv hcv H4 en ed9 ed4 h4
  generalize ((W1.alloc (.cells #[.slice (some ⟨b, off, none⟩) n cap, .int .i64 4, .int .i64 0] 79)).alloc (.cells #[.slice none 0 0, .slice none 0 0, .int .i64 0, .slice none 0 0, .slice none 0 0, .slice none 0 0, .slice none 0 0, .int .i64 0] 30)) = W2 at *
  generalize hg : W1.heap.size = g at *
  clear hg
  obtain ⟨s2, hs2⟩ : ∃ t, t = ((4, 0) : St) := ⟨_, rfl⟩
  rw [← hs2] at HR2 HRP
  have HS2 := Lib.hid hs2
  clear hs2
  obtain ⟨x3, s3, hE⟩ : ∃ x t, getS bs 2 s2 = (x, t) := ⟨_, _, rfl⟩
  have HP := Lib.hid (two_any W2 g (some ⟨b, off, none⟩) n cap bs s2 HR2.out)
  have HV3 := Lib.hid (getS_two bs 2 (by omega) s2)
  rw [hE] at HP HV3
  simp only at HP HV3
  have HE3 := Lib.hid hE
  clear hE
  go_wp2_with fail
  refine HP.out.mono ?_
  rintro e' W3 ⟨rfl, hr, hk⟩
  have HR3 := Lib.hid hr
  clear hr HP
  have HB3 := Lib.hid (hk.below HB2.out (Nat.le_refl _) (by omega))
  have HZ3 := Lib.hid (hk.blk HZ2.out (by omega))
  have HX3 := Lib.hid (hk.blk HX2.out (by omega))
  clear hk HB2 HZ2 HX2 HR2
  obtain ⟨N3, hN, hNl⟩ : ∃ N : Nat, x3 = (N : Int) ∧ N ≤ 65535 := by have := HV3.out; exact ⟨x3.toNat, by omega, by omega⟩
  subst hN
  obtain ⟨X4, s4, hE⟩ : ∃ x t, rowS (classS bs) N3 s3 = (x, t) := ⟨_, _, rfl⟩
  have HLE4 := Lib.hid (show X4.length ≤ N3 by have h := rowS_len (classS bs) N3 s3; rw [hE] at h; exact h)
  have HP := Lib.hid (rrow_class W3 g (some ⟨b, off, none⟩) n cap bs s3 HR3.out N3 hNl (classS bs) (fun W s' hr _ => rclass_any W g (some ⟨b, off, none⟩) n cap bs s' hr))
  rw [hE] at HP
  have HE4 := Lib.hid hE
  clear hE
  go_wp2_with fail
  refine HP.out.mono ?_
  rintro e' W4 ⟨v4, L4, rfl, ho, hw, hx, hr, hk⟩
  simp only at hx
  subst hx
  obtain ⟨ra4, rc4, rfl, _, _⟩ := Ss.ofOwn CW.vals_len (by decide) ho
  have hgW : g + 1 ≤ W3.heap.size := HR3.out.lt
  have HO4_4 := Lib.hid (own_mono ho hgW)
  have HW4_4 := Lib.hid (fun c hc => (hw c hc).mono hgW)
  have HR4 := Lib.hid hr
  clear hr HP ho hgW hw
  have HB4 := Lib.hid (hk.below HB3.out (Nat.le_refl _) (by omega))
  have HZ4 := Lib.hid (hk.blk HZ3.out (by omega))
  have HX4 := Lib.hid (hk.blk HX3.out (by omega))
  clear hk HB3 HZ3 HX3 HR3
  clear hNl
  have hkt := keptT_set HX4.out 0 (.slice ra4 L4.length rc4)
  have HX5 := Lib.hid (show (W4.setCell ⟨g + 1, 0, none⟩ (.slice ra4 L4.length rc4)).heap[g + 1]? = some (.cells #[.slice ra4 L4.length rc4, .slice none 0 0, .int .i64 0, .slice none 0 0, .slice none 0 0, .slice none 0 0, .slice none 0 0, .int .i64 0] 30) from heap_set3 HX4.out 0 _)
  have HZ5 := Lib.hid (heap_other HZ4.out (show w.heap.size ≠ g + 1 by omega) 0 (.slice ra4 L4.length rc4))
  have HB5 := Lib.hid (HB4.out.setCell (p := ⟨g + 1, 0, none⟩) (show w.heap.size ≤ g + 1 by omega) (.slice ra4 L4.length rc4))
  have HR5 := Lib.hid (HR4.out.keptB hkt (by decide) HS.out HB5.out)
  have HO4_5 := Lib.hid (own_keptT HO4_4.out hkt (by decide))
  have HW4_5 := Lib.hid (fun c hc => (HW4_4.out c hc).keptT hkt (by decide))
  have fr := row_melt HX4.out 0
  have lt := row_lt HX4.out
  have cc := row_cell HX4.out 0 rfl
  go_upto_region 8 with fail
  clear hkt fr lt cc HX4 HZ4 HB4 HR4 HO4_4 HW4_4
  generalize (W4.setCell ⟨g + 1, 0, none⟩ (.slice ra4 L4.length rc4)) = W5 at *
  obtain ⟨x5, s5, hE⟩ : ∃ x t, getS bs 2 s4 = (x, t) := ⟨_, _, rfl⟩
  have HP := Lib.hid (two_any W5 g (some ⟨b, off, none⟩) n cap bs s4 HR5.out)
  have HV5 := Lib.hid (getS_two bs 2 (by omega) s4)
  rw [hE] at HP HV5
  simp only at HP HV5
  have HE5 := Lib.hid hE
  clear hE
  go_wp2_with fail
  refine HP.out.mono ?_
  rintro e' W6 ⟨rfl, hr, hk⟩
  have HR6 := Lib.hid hr
  clear hr HP
  have HB6 := Lib.hid (hk.below HB5.out (Nat.le_refl _) (by omega))
  have HZ6 := Lib.hid (hk.blk HZ5.out (by omega))
  have HX6 := Lib.hid (hk.blk HX5.out (by omega))
  have HO4_6 := Lib.hid (own_keep1 HO4_5.out hk (Nat.lt_succ_self g))
  have HW4_6 := Lib.hid (fun c hc => (HW4_5.out c hc).keep1 hk (Nat.lt_succ_self g))
  clear hk HB5 HZ5 HX5 HR5 HO4_5 HW4_5
  obtain ⟨N5, hN, hNl⟩ : ∃ N : Nat, x5 = (N : Int) ∧ N ≤ 65535 := by have := HV5.out; exact ⟨x5.toNat, by omega, by omega⟩
  subst hN
  obtain ⟨X6, s6, hE⟩ : ∃ x t, rowS (methodS bs) N5 s5 = (x, t) := ⟨_, _, rfl⟩
  have HLE6 := Lib.hid (show X6.length ≤ N5 by have h := rowS_len (methodS bs) N5 s5; rw [hE] at h; exact h)
  have HP := Lib.hid (rrow_meth W6 g (some ⟨b, off, none⟩) n cap bs s5 HR6.out N5 hNl (methodS bs) (fun W s' hr _ => (rmeth_any W g (some ⟨b, off, none⟩) n cap bs s' hr).mono fun e w' h => h))
  rw [hE] at HP
  have HE6 := Lib.hid hE
  clear hE
  go_wp2_with fail
  refine HP.out.mono ?_
  rintro e' W7 ⟨v6, L6, rfl, ho, hx, hr, hk⟩
  simp only at hx
  subst hx
  obtain ⟨ra6, rc6, rfl, _, _⟩ := Ss.ofOwn MW.vals_len (by decide) ho
  have hgW : g + 1 ≤ W6.heap.size := HR6.out.lt
  have HO6_7 := Lib.hid (own_mono ho hgW)
  have HR7 := Lib.hid hr
  clear hr HP ho hgW
  have HB7 := Lib.hid (hk.below HB6.out (Nat.le_refl _) (by omega))
  have HZ7 := Lib.hid (hk.blk HZ6.out (by omega))
  have HX7 := Lib.hid (hk.blk HX6.out (by omega))
  have HO4_7 := Lib.hid (own_keep1 HO4_6.out hk (Nat.lt_succ_self g))
  have HW4_7 := Lib.hid (fun c hc => (HW4_6.out c hc).keep1 hk (Nat.lt_succ_self g))
  clear hk HB6 HZ6 HX6 HR6 HO4_6 HW4_6
  have hml : L6.length ≤ 65535 := by have := HLE6.out; omega
  clear hNl
  have hkt := keptT_set HX7.out 1 (.slice ra6 L6.length rc6)
  have HX8 := Lib.hid (show (W7.setCell ⟨g + 1, 1, none⟩ (.slice ra6 L6.length rc6)).heap[g + 1]? = some (.cells #[.slice ra4 L4.length rc4, .slice ra6 L6.length rc6, .int .i64 0, .slice none 0 0, .slice none 0 0, .slice none 0 0, .slice none 0 0, .int .i64 0] 30) from heap_set3 HX7.out 1 _)
  have HZ8 := Lib.hid (heap_other HZ7.out (show w.heap.size ≠ g + 1 by omega) 1 (.slice ra6 L6.length rc6))
  have HB8 := Lib.hid (HB7.out.setCell (p := ⟨g + 1, 1, none⟩) (show w.heap.size ≤ g + 1 by omega) (.slice ra6 L6.length rc6))
  have HR8 := Lib.hid (HR7.out.keptB hkt (by decide) HS.out HB8.out)
  have HO4_8 := Lib.hid (own_keptT HO4_7.out hkt (by decide))
  have HW4_8 := Lib.hid (fun c hc => (HW4_7.out c hc).keptT hkt (by decide))
  have HO6_8 := Lib.hid (own_keptT HO6_7.out hkt (by decide))
  have fr := row_melt HX7.out 1
  have lt := row_lt HX7.out
  have cc := row_cell HX7.out 1 rfl
  go_upto_region 9 with fail
  clear hkt fr lt cc HX7 HZ7 HB7 HR7 HO4_7 HW4_7 HO6_7
  generalize (W7.setCell ⟨g + 1, 1, none⟩ (.slice ra6 L6.length rc6)) = W8 at *
  obtain ⟨x7, s7, hE⟩ : ∃ x t, getS bs 2 s6 = (x, t) := ⟨_, _, rfl⟩
  have HP := Lib.hid (two_any W8 g (some ⟨b, off, none⟩) n cap bs s6 HR8.out)
  have HV7 := Lib.hid (getS_two bs 2 (by omega) s6)
  rw [hE] at HP HV7
  simp only at HP HV7
  have HE7 := Lib.hid hE
  clear hE
  go_wp2_with fail
  refine HP.out.mono ?_
  rintro e' W9 ⟨rfl, hr, hk⟩
  have HR9 := Lib.hid hr
  clear hr HP
  have HB9 := Lib.hid (hk.below HB8.out (Nat.le_refl _) (by omega))
  have HZ9 := Lib.hid (hk.blk HZ8.out (by omega))
  have HX9 := Lib.hid (hk.blk HX8.out (by omega))
  have HO4_9 := Lib.hid (own_keep1 HO4_8.out hk (Nat.lt_succ_self g))
  have HW4_9 := Lib.hid (fun c hc => (HW4_8.out c hc).keep1 hk (Nat.lt_succ_self g))
  have HO6_9 := Lib.hid (own_keep1 HO6_8.out hk (Nat.lt_succ_self g))
  clear hk HB8 HZ8 HX8 HR8 HO4_8 HW4_8 HO6_8
  have hkt := keptT_set HX9.out 2 (.int .i64 x7)
  have HX10 := Lib.hid (show (W9.setCell ⟨g + 1, 2, none⟩ (.int .i64 x7)).heap[g + 1]? = some (.cells #[.slice ra4 L4.length rc4, .slice ra6 L6.length rc6, .int .i64 x7, .slice none 0 0, .slice none 0 0, .slice none 0 0, .slice none 0 0, .int .i64 0] 30) from heap_set3 HX9.out 2 _)
  have HZ10 := Lib.hid (heap_other HZ9.out (show w.heap.size ≠ g + 1 by omega) 2 (.int .i64 x7))
  have HB10 := Lib.hid (HB9.out.setCell (p := ⟨g + 1, 2, none⟩) (show w.heap.size ≤ g + 1 by omega) (.int .i64 x7))
  have HR10 := Lib.hid (HR9.out.keptB hkt (by decide) HS.out HB10.out)
  have HO4_10 := Lib.hid (own_keptT HO4_9.out hkt (by decide))
  have HW4_10 := Lib.hid (fun c hc => (HW4_9.out c hc).keptT hkt (by decide))
  have HO6_10 := Lib.hid (own_keptT HO6_9.out hkt (by decide))
  have fr := row_melt HX9.out 2
  have lt := row_lt HX9.out
  have cc := row_cell HX9.out 2 rfl
  go_upto_region 10 with fail
  clear hkt fr lt cc HX9 HZ9 HB9 HR9 HO4_9 HW4_9 HO6_9
  generalize (W9.setCell ⟨g + 1, 2, none⟩ (.int .i64 x7)) = W10 at *
  obtain ⟨x8, s8, hE⟩ : ∃ x t, getS bs 2 s7 = (x, t) := ⟨_, _, rfl⟩
  have HP := Lib.hid (two_any W10 g (some ⟨b, off, none⟩) n cap bs s7 HR10.out)
  have HV8 := Lib.hid (getS_two bs 2 (by omega) s7)
  rw [hE] at HP HV8
  simp only at HP HV8
  have HE8 := Lib.hid hE
  clear hE
  go_wp2_with fail
  refine HP.out.mono ?_
  rintro e' W11 ⟨rfl, hr, hk⟩
  have HR11 := Lib.hid hr
  clear hr HP
  have HB11 := Lib.hid (hk.below HB10.out (Nat.le_refl _) (by omega))
  have HZ11 := Lib.hid (hk.blk HZ10.out (by omega))
  have HX11 := Lib.hid (hk.blk HX10.out (by omega))
  have HO4_11 := Lib.hid (own_keep1 HO4_10.out hk (Nat.lt_succ_self g))
  have HW4_11 := Lib.hid (fun c hc => (HW4_10.out c hc).keep1 hk (Nat.lt_succ_self g))
  have HO6_11 := Lib.hid (own_keep1 HO6_10.out hk (Nat.lt_succ_self g))
  clear hk HB10 HZ10 HX10 HR10 HO4_10 HW4_10 HO6_10
  obtain ⟨N8, hN, hNl⟩ : ∃ N : Nat, x8 = (N : Int) ∧ N ≤ 65535 := by have := HV8.out; exact ⟨x8.toNat, by omega, by omega⟩
  subst hN
  obtain ⟨X9, s9, hE⟩ : ∃ x t, rowS (getS bs 2) N8 s8 = (x, t) := ⟨_, _, rfl⟩
  have HP := Lib.hid (rrow_int W11 g (some ⟨b, off, none⟩) n cap bs s8 HR11.out N8 hNl (getS bs 2) (fun W s' hr _ => (two_any W g (some ⟨b, off, none⟩) n cap bs s' hr).mono fun e w' h => ⟨_, h.1, rfl, h.2.1, h.2.2⟩))
  rw [hE] at HP
  have HE9 := Lib.hid hE
  clear hE
  go_wp2_with fail
  refine HP.out.mono ?_
  rintro e' W12 ⟨v9, L9, rfl, ho, hx, hr, hk⟩
  simp only at hx
  subst hx
  obtain ⟨ra9, rc9, rfl, _, _⟩ := Sl.ofOwn ho
  have hgW : g + 1 ≤ W11.heap.size := HR11.out.lt
  have HO9_12 := Lib.hid (own_mono ho hgW)
  have HR12 := Lib.hid hr
  clear hr HP ho hgW
  have HB12 := Lib.hid (hk.below HB11.out (Nat.le_refl _) (by omega))
  have HZ12 := Lib.hid (hk.blk HZ11.out (by omega))
  have HX12 := Lib.hid (hk.blk HX11.out (by omega))
  have HO4_12 := Lib.hid (own_keep1 HO4_11.out hk (Nat.lt_succ_self g))
  have HW4_12 := Lib.hid (fun c hc => (HW4_11.out c hc).keep1 hk (Nat.lt_succ_self g))
  have HO6_12 := Lib.hid (own_keep1 HO6_11.out hk (Nat.lt_succ_self g))
  clear hk HB11 HZ11 HX11 HR11 HO4_11 HW4_11 HO6_11
  clear hNl
  have hkt := keptT_set HX12.out 3 (.slice ra9 L9.length rc9)
  have HX13 := Lib.hid (show (W12.setCell ⟨g + 1, 3, none⟩ (.slice ra9 L9.length rc9)).heap[g + 1]? = some (.cells #[.slice ra4 L4.length rc4, .slice ra6 L6.length rc6, .int .i64 x7, .slice ra9 L9.length rc9, .slice none 0 0, .slice none 0 0, .slice none 0 0, .int .i64 0] 30) from heap_set3 HX12.out 3 _)
  have HZ13 := Lib.hid (heap_other HZ12.out (show w.heap.size ≠ g + 1 by omega) 3 (.slice ra9 L9.length rc9))
  have HB13 := Lib.hid (HB12.out.setCell (p := ⟨g + 1, 3, none⟩) (show w.heap.size ≤ g + 1 by omega) (.slice ra9 L9.length rc9))
  have HR13 := Lib.hid (HR12.out.keptB hkt (by decide) HS.out HB13.out)
  have HO4_13 := Lib.hid (own_keptT HO4_12.out hkt (by decide))
  have HW4_13 := Lib.hid (fun c hc => (HW4_12.out c hc).keptT hkt (by decide))
  have HO6_13 := Lib.hid (own_keptT HO6_12.out hkt (by decide))
  have HO9_13 := Lib.hid (own_keptT HO9_12.out hkt (by decide))
  have fr := row_melt HX12.out 3
  have lt := row_lt HX12.out
  have cc := row_cell HX12.out 3 rfl
  go_upto_region 11 with fail
  clear hkt fr lt cc HX12 HZ12 HB12 HR12 HO4_12 HW4_12 HO6_12 HO9_12
  generalize (W12.setCell ⟨g + 1, 3, none⟩ (.slice ra9 L9.length rc9)) = W13 at *
  obtain ⟨x10, s10, hE⟩ : ∃ x t, getS bs 2 s9 = (x, t) := ⟨_, _, rfl⟩
  have HP := Lib.hid (two_any W13 g (some ⟨b, off, none⟩) n cap bs s9 HR13.out)
  have HV10 := Lib.hid (getS_two bs 2 (by omega) s9)
  rw [hE] at HP HV10
  simp only at HP HV10
  have HE10 := Lib.hid hE
  clear hE
  go_wp2_with fail
  refine HP.out.mono ?_
  rintro e' W14 ⟨rfl, hr, hk⟩
  have HR14 := Lib.hid hr
  clear hr HP
  have HB14 := Lib.hid (hk.below HB13.out (Nat.le_refl _) (by omega))
  have HZ14 := Lib.hid (hk.blk HZ13.out (by omega))
  have HX14 := Lib.hid (hk.blk HX13.out (by omega))
  have HO4_14 := Lib.hid (own_keep1 HO4_13.out hk (Nat.lt_succ_self g))
  have HW4_14 := Lib.hid (fun c hc => (HW4_13.out c hc).keep1 hk (Nat.lt_succ_self g))
  have HO6_14 := Lib.hid (own_keep1 HO6_13.out hk (Nat.lt_succ_self g))
  have HO9_14 := Lib.hid (own_keep1 HO9_13.out hk (Nat.lt_succ_self g))
  clear hk HB13 HZ13 HX13 HR13 HO4_13 HW4_13 HO6_13 HO9_13
  obtain ⟨N10, hN, hNl⟩ : ∃ N : Nat, x10 = (N : Int) ∧ N ≤ 65535 := by have := HV10.out; exact ⟨x10.toNat, by omega, by omega⟩
  subst hN
  obtain ⟨X11, s11, hE⟩ : ∃ x t, rowS (textS bs 1) N10 s10 = (x, t) := ⟨_, _, rfl⟩
  have HP := Lib.hid (rrow_str1 W14 g (some ⟨b, off, none⟩) n cap bs s10 HR14.out N10 hNl (textS bs 1) (fun W s' hr _ => (name_any W g (some ⟨b, off, none⟩) n cap bs s' hr).mono fun e w' h => ⟨_, h.1, rfl, h.2.1, h.2.2⟩))
  rw [hE] at HP
  have HE11 := Lib.hid hE
  clear hE
  go_wp2_with fail
  refine HP.out.mono ?_
  rintro e' W15 ⟨v11, L11, rfl, ho, hx, hr, hk⟩
  simp only at hx
  subst hx
  obtain ⟨ra11, rc11, rfl, _, _⟩ := Sl.ofOwn ho
  have hgW : g + 1 ≤ W14.heap.size := HR14.out.lt
  have HO11_15 := Lib.hid (own_mono ho hgW)
  have HR15 := Lib.hid hr
  clear hr HP ho hgW
  have HB15 := Lib.hid (hk.below HB14.out (Nat.le_refl _) (by omega))
  have HZ15 := Lib.hid (hk.blk HZ14.out (by omega))
  have HX15 := Lib.hid (hk.blk HX14.out (by omega))
  have HO4_15 := Lib.hid (own_keep1 HO4_14.out hk (Nat.lt_succ_self g))
  have HW4_15 := Lib.hid (fun c hc => (HW4_14.out c hc).keep1 hk (Nat.lt_succ_self g))
  have HO6_15 := Lib.hid (own_keep1 HO6_14.out hk (Nat.lt_succ_self g))
  have HO9_15 := Lib.hid (own_keep1 HO9_14.out hk (Nat.lt_succ_self g))
  clear hk HB14 HZ14 HX14 HR14 HO4_14 HW4_14 HO6_14 HO9_14
  clear hNl
  have hkt := keptT_set HX15.out 4 (.slice ra11 L11.length rc11)
  have HX16 := Lib.hid (show (W15.setCell ⟨g + 1, 4, none⟩ (.slice ra11 L11.length rc11)).heap[g + 1]? = some (.cells #[.slice ra4 L4.length rc4, .slice ra6 L6.length rc6, .int .i64 x7, .slice ra9 L9.length rc9, .slice ra11 L11.length rc11, .slice none 0 0, .slice none 0 0, .int .i64 0] 30) from heap_set3 HX15.out 4 _)
  have HZ16 := Lib.hid (heap_other HZ15.out (show w.heap.size ≠ g + 1 by omega) 4 (.slice ra11 L11.length rc11))
  have HB16 := Lib.hid (HB15.out.setCell (p := ⟨g + 1, 4, none⟩) (show w.heap.size ≤ g + 1 by omega) (.slice ra11 L11.length rc11))
  have HR16 := Lib.hid (HR15.out.keptB hkt (by decide) HS.out HB16.out)
  have HO4_16 := Lib.hid (own_keptT HO4_15.out hkt (by decide))
  have HW4_16 := Lib.hid (fun c hc => (HW4_15.out c hc).keptT hkt (by decide))
  have HO6_16 := Lib.hid (own_keptT HO6_15.out hkt (by decide))
  have HO9_16 := Lib.hid (own_keptT HO9_15.out hkt (by decide))
  have HO11_16 := Lib.hid (own_keptT HO11_15.out hkt (by decide))
  have fr := row_melt HX15.out 4
  have lt := row_lt HX15.out
  have cc := row_cell HX15.out 4 rfl
  go_upto_region 12 with fail
  clear hkt fr lt cc HX15 HZ15 HB15 HR15 HO4_15 HW4_15 HO6_15 HO9_15 HO11_15
  generalize (W15.setCell ⟨g + 1, 4, none⟩ (.slice ra11 L11.length rc11)) = W16 at *
  obtain ⟨x12, s12, hE⟩ : ∃ x t, getS bs 2 s11 = (x, t) := ⟨_, _, rfl⟩
  have HP := Lib.hid (two_any W16 g (some ⟨b, off, none⟩) n cap bs s11 HR16.out)
  have HV12 := Lib.hid (getS_two bs 2 (by omega) s11)
  rw [hE] at HP HV12
  simp only at HP HV12
  have HE12 := Lib.hid hE
  clear hE
  go_wp2_with fail
  refine HP.out.mono ?_
  rintro e' W17 ⟨rfl, hr, hk⟩
  have HR17 := Lib.hid hr
  clear hr HP
  have HB17 := Lib.hid (hk.below HB16.out (Nat.le_refl _) (by omega))
  have HZ17 := Lib.hid (hk.blk HZ16.out (by omega))
  have HX17 := Lib.hid (hk.blk HX16.out (by omega))
  have HO4_17 := Lib.hid (own_keep1 HO4_16.out hk (Nat.lt_succ_self g))
  have HW4_17 := Lib.hid (fun c hc => (HW4_16.out c hc).keep1 hk (Nat.lt_succ_self g))
  have HO6_17 := Lib.hid (own_keep1 HO6_16.out hk (Nat.lt_succ_self g))
  have HO9_17 := Lib.hid (own_keep1 HO9_16.out hk (Nat.lt_succ_self g))
  have HO11_17 := Lib.hid (own_keep1 HO11_16.out hk (Nat.lt_succ_self g))
  clear hk HB16 HZ16 HX16 HR16 HO4_16 HW4_16 HO6_16 HO9_16 HO11_16
  obtain ⟨N12, hN, hNl⟩ : ∃ N : Nat, x12 = (N : Int) ∧ N ≤ 65535 := by have := HV12.out; exact ⟨x12.toNat, by omega, by omega⟩
  subst hN
  obtain ⟨X13, s13, hE⟩ : ∃ x t, rowS (textS bs 2) N12 s12 = (x, t) := ⟨_, _, rfl⟩
  have HP := Lib.hid (rrow_str2 W17 g (some ⟨b, off, none⟩) n cap bs s12 HR17.out N12 hNl (textS bs 2) (fun W s' hr _ => (long_any W g (some ⟨b, off, none⟩) n cap bs s' hr).mono fun e w' h => ⟨_, h.1, rfl, h.2.1, h.2.2⟩))
  rw [hE] at HP
  have HE13 := Lib.hid hE
  clear hE
  go_wp2_with fail
  refine HP.out.mono ?_
  rintro e' W18 ⟨v13, L13, rfl, ho, hx, hr, hk⟩
  simp only at hx
  subst hx
  obtain ⟨ra13, rc13, rfl, _, _⟩ := Sl.ofOwn ho
  have hgW : g + 1 ≤ W17.heap.size := HR17.out.lt
  have HO13_18 := Lib.hid (own_mono ho hgW)
  have HR18 := Lib.hid hr
  clear hr HP ho hgW
  have HB18 := Lib.hid (hk.below HB17.out (Nat.le_refl _) (by omega))
  have HZ18 := Lib.hid (hk.blk HZ17.out (by omega))
  have HX18 := Lib.hid (hk.blk HX17.out (by omega))
  have HO4_18 := Lib.hid (own_keep1 HO4_17.out hk (Nat.lt_succ_self g))
  have HW4_18 := Lib.hid (fun c hc => (HW4_17.out c hc).keep1 hk (Nat.lt_succ_self g))
  have HO6_18 := Lib.hid (own_keep1 HO6_17.out hk (Nat.lt_succ_self g))
  have HO9_18 := Lib.hid (own_keep1 HO9_17.out hk (Nat.lt_succ_self g))
  have HO11_18 := Lib.hid (own_keep1 HO11_17.out hk (Nat.lt_succ_self g))
  clear hk HB17 HZ17 HX17 HR17 HO4_17 HW4_17 HO6_17 HO9_17 HO11_17
  clear hNl
  have hkt := keptT_set HX18.out 5 (.slice ra13 L13.length rc13)
  have HX19 := Lib.hid (show (W18.setCell ⟨g + 1, 5, none⟩ (.slice ra13 L13.length rc13)).heap[g + 1]? = some (.cells #[.slice ra4 L4.length rc4, .slice ra6 L6.length rc6, .int .i64 x7, .slice ra9 L9.length rc9, .slice ra11 L11.length rc11, .slice ra13 L13.length rc13, .slice none 0 0, .int .i64 0] 30) from heap_set3 HX18.out 5 _)
  have HZ19 := Lib.hid (heap_other HZ18.out (show w.heap.size ≠ g + 1 by omega) 5 (.slice ra13 L13.length rc13))
  have HB19 := Lib.hid (HB18.out.setCell (p := ⟨g + 1, 5, none⟩) (show w.heap.size ≤ g + 1 by omega) (.slice ra13 L13.length rc13))
  have HR19 := Lib.hid (HR18.out.keptB hkt (by decide) HS.out HB19.out)
  have HO4_19 := Lib.hid (own_keptT HO4_18.out hkt (by decide))
  have HW4_19 := Lib.hid (fun c hc => (HW4_18.out c hc).keptT hkt (by decide))
  have HO6_19 := Lib.hid (own_keptT HO6_18.out hkt (by decide))
  have HO9_19 := Lib.hid (own_keptT HO9_18.out hkt (by decide))
  have HO11_19 := Lib.hid (own_keptT HO11_18.out hkt (by decide))
  have HO13_19 := Lib.hid (own_keptT HO13_18.out hkt (by decide))
  have fr := row_melt HX18.out 5
  have lt := row_lt HX18.out
  have cc := row_cell HX18.out 5 rfl
  go_upto_region 13 with fail
  clear hkt fr lt cc HX18 HZ18 HB18 HR18 HO4_18 HW4_18 HO6_18 HO9_18 HO11_18 HO13_18
  generalize (W18.setCell ⟨g + 1, 5, none⟩ (.slice ra13 L13.length rc13)) = W19 at *
  obtain ⟨x14, s14, hE⟩ : ∃ x t, getS bs 2 s13 = (x, t) := ⟨_, _, rfl⟩
  have HP := Lib.hid (two_any W19 g (some ⟨b, off, none⟩) n cap bs s13 HR19.out)
  have HV14 := Lib.hid (getS_two bs 2 (by omega) s13)
  rw [hE] at HP HV14
  simp only at HP HV14
  have HE14 := Lib.hid hE
  clear hE
  go_wp2_with fail
  refine HP.out.mono ?_
  rintro e' W20 ⟨rfl, hr, hk⟩
  have HR20 := Lib.hid hr
  clear hr HP
  have HB20 := Lib.hid (hk.below HB19.out (Nat.le_refl _) (by omega))
  have HZ20 := Lib.hid (hk.blk HZ19.out (by omega))
  have HX20 := Lib.hid (hk.blk HX19.out (by omega))
  have HO4_20 := Lib.hid (own_keep1 HO4_19.out hk (Nat.lt_succ_self g))
  have HW4_20 := Lib.hid (fun c hc => (HW4_19.out c hc).keep1 hk (Nat.lt_succ_self g))
  have HO6_20 := Lib.hid (own_keep1 HO6_19.out hk (Nat.lt_succ_self g))
  have HO9_20 := Lib.hid (own_keep1 HO9_19.out hk (Nat.lt_succ_self g))
  have HO11_20 := Lib.hid (own_keep1 HO11_19.out hk (Nat.lt_succ_self g))
  have HO13_20 := Lib.hid (own_keep1 HO13_19.out hk (Nat.lt_succ_self g))
  clear hk HB19 HZ19 HX19 HR19 HO4_19 HW4_19 HO6_19 HO9_19 HO11_19 HO13_19
  have hkt := keptT_set HX20.out 7 (.int .i64 x14)
  have HX21 := Lib.hid (show (W20.setCell ⟨g + 1, 7, none⟩ (.int .i64 x14)).heap[g + 1]? = some (.cells #[.slice ra4 L4.length rc4, .slice ra6 L6.length rc6, .int .i64 x7, .slice ra9 L9.length rc9, .slice ra11 L11.length rc11, .slice ra13 L13.length rc13, .slice none 0 0, .int .i64 x14] 30) from heap_set3 HX20.out 7 _)
  have HZ21 := Lib.hid (heap_other HZ20.out (show w.heap.size ≠ g + 1 by omega) 7 (.int .i64 x14))
  have HB21 := Lib.hid (HB20.out.setCell (p := ⟨g + 1, 7, none⟩) (show w.heap.size ≤ g + 1 by omega) (.int .i64 x14))
  have HR21 := Lib.hid (HR20.out.keptB hkt (by decide) HS.out HB21.out)
  have HO4_21 := Lib.hid (own_keptT HO4_20.out hkt (by decide))
  have HW4_21 := Lib.hid (fun c hc => (HW4_20.out c hc).keptT hkt (by decide))
  have HO6_21 := Lib.hid (own_keptT HO6_20.out hkt (by decide))
  have HO9_21 := Lib.hid (own_keptT HO9_20.out hkt (by decide))
  have HO11_21 := Lib.hid (own_keptT HO11_20.out hkt (by decide))
  have HO13_21 := Lib.hid (own_keptT HO13_20.out hkt (by decide))
  have fr := row_melt HX20.out 7
  have lt := row_lt HX20.out
  have cc := row_cell HX20.out 7 rfl
  go_upto_region 14 with fail
  clear hkt fr lt cc HX20 HZ20 HB20 HR20 HO4_20 HW4_20 HO6_20 HO9_20 HO11_20 HO13_20
  generalize (W20.setCell ⟨g + 1, 7, none⟩ (.int .i64 x14)) = W21 at *
  have cm := row_cell HX21.out 1 rfl
  obtain ⟨X15, s15, hE⟩ : ∃ x t, rowS (codeS bs) L6.length s14 = (x, t) := ⟨_, _, rfl⟩
  have HKS := Lib.hid (show ∀ k ∈ X15, k.sm by have h := rowS_all (codeS bs) KP.sm (codeS_sm bs) L6.length s14; rw [hE] at h; exact h)
  have HLE15 := Lib.hid (show X15.length ≤ L6.length by have h := rowS_len (codeS bs) L6.length s14; rw [hE] at h; exact h)
  have HP := Lib.hid (rrow_code W21 g (some ⟨b, off, none⟩) n cap bs s14 HR21.out L6.length hml (codeS bs) (fun W s' hr _ => rcode_any W g (some ⟨b, off, none⟩) n cap bs s' hr))
  rw [hE] at HP
  have HE15 := Lib.hid hE
  clear hE
  go_wp2_with fail
  refine HP.out.mono ?_
  rintro e' W22 ⟨v15, L15, rfl, ho, hw, hx, hr, hk⟩
  simp only at hx
  subst hx
  obtain ⟨ra15, rc15, rfl, _, _⟩ := Ss.ofOwn KW.vals_len (by decide) ho
  have hgW : g + 1 ≤ W21.heap.size := HR21.out.lt
  have HO15_22 := Lib.hid (own_mono ho hgW)
  have HW15_22 := Lib.hid (fun c hc => (hw c hc).mono hgW)
  have HR22 := Lib.hid hr
  clear hr HP ho hgW hw
  have HB22 := Lib.hid (hk.below HB21.out (Nat.le_refl _) (by omega))
  have HZ22 := Lib.hid (hk.blk HZ21.out (by omega))
  have HX22 := Lib.hid (hk.blk HX21.out (by omega))
  have HO4_22 := Lib.hid (own_keep1 HO4_21.out hk (Nat.lt_succ_self g))
  have HW4_22 := Lib.hid (fun c hc => (HW4_21.out c hc).keep1 hk (Nat.lt_succ_self g))
  have HO6_22 := Lib.hid (own_keep1 HO6_21.out hk (Nat.lt_succ_self g))
  have HO9_22 := Lib.hid (own_keep1 HO9_21.out hk (Nat.lt_succ_self g))
  have HO11_22 := Lib.hid (own_keep1 HO11_21.out hk (Nat.lt_succ_self g))
  have HO13_22 := Lib.hid (own_keep1 HO13_21.out hk (Nat.lt_succ_self g))
  clear hk HB21 HZ21 HX21 HR21 HO4_21 HW4_21 HO6_21 HO9_21 HO11_21 HO13_21
  clear cm
  have hkt := keptT_set HX22.out 6 (.slice ra15 L15.length rc15)
  have HX23 := Lib.hid (show (W22.setCell ⟨g + 1, 6, none⟩ (.slice ra15 L15.length rc15)).heap[g + 1]? = some (.cells #[.slice ra4 L4.length rc4, .slice ra6 L6.length rc6, .int .i64 x7, .slice ra9 L9.length rc9, .slice ra11 L11.length rc11, .slice ra13 L13.length rc13, .slice ra15 L15.length rc15, .int .i64 x14] 30) from heap_set3 HX22.out 6 _)
  have HZ23 := Lib.hid (heap_other HZ22.out (show w.heap.size ≠ g + 1 by omega) 6 (.slice ra15 L15.length rc15))
  have HB23 := Lib.hid (HB22.out.setCell (p := ⟨g + 1, 6, none⟩) (show w.heap.size ≤ g + 1 by omega) (.slice ra15 L15.length rc15))
  have HR23 := Lib.hid (HR22.out.keptB hkt (by decide) HS.out HB23.out)
  have HO4_23 := Lib.hid (own_keptT HO4_22.out hkt (by decide))
  have HW4_23 := Lib.hid (fun c hc => (HW4_22.out c hc).keptT hkt (by decide))
  have HO6_23 := Lib.hid (own_keptT HO6_22.out hkt (by decide))
  have HO9_23 := Lib.hid (own_keptT HO9_22.out hkt (by decide))
  have HO11_23 := Lib.hid (own_keptT HO11_22.out hkt (by decide))
  have HO13_23 := Lib.hid (own_keptT HO13_22.out hkt (by decide))
  have HO15_23 := Lib.hid (own_keptT HO15_22.out hkt (by decide))
  have HW15_23 := Lib.hid (fun c hc => (HW15_22.out c hc).keptT hkt (by decide))
  have fr := row_melt HX22.out 6
  have lt := row_lt HX22.out
  have cc := row_cell HX22.out 6 rfl
  go_upto_region 15 with fail
  clear hkt fr lt cc HX22 HZ22 HB22 HR22 HO4_22 HW4_22 HO6_22 HO9_22 HO11_22 HO13_22 HO15_22 HW15_22
  generalize (W22.setCell ⟨g + 1, 6, none⟩ (.slice ra15 L15.length rc15)) = W23 at *
  have SEQ := Lib.hid (show imageS bs s2 = (⟨L4.map CW.p, L6, x7, L9, L11, L13, L15.map KW.p, x14⟩, s15) by simp only [imageS, bindR, pureR, manyS, Int.toNat_natCast, HE3.out, HE4.out, HE5.out, HE6.out, HE7.out, HE8.out, HE9.out, HE10.out, HE11.out, HE12.out, HE13.out, HE14.out, HE15.out])
  rw [SEQ.out] at HRP
  simp only at HRP
  clear SEQ HE3 HE4 HE5 HE6 HE7 HE8 HE9 HE10 HE11 HE12 HE13 HE14 HE15
  obtain ⟨p, er⟩ := s15
  simp only at HRP
  by_cases h0 : er = 0
  case neg =>
    have HQ := Lib.hid (show R = (xp0, er) by rw [HRP.out, if_pos h0])
    have ee : (er == 0) = false := by simp [h0]
    have en : (er != 0) = true := by simp [h0]
    have HGk := Lib.hid (show Blk3 W23 g (.slice (some ⟨b, off, none⟩) n cap) (.int .i64 (p : Nat)) (.int .i64 er) 79 from HR23.out.k)
    have HZk := HZ23
    have HBk := HB23
    clear HRP h0 HZ23 HB23 HR23 HX23 HO4_23 HW4_23 HO6_23 HO9_23 HO11_23 HO13_23 HO15_23 HW15_23
    obtain ⟨k0, k1, k2, m0, m1, m2, lg⟩ := HGk.out.box
    go_quiet (fail)
    replace HGk := Lib.hid (HGk.out.below (bdrewN (Below.refl W23.heap.size W23) nq))
    replace HZk := Lib.hid (row_below HZk.out (bdrewN (Below.refl W23.heap.size W23) nq))
    replace HBk := Lib.hid (bdrewN HBk.out nq)
    clear k0 k1 k2 m0 m1 m2 lg
    generalize W23.drewN nq = Wk at *
    obtain ⟨k0, k1, k2, m0, m1, m2, lg⟩ := HGk.out.box
    go_upto_region 18 with fail
    clear k0 k1 k2 m0 m1 m2 lg
    have hSw : ErS g er Wk.drew := HGk.out.box.c2
    have l2 := fun z (h : ErS g er z) => (show z.cell? ⟨g, 2, none⟩ = some (.int .i64 er) from h)
    have HZd := Lib.hid (row_below HZk.out (Below.refl _ _).drew)
    have HBd := Lib.hid HBk.out.drew
    clear HZk HBk HGk
    refine wp_region_lexS (ErS g er) (.of [(0, true), (1, true), (2, true), (3, true), (4, true), (5, false)] (.stir [(6, true)])) (by kernel_rfl) (by kernel_rfl) (fun c a d v w h => by cases d <;> exact h) ?_
    generalize Wk.drew = Wd at *
    iterate 5
      refine lexS_step (fun K hK => ?_)
      simp only [lexOp, List.getElem?_toArray, List.getElem?_cons_succ, List.getElem?_cons_zero]
      rw [if_pos (by rfl)]
      apply Exists.intro
      refine ⟨fun w' hS' => ?_, hSw, ?_⟩
      · first | (go_simp <;> with_reducible rfl) | (go_simp; go_bits; with_reducible rfl)
      go_simp
      try go_bits
      refine hK _ _ ?_
      clear hK K
    have z0 := row_cell HZd.out 0 rfl
    have z1 := row_cell HZd.out 1 rfl
    have z2 := row_cell HZd.out 2 rfl
    have z3 := row_cell HZd.out 3 rfl
    have z4 := row_cell HZd.out 4 rfl
    have z5 := row_cell HZd.out 5 rfl
    have z6 := row_cell HZd.out 6 rfl
    have z7 := row_cell HZd.out 7 rfl
    have f0 := row_melt HZd.out 0
    have f1 := row_melt HZd.out 1
    have f2 := row_melt HZd.out 2
    have f3 := row_melt HZd.out 3
    have f4 := row_melt HZd.out 4
    have f5 := row_melt HZd.out 5
    have f6 := row_melt HZd.out 6
    have f7 := row_melt HZd.out 7
    have ltz := row_lt HZd.out
    refine lexS_step (fun K hK => ?_)
    simp only [lexOp, List.getElem?_toArray, List.getElem?_cons_succ, List.getElem?_cons_zero]
    rw [if_pos (by rfl)]
    go_step
    change ErS g er (keep8 w.heap.size Wd _ _ _ _ _ _ _ _) ∧ K _ (keep8 w.heap.size Wd _ _ _ _ _ _ _ _)
    have HBf := Lib.hid (keep8_below HBd.out (Nat.le_refl _) (.slice none 0 0) (.slice none 0 0) (.int .i64 0) (.slice none 0 0) (.slice none 0 0) (.slice none 0 0) (.slice none 0 0) (.int .i64 0))
    have HZf := Lib.hid (keep8_heap (a := .slice none 0 0) (b := .slice none 0 0) (c := .int .i64 0) (d := .slice none 0 0) (e := .slice none 0 0) (f := .slice none 0 0) (h := .slice none 0 0) (i := .int .i64 0) HZd.out)
    have hSf : ErS g er (keep8 w.heap.size Wd (.slice none 0 0) (.slice none 0 0) (.int .i64 0) (.slice none 0 0) (.slice none 0 0) (.slice none 0 0) (.slice none 0 0) (.int .i64 0)) := keep8_cell (by omega) hSw
    refine ⟨hSf, hK _ _ ?_⟩
    clear hK K z0 z1 z2 z3 z4 z5 z6 z7 f0 f1 f2 f3 f4 f5 f6 f7 ltz HZd HBd hSw
    generalize keep8 w.heap.size Wd (.slice none 0 0) (.slice none 0 0) (.int .i64 0) (.slice none 0 0) (.slice none 0 0) (.slice none 0 0) (.slice none 0 0) (.int .i64 0) = Wf at *
    refine lexS_stir (fun y => y = Wf) (fun y hy => hy ▸ hSf) rfl ?_
    iterate 1
      refine stir_step (fun K hK => ?_)
      simp only [stirOp, List.getElem?_toArray, List.getElem?_cons_succ, List.getElem?_cons_zero]
      rw [if_pos (by rfl)]
      apply Exists.intro
      refine ⟨fun w' hS' => ?_, ?_⟩
      · first | (go_simp <;> with_reducible rfl) | (go_simp; go_bits; with_reducible rfl)
      go_simp
      try go_bits
      refine hK _ ?_
      clear hK K
    refine stir_nil (fun y hy => ?_)
    obtain rfl : Wf = y := hy.symm
    go_wp2_with fail
    refine bodyPost_ret (results_cell_row_tmp rfl _ _ w.heap.size _ _ _ _ rfl HZf.out Try.underlying30 rfl infoImg) rfl ?_
    change ParseRet R w (.returned (.tuple #[.agg zImg, .int .i64 er])) _
    exact ParseRet.err HQ.out HBf.out
  subst h0
  have HRP2 := Lib.hid (show R = if laidP (L15.map KW.p) (p : Nat) bs.length = false then (xp0, 8) else (⟨L4.map CW.p, L6, x7, L9, L11, L13, L15.map KW.p, x14⟩, 0) by rw [HRP.out, if_neg (by simp)])
  clear HRP
  have hpn : p ≤ n := HR23.out.ok.1 rfl
  have HKL := Lib.hid (show L15.length ≤ 65535 by have h1 := HLE15.out; rw [List.length_map] at h1; omega)
  have HSK := Lib.hid (show Ss 6 KW.vals W23 ra15 L15.length L15 by obtain ⟨a', k', e', h', _⟩ := Ss.ofOwn KW.vals_len (by decide) HO15_23.out; simp only [Value.slice.injEq] at e'; obtain ⟨rfl, _, rfl⟩ := e'; exact h')
  have HLD := Lib.hid (fun (W : World) (h : Below W23.heap.size W23 W) => laid_any W ra15 L15.length rc15 L15 (HSK.out.below h) (fun k hk => HKS.out k.p (List.mem_map_of_mem hk)) (p : Nat) (n : Nat) HKL.out (by omega) (by omega) (by unfold IntR; omega))
  rw [HLn.out] at HRP2
  generalize laidP (L15.map KW.p) (p : Nat) (n : Nat) = ld at *
  have hSw : EndS g (g + 1) p (.slice ra15 L15.length rc15) W23.drew := ⟨HR23.out.k.box.c2, row_cell HX23.out 6 rfl, HR23.out.k.box.c1⟩
  have l2 := fun z (h : EndS g (g + 1) p (.slice ra15 L15.length rc15) z) => h.1
  have l6 := fun z (h : EndS g (g + 1) p (.slice ra15 L15.length rc15) z) => h.2.1
  have l1 := fun z (h : EndS g (g + 1) p (.slice ra15 L15.length rc15) z) => h.2.2
  have hd : Below W23.heap.size W23 W23.drew := (Below.refl _ _).drew
  refine wp_region_lexS (EndS g (g + 1) p (.slice ra15 L15.length rc15)) (.of [(0, true), (1, true), (2, true), (3, true), (4, true), (5, true), (6, true), (7, true), (8, true), (9, true), (10, true), (11, true), (12, true), (13, true), (14, false)] (.stir [(15, true), (16, true)])) (by kernel_rfl) (by kernel_rfl) (fun c a d v w h => by cases d <;> exact h) ?_
  iterate 14
    refine lexS_step (fun K hK => ?_)
    simp only [lexOp, List.getElem?_toArray, List.getElem?_cons_succ, List.getElem?_cons_zero]
    rw [if_pos (by rfl)]
    apply Exists.intro
    refine ⟨fun w' hS' => ?_, hSw, ?_⟩
    · first | (go_simp <;> with_reducible rfl) | (go_simp; go_bits; with_reducible rfl)
    go_simp
    try go_bits
    refine hK _ _ ?_
    clear hK K
  refine lexS_step (fun K hK => ?_)
  simp only [lexOp, List.getElem?_toArray, List.getElem?_cons_succ, List.getElem?_cons_zero]
  rw [if_pos (by rfl)]
  go_step
  refine (HLD.out W23.drew hd).mono ?_
  rintro e' Wk ⟨rfl, hbk⟩
  have hb2 : Below W23.heap.size W23 Wk := hd.trans hbk
  replace hSw : EndS g (g + 1) p (.slice ra15 L15.length rc15) Wk := ⟨cellS_below hb2 HR23.out.k.box.c2, cellS_below hb2 (row_cell HX23.out 6 rfl), cellS_below hb2 HR23.out.k.box.c1⟩
  have HGk := Lib.hid (show Blk3 Wk g (.slice (some ⟨b, off, none⟩) n cap) (.int .i64 (p : Nat)) (.int .i64 0) 79 from HR23.out.k.below hb2)
  have HZk := Lib.hid (row_below HZ23.out hb2)
  have HXk := Lib.hid (row_below HX23.out hb2)
  have HBk := Lib.hid (HB23.out.trans (hb2.mono HB23.out.size))
  have HO4_k := Lib.hid (own_below HO4_23.out hb2)
  have HW4_k := Lib.hid (fun c hc => (HW4_23.out c hc).below hb2)
  have HO6_k := Lib.hid (own_below HO6_23.out hb2)
  have HO9_k := Lib.hid (own_below HO9_23.out hb2)
  have HO11_k := Lib.hid (own_below HO11_23.out hb2)
  have HO13_k := Lib.hid (own_below HO13_23.out hb2)
  have HO15_k := Lib.hid (own_below HO15_23.out hb2)
  have HW15_k := Lib.hid (fun c hc => (HW15_23.out c hc).below hb2)
  refine ⟨hSw, ?_⟩
  go_simp
  refine hK _ _ ?_
  clear hK K hbk hb2 hd HLD HSK HZ23 HB23 HR23 HX23 HO4_23 HW4_23 HO6_23 HO9_23 HO11_23 HO13_23 HO15_23 HW15_23
  refine lexS_stir (fun y => y = Wk) (fun y hy => hy ▸ hSw) rfl ?_
  iterate 2
    refine stir_step (fun K hK => ?_)
    simp only [stirOp, List.getElem?_toArray, List.getElem?_cons_succ, List.getElem?_cons_zero]
    rw [if_pos (by rfl)]
    apply Exists.intro
    refine ⟨fun w' hS' => ?_, ?_⟩
    · first | (go_simp <;> with_reducible rfl) | (go_simp; go_bits; with_reducible rfl)
    go_simp
    try go_bits
    refine hK _ ?_
    clear hK K
  refine stir_nil (fun y hy => ?_)
  obtain rfl : Wk = y := hy.symm
  clear l2 l6 l1 hSw hy
  obtain ⟨k0, k1, k2, m0, m1, m2, lg⟩ := HGk.out.box
  cases ld with
  | false =>
    have HQ := Lib.hid (show R = (xp0, 8) by rw [HRP2.out, if_pos rfl])
    go_upto_region 18 with fail
    replace HGk := Lib.hid (show Blk3 (Wk.setCell ⟨g, 2, none⟩ (.int .i64 8)) g (.slice (some ⟨b, off, none⟩) n cap) (.int .i64 (p : Nat)) (.int .i64 8) 79 from HGk.out.set2)
    replace HZk := Lib.hid (heap_other HZk.out (show w.heap.size ≠ g by omega) 2 (.int .i64 8))
    replace HBk := Lib.hid (HBk.out.setCell (p := ⟨g, 2, none⟩) (show w.heap.size ≤ g by omega) (.int .i64 8))
    clear k0 k1 k2 m0 m1 m2 lg HRP2 HXk HO4_k HW4_k HO6_k HO9_k HO11_k HO13_k HO15_k HW15_k
    generalize Wk.setCell ⟨g, 2, none⟩ (.int .i64 8) = We at *
    have hSw : ErS g 8 We.drew := HGk.out.box.c2
    have l2 := fun z (h : ErS g 8 z) => (show z.cell? ⟨g, 2, none⟩ = some (.int .i64 8) from h)
    have HZd := Lib.hid (row_below HZk.out (Below.refl _ _).drew)
    have HBd := Lib.hid HBk.out.drew
    clear HZk HBk HGk
    refine wp_region_lexS (ErS g 8) (.of [(0, true), (1, true), (2, true), (3, true), (4, true), (5, false)] (.stir [(6, true)])) (by kernel_rfl) (by kernel_rfl) (fun c a d v w h => by cases d <;> exact h) ?_
    generalize We.drew = Wd at *
    iterate 5
      refine lexS_step (fun K hK => ?_)
      simp only [lexOp, List.getElem?_toArray, List.getElem?_cons_succ, List.getElem?_cons_zero]
      rw [if_pos (by rfl)]
      apply Exists.intro
      refine ⟨fun w' hS' => ?_, hSw, ?_⟩
      · first | (go_simp <;> with_reducible rfl) | (go_simp; go_bits; with_reducible rfl)
      go_simp
      try go_bits
      refine hK _ _ ?_
      clear hK K
    have z0 := row_cell HZd.out 0 rfl
    have z1 := row_cell HZd.out 1 rfl
    have z2 := row_cell HZd.out 2 rfl
    have z3 := row_cell HZd.out 3 rfl
    have z4 := row_cell HZd.out 4 rfl
    have z5 := row_cell HZd.out 5 rfl
    have z6 := row_cell HZd.out 6 rfl
    have z7 := row_cell HZd.out 7 rfl
    have f0 := row_melt HZd.out 0
    have f1 := row_melt HZd.out 1
    have f2 := row_melt HZd.out 2
    have f3 := row_melt HZd.out 3
    have f4 := row_melt HZd.out 4
    have f5 := row_melt HZd.out 5
    have f6 := row_melt HZd.out 6
    have f7 := row_melt HZd.out 7
    have ltz := row_lt HZd.out
    refine lexS_step (fun K hK => ?_)
    simp only [lexOp, List.getElem?_toArray, List.getElem?_cons_succ, List.getElem?_cons_zero]
    rw [if_pos (by rfl)]
    go_step
    change ErS g 8 (keep8 w.heap.size Wd _ _ _ _ _ _ _ _) ∧ K _ (keep8 w.heap.size Wd _ _ _ _ _ _ _ _)
    have HBf := Lib.hid (keep8_below HBd.out (Nat.le_refl _) (.slice none 0 0) (.slice none 0 0) (.int .i64 0) (.slice none 0 0) (.slice none 0 0) (.slice none 0 0) (.slice none 0 0) (.int .i64 0))
    have HZf := Lib.hid (keep8_heap (a := .slice none 0 0) (b := .slice none 0 0) (c := .int .i64 0) (d := .slice none 0 0) (e := .slice none 0 0) (f := .slice none 0 0) (h := .slice none 0 0) (i := .int .i64 0) HZd.out)
    have hSf : ErS g 8 (keep8 w.heap.size Wd (.slice none 0 0) (.slice none 0 0) (.int .i64 0) (.slice none 0 0) (.slice none 0 0) (.slice none 0 0) (.slice none 0 0) (.int .i64 0)) := keep8_cell (by omega) hSw
    refine ⟨hSf, hK _ _ ?_⟩
    clear hK K z0 z1 z2 z3 z4 z5 z6 z7 f0 f1 f2 f3 f4 f5 f6 f7 ltz HZd HBd hSw
    generalize keep8 w.heap.size Wd (.slice none 0 0) (.slice none 0 0) (.int .i64 0) (.slice none 0 0) (.slice none 0 0) (.slice none 0 0) (.slice none 0 0) (.int .i64 0) = Wf at *
    refine lexS_stir (fun y => y = Wf) (fun y hy => hy ▸ hSf) rfl ?_
    iterate 1
      refine stir_step (fun K hK => ?_)
      simp only [stirOp, List.getElem?_toArray, List.getElem?_cons_succ, List.getElem?_cons_zero]
      rw [if_pos (by rfl)]
      apply Exists.intro
      refine ⟨fun w' hS' => ?_, ?_⟩
      · first | (go_simp <;> with_reducible rfl) | (go_simp; go_bits; with_reducible rfl)
      go_simp
      try go_bits
      refine hK _ ?_
      clear hK K
    refine stir_nil (fun y hy => ?_)
    obtain rfl : Wf = y := hy.symm
    go_wp2_with fail
    refine bodyPost_ret (results_cell_row_tmp rfl _ _ w.heap.size _ _ _ _ rfl HZf.out Try.underlying30 rfl infoImg) rfl ?_
    change ParseRet R w (.returned (.tuple #[.agg zImg, .int .i64 8])) _
    exact ParseRet.err HQ.out HBf.out
  | true =>
    have HQ := Lib.hid (show R = (⟨L4.map CW.p, L6, x7, L9, L11, L13, L15.map KW.p, x14⟩, 0) by rw [HRP2.out, if_neg (by decide)])
    clear HRP2
    have z0 := row_cell HZk.out 0 rfl
    have z1 := row_cell HZk.out 1 rfl
    have z2 := row_cell HZk.out 2 rfl
    have z3 := row_cell HZk.out 3 rfl
    have z4 := row_cell HZk.out 4 rfl
    have z5 := row_cell HZk.out 5 rfl
    have z6 := row_cell HZk.out 6 rfl
    have z7 := row_cell HZk.out 7 rfl
    have f0 := row_melt HZk.out 0
    have f1 := row_melt HZk.out 1
    have f2 := row_melt HZk.out 2
    have f3 := row_melt HZk.out 3
    have f4 := row_melt HZk.out 4
    have f5 := row_melt HZk.out 5
    have f6 := row_melt HZk.out 6
    have f7 := row_melt HZk.out 7
    have ltz := row_lt HZk.out
    have y0 := row_cell HXk.out 0 rfl
    have y1 := row_cell HXk.out 1 rfl
    have y2 := row_cell HXk.out 2 rfl
    have y3 := row_cell HXk.out 3 rfl
    have y4 := row_cell HXk.out 4 rfl
    have y5 := row_cell HXk.out 5 rfl
    have y6 := row_cell HXk.out 6 rfl
    have y7 := row_cell HXk.out 7 rfl
    go_wp2_with fail
    change bodyPost _ _ _ _ _ (keep8 w.heap.size Wk _ _ _ _ _ _ _ _)
    have hk8 := keep8_kept (a := .slice ra4 L4.length rc4) (b := .slice ra6 L6.length rc6) (c := .int .i64 x7) (d := .slice ra9 L9.length rc9) (e := .slice ra11 L11.length rc11) (f := .slice ra13 L13.length rc13) (h := .slice ra15 L15.length rc15) (i := .int .i64 x14) HZk.out
    refine bodyPost_ret (results_cell_row_tmp rfl _ _ w.heap.size _ _ _ _ rfl (keep8_heap HZk.out) Try.underlying30 rfl infoImg) rfl ?_
    exact ⟨⟨ra4, L4.length, rc4, L4, ra6, L6.length, rc6, L6, x7, ra9, L9.length, rc9, L9, ra11, L11.length, rc11, L11, ra13, L13.length, rc13, L13, ra15, L15.length, rc15, L15, x14⟩, by rw [HQ.out]; rfl, by rw [HQ.out]; rfl, ⟨(by obtain ⟨a', k', e', h', _⟩ := Ss.ofOwn CW.vals_len (by decide) (own_keptT HO4_k.out hk8 (by decide)); simp only [Value.slice.injEq] at e'; obtain ⟨rfl, _, rfl⟩ := e'; exact h'), fun c hc => ((HW4_k.out c hc).keptT hk8 (by decide)).rd, (by obtain ⟨a', k', e', h', _⟩ := Ss.ofOwn MW.vals_len (by decide) (own_keptT HO6_k.out hk8 (by decide)); simp only [Value.slice.injEq] at e'; obtain ⟨rfl, _, rfl⟩ := e'; exact h'), (by obtain ⟨a', k', e', h', _⟩ := Sl.ofOwn (own_keptT HO9_k.out hk8 (by decide)); simp only [Value.slice.injEq] at e'; obtain ⟨rfl, _, rfl⟩ := e'; exact h'), (by obtain ⟨a', k', e', h', _⟩ := Sl.ofOwn (own_keptT HO11_k.out hk8 (by decide)); simp only [Value.slice.injEq] at e'; obtain ⟨rfl, _, rfl⟩ := e'; exact h'), (by obtain ⟨a', k', e', h', _⟩ := Sl.ofOwn (own_keptT HO13_k.out hk8 (by decide)); simp only [Value.slice.injEq] at e'; obtain ⟨rfl, _, rfl⟩ := e'; exact h'), (by obtain ⟨a', k', e', h', _⟩ := Ss.ofOwn KW.vals_len (by decide) (own_keptT HO15_k.out hk8 (by decide)); simp only [Value.slice.injEq] at e'; obtain ⟨rfl, _, rfl⟩ := e'; exact h'), fun c hc => ((HW15_k.out c hc).keptT hk8 (by decide)).rd⟩, keep8_below HBk.out (Nat.le_refl _) _ _ _ _ _ _ _ _⟩
end Go.Proofs.Ytbcldlbmbdfejaa
