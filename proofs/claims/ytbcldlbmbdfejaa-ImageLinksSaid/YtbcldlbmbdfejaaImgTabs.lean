/- image: the writer's tables. No condition. -/
import Derived.Test.YtbcldlbmbdfejaaImgTab
namespace Go.Proofs.Ytbcldlbmbdfejaa
open Go.ChangeShapes Go.WideShapes Go.ChangeAt Go.RowKit
/-- An image, as it is laid. -/
structure XW where
  ca : Option Addr
  cn : Nat
  cc : Nat
  cs : List CW
  ma : Option Addr
  mn : Nat
  mc : Nat
  ms : List MW
  st : Int
  sa : Option Addr
  sn : Nat
  sc : Nat
  ss : List Int
  ya : Option Addr
  yn : Nat
  yc : Nat
  ys : List (List UInt8)
  xa : Option Addr
  xn : Nat
  xc : Nat
  xs : List (List UInt8)
  ka : Option Addr
  kn : Nat
  kc : Nat
  ks : List KW
  main : Int
def XW.vals (x : XW) : Array Value := #[.slice x.ca x.cn x.cc, .slice x.ma x.mn x.mc, .int .i64 x.st, .slice x.sa x.sn x.sc, .slice x.ya x.yn x.yc, .slice x.xa x.xn x.xc, .slice x.ka x.kn x.kc, .int .i64 x.main]
structure XW.Rd (w : World) (x : XW) : Prop where
  c : Ss 5 CW.vals w x.ca x.cn x.cs
  cr : ∀ c ∈ x.cs, c.Rd w
  m : Ss 6 MW.vals w x.ma x.mn x.ms
  s : Sl encZ w x.sa x.sn x.ss
  y : Sl encS w x.ya x.yn x.ys
  tx : Sl encS w x.xa x.xn x.xs
  k : Ss 6 KW.vals w x.ka x.kn x.ks
  kr : ∀ k ∈ x.ks, k.Rd w
structure XW.Right (x : XW) : Prop where
  st : IntR x.st
  main : IntR x.main
  c : ∀ c ∈ x.cs, c.right
  m : ∀ m ∈ x.ms, m.right
  s : ∀ v ∈ x.ss, IntR v
  k : ∀ k ∈ x.ks, k.right
  cn : x.cn ≤ 9223372036854775807
  mn : x.mn ≤ 9223372036854775807
  yn : x.yn ≤ 9223372036854775807
  xn : x.xn ≤ 9223372036854775807
def magicB : List UInt8 := [67, 73, 48, 49]
def tabB (x : XW) : List UInt8 := magicB ++ rowB CW.bytes x.cs ++ rowB MW.bytes x.ms ++ putB (u64V x.st) 2 ++ intsB x.ss ++ rowB (fun s => textB s 1) x.ys ++ rowB (fun s => textB s 2) x.xs ++ putB (u64V x.main) 2
def tabO (x : XW) : Bool := rowO CW.odd x.cs || rowO MW.odd x.ms || !roomB x.st 2 || intsO x.ss || rowO (fun s => !roomB s.length 1) x.ys || rowO (fun s => !roomB s.length 2) x.xs || !roomB x.main 2
theorem Off1.oldS {α : Type} {z : Nat} {enc : α → List Value} {w : World} {x : Option Addr} {n g : Nat} {xs : List α} (h : Ss z enc w x n xs) (hg : w.heap.size ≤ g) : Off1 x n g := by
  intro hn b off hx
  obtain ⟨b', off', hx', hlt, _⟩ := h.2 hn
  rw [hx] at hx'
  simp only [Option.some.injEq, Addr.mk.injEq] at hx'
  omega
theorem Keep1.cell {g k o : Nat} {w w' : World} (h : Keep1 g w w') (hk : k < w.heap.size) (hne : k ≠ g) : w'.cell? ⟨k, o, none⟩ = w.cell? ⟨k, o, none⟩ := by
  unfold World.cell?
  rw [h.block k hk hne]
theorem CW.Rd.below {w w' : World} {c : CW} (h : c.Rd w) (hb : Below w.heap.size w w') : c.Rd w' := ⟨h.r.below hb, h.t.below hb, h.rc, h.tc⟩
theorem CW.Rd.keep1 {g : Nat} {w w' : World} {c : CW} (h : c.Rd w) (k : Keep1 g w w') (o1 : Off1 c.ra c.rn g) (o2 : Off1 c.ta c.tn g) : c.Rd w' := ⟨h.r.keep1 k o1, h.t.keep1 k o2, h.rc, h.tc⟩
set_option maxRecDepth 100000 in
set_option maxHeartbeats 4000000 in
theorem wstr1_any (w : World) (g : Nat) (bs : List UInt8) (odd : Bool) (h : WrS w g bs odd) (s : List UInt8) (pb : Nat) (hp : w.cell? ⟨pb, 0, none⟩ = some (.pointer (some ⟨g, 0, none⟩))) (hlen : bs.length + s.length + 4 ≤ 1048576) :
    Calls Try.prog 60 #[.string ⟨s.toArray⟩, .pointer (some ⟨pb, 0, none⟩)] w (PutsRet g (bs ++ textB s 1) (odd || !roomB s.length 1) w) := by
  have HP := Lib.hid (wtext_any w g bs odd h 1 (by omega) s hlen)
  go_enter Try.func60, Try.ntmps60
  go_wp2_with fail
  refine HP.out.mono ?_
  rintro e' W1 ⟨rfl, hr⟩
  go_wp2_with fail
  go_end0
  exact ⟨rfl, hr⟩
set_option maxRecDepth 100000 in
set_option maxHeartbeats 4000000 in
theorem wstr2_any (w : World) (g : Nat) (bs : List UInt8) (odd : Bool) (h : WrS w g bs odd) (s : List UInt8) (pb : Nat) (hp : w.cell? ⟨pb, 0, none⟩ = some (.pointer (some ⟨g, 0, none⟩))) (hlen : bs.length + s.length + 4 ≤ 1048576) :
    Calls Try.prog 62 #[.string ⟨s.toArray⟩, .pointer (some ⟨pb, 0, none⟩)] w (PutsRet g (bs ++ textB s 2) (odd || !roomB s.length 2) w) := by
  have HP := Lib.hid (wtext_any w g bs odd h 2 (by omega) s hlen)
  go_enter Try.func62, Try.ntmps62
  go_wp2_with fail
  refine HP.out.mono ?_
  rintro e' W1 ⟨rfl, hr⟩
  go_wp2_with fail
  go_end0
  exact ⟨rfl, hr⟩
/-- What the first region of tables reads. -/
def TabS (pb g : Nat) (w : World) : Prop := w.heap[pb]? = some (.cells #[.pointer (some ⟨g, 0, none⟩)] 63) ∧ Blk2 w g (.slice none 0 0) (.bool false) 65
theorem tabB_parts (x : XW) : (tabB x).length = 8 + (rowB CW.bytes x.cs).length + (rowB MW.bytes x.ms).length + (intsB x.ss).length + (rowB (fun s => textB s 1) x.ys).length + (rowB (fun s => textB s 2) x.xs).length := by
  unfold tabB magicB
  simp only [List.length_append, putB_length, List.length_cons, List.length_nil]
  omega
theorem rowB_len {α : Type} (F : α → List UInt8) (l : List α) : (rowB F l).length = 2 + (l.flatMap F).length := by unfold rowB; rw [List.length_append, putB_length]
set_option maxRecDepth 100000 in
set_option maxHeartbeats 16000000 in
theorem tables_any (w0 w : World) (g : Nat) (x : XW) (hx : x.Rd w0) (hr : x.Right) (hb : Below w0.heap.size w0 w) (hg0 : w0.heap.size ≤ g) (hW : Blk2 w g (.slice none 0 0) (.bool false) 65) (hlen : (tabB x).length + 8 ≤ 1048576) :
    Calls Try.prog 21 #[.pointer (some ⟨g, 0, none⟩), .agg x.vals] w (PutsRet g (tabB x) (tabO x) w) := by
  rw [tabB_parts] at hlen
  have HX := Lib.hid hx
  have HR := Lib.hid hr
  have HB := Lib.hid hb
  have HT := Lib.hid (show tabB x = magicB ++ rowB CW.bytes x.cs ++ rowB MW.bytes x.ms ++ putB (u64V x.st) 2 ++ intsB x.ss ++ rowB (fun s => textB s 1) x.ys ++ rowB (fun s => textB s 2) x.xs ++ putB (u64V x.main) 2 from rfl)
  have HTO := Lib.hid (show tabO x = (rowO CW.odd x.cs || rowO MW.odd x.ms || !roomB x.st 2 || intsO x.ss || rowO (fun s => !roomB s.length 1) x.ys || rowO (fun s => !roomB s.length 2) x.xs || !roomB x.main 2) from rfl)
  have hgl := hW.box.lt
  obtain ⟨ca, cn, cc, cs, ma, mn, mc, ms, st, sa, sn, sc, ss, ya, yn, yc, ys, xa, xn, xc, xs, ka, kn, kc, ks, main⟩ := x
  simp only at hlen HT HTO
  unfold XW.vals
  simp only
  have h1 : Below w.heap.size w (w.alloc (.cells #[.pointer (some ⟨g, 0, none⟩)] 63)) := (Below.refl _ _).alloc (Nat.le_refl _) _
  have p1 := heap_alloc_last w (.cells #[.pointer (some ⟨g, 0, none⟩)] 63)
  have z1 : (w.alloc (.cells #[.pointer (some ⟨g, 0, none⟩)] 63)).heap.size = w.heap.size + 1 := by simp
  go_enter Try.func21, Try.ntmps21
  go_upto_region 1 with fail
  have hal : Below w.heap.size w ((w.alloc (.cells #[.pointer (some ⟨g, 0, none⟩)] 63)).alloc (.cells #[.slice ca cn cc, .slice ma mn mc, .int .i64 st, .slice sa sn sc, .slice ya yn yc, .slice xa xn xc, .slice ka kn kc, .int .i64 main] 30)) := h1.alloc h1.size _
  have HPB := Lib.hid (row_below p1 ((Below.refl _ _).alloc (Nat.le_refl _) (.cells #[.slice ca cn cc, .slice ma mn mc, .int .i64 st, .slice sa sn sc, .slice ya yn yc, .slice xa xn xc, .slice ka kn kc, .int .i64 main] 30)))
  have HIB := heap_alloc_last (w.alloc (.cells #[.pointer (some ⟨g, 0, none⟩)] 63)) (.cells #[.slice ca cn cc, .slice ma mn mc, .int .i64 st, .slice sa sn sc, .slice ya yn yc, .slice xa xn xc, .slice ka kn kc, .int .i64 main] 30)
  rw [z1] at HIB
  have HW1 := Lib.hid (hW.below hal)
  have HK1 := Lib.hid (Keep1.of (g := g) hal)
  have HB1 := Lib.hid (hb.trans (hal.mono hb.size))
  have hg1 : w.heap.size ≠ g := by omega
  have hg2 : w.heap.size + 1 ≠ g := by omega
  have HIBH := Lib.hid HIB
  clear hal h1 p1 z1 HIB hW hx hr hb
  generalize ((w.alloc (.cells #[.pointer (some ⟨g, 0, none⟩)] 63)).alloc (.cells #[.slice ca cn cc, .slice ma mn mc, .int .i64 st, .slice sa sn sc, .slice ya yn yc, .slice xa xn xc, .slice ka kn kc, .int .i64 main] 30)) = W1 at *
  have hSw : TabS w.heap.size g W1.drew := ⟨row_below HPB.out (Below.refl _ _).drew, HW1.out.below (Below.refl _ _).drew⟩
  have l0 := fun z (h : TabS w.heap.size g z) => row_cell h.1 0 rfl
  have l1 := fun z (h : TabS w.heap.size g z) => h.2.box.c0
  refine wp_region_lexE (TabS w.heap.size g) 8 [(0, true), (1, true), (2, true), (3, true), (4, true), (5, false), (6, true), (7, true)] (by kernel_rfl) (by kernel_rfl) (fun c a d v w h => by cases d <;> exact h) ?_
  iterate 5
    refine lexE_step (fun K hK => ?_)
    simp only [lexOp, List.getElem?_toArray, List.getElem?_cons_succ, List.getElem?_cons_zero]
    rw [if_pos (by rfl)]
    apply Exists.intro
    refine ⟨fun w' hS' => ?_, hSw, ?_⟩
    · first | (go_simp <;> with_reducible rfl) | (go_simp; go_bits; with_reducible rfl)
    go_simp
    try go_bits
    refine hK _ _ ?_
    clear hK K
  refine lexE_step (fun K hK => ?_)
  simp only [lexOp, List.getElem?_toArray, List.getElem?_cons_succ, List.getElem?_cons_zero]
  rw [if_pos (by rfl)]
  change Oper.wp _ _ _ _ _ _
  refine wp_appKX #[] rfl _ _ _ rfl W1.heap.size _ 0 [] rfl (OwnOr.nil _ _) _ 4 _ rfl (strSrcK _ magicB) (by omega) (by omega) (Nat.le_refl _) ?_
  intro v2 W2 hown2 hk2 hb2
  simp only [List.map_nil, List.nil_append, Nat.zero_add] at hown2
  replace hSw : TabS w.heap.size g W2 := ⟨hk2.2 _ _ _ _ HPB.out (by decide), hk2.2 _ _ _ _ HW1.out (by decide)⟩
  have hb12 : Below W1.heap.size W1 W2 := ((Below.refl _ _).drew).trans hb2
  have HI2 := Lib.hid (row_below HIBH.out hb12)
  have HK2 := Lib.hid (HK1.out.trans (Keep1.of hb12))
  have HB2 := Lib.hid (HB1.out.trans (hb12.mono HB1.out.size))
  obtain ⟨a2, c2, rfl, hs2, hc2⟩ := Sl.ofOwn hown2
  have HS2 := Lib.hid hs2
  have HN2 := Lib.hid (Off1.own hown2 (show g < W1.heap.size from HW1.out.box.lt))
  have HM2 := Lib.hid (own_mono hown2 (show g + 1 ≤ W1.heap.size from HW1.out.box.lt))
  refine ⟨hSw, hK _ _ ?_⟩
  clear hK K hown2 hk2 hb2 hb12 hs2 HPB HIBH HW1 HK1 HB1
  iterate 2
    refine lexE_step (fun K hK => ?_)
    simp only [lexOp, List.getElem?_toArray, List.getElem?_cons_succ, List.getElem?_cons_zero]
    rw [if_pos (by rfl)]
    apply Exists.intro
    refine ⟨fun w' hS' => ?_, hSw, ?_⟩
    · first | (go_simp <;> with_reducible rfl) | (go_simp; go_bits; with_reducible rfl)
    go_simp
    try go_bits
    refine hK _ _ ?_
    clear hK K
  have cg := hSw.2.box.c0
  have fg := hSw.2.box.f0
  have hgl2 := hSw.2.box.lt
  refine lexE_last ?_
  simp only [lastOp, List.getElem?_toArray, List.getElem?_cons_succ, List.getElem?_cons_zero]
  rw [if_pos (by rfl)]
  go_step
  have HP3 := Lib.hid ((Keep1.refl g W2).set 0 (.slice a2 4 c2) |>.blk hSw.1 hg1)
  have HI3 := Lib.hid ((Keep1.refl g W2).set 0 (.slice a2 4 c2) |>.blk HI2.out hg2)
  have HK3 := Lib.hid (HK2.out.set 0 (.slice a2 4 c2))
  have HW3 := Lib.hid (show WrS (W2.setCell ⟨g, 0, none⟩ (.slice a2 4 c2)) g magicB false from ⟨a2, 4, c2, hSw.2.set0, HS2.out.keep1 ((Keep1.refl g W2).set 0 _) HN2.out, hc2, HN2.out, own_keep1 HM2.out ((Keep1.refl g W2).set 0 _) (by omega)⟩)
  clear cg fg hSw l0 l1 HI2 HK2 HB2 HS2 HN2 HM2
  generalize W2.setCell ⟨g, 0, none⟩ (.slice a2 4 c2) = W3 at *
  have HXC := Lib.hid (HX.out.c.below HB.out)
  have HXM := Lib.hid (HX.out.m.below HB.out)
  have HXS := Lib.hid (HX.out.s.below HB.out)
  have HXY := Lib.hid (HX.out.y.below HB.out)
  have HXX := Lib.hid (HX.out.tx.below HB.out)
  have HXR := Lib.hid (fun c hc => (HX.out.cr c hc).below HB.out)
  have c3a := row_cell HP3.out 0 rfl
  have c3b := row_cell HI3.out 0 rfl
  have HC3 := Lib.hid (wmany_class W3 g _ _ HW3.out ca cn cc cs (HXC.out.keep1 HK3.out (Off1.oldS HX.out.c hg0)) (Off1.oldS HX.out.c hg0) HR.out.cn CW.bytes CW.odd (by simp only [List.length_append, magicB, List.length_cons, List.length_nil, putB_length, rowB_len] at hlen ⊢; omega) (fun c hc W bs' od' hW hk hl => wclass_any W g bs' od' hW c (HR.out.c c hc) ((HXR.out c hc).keep1 (HK3.out.trans hk) (Off1.old (HX.out.cr c hc).r hg0) (Off1.old (HX.out.cr c hc).t hg0)) (Off1.old (HX.out.cr c hc).r hg0) (Off1.old (HX.out.cr c hc).t hg0) hl))
  go_wp2_with fail
  refine HC3.out.mono ?_
  rintro e' W4 ⟨rfl, hw, hk⟩
  have HW4 := Lib.hid hw
  have HK4 := Lib.hid (HK3.out.trans hk)
  have HP4 := Lib.hid (hk.blk HP3.out hg1)
  have HI4 := Lib.hid (hk.blk HI3.out hg2)
  clear hw hk HC3 HW3 HK3 HP3 HI3 c3a c3b
  have c4a := row_cell HP4.out 0 rfl
  have c4b := row_cell HI4.out 1 rfl
  have HC4 := Lib.hid (wmany_method W4 g _ _ HW4.out ma mn mc ms (HXM.out.keep1 HK4.out (Off1.oldS HX.out.m hg0)) (Off1.oldS HX.out.m hg0) HR.out.mn MW.bytes MW.odd (by simp only [List.length_append, magicB, List.length_cons, List.length_nil, putB_length, rowB_len] at hlen ⊢; omega) (fun c hc W bs' od' hW hk hl => wmethod_any W g bs' od' hW c (HR.out.m c hc) hl))
  go_wp2_with fail
  refine HC4.out.mono ?_
  rintro e' W5 ⟨rfl, hw, hk⟩
  have HW5 := Lib.hid hw
  have HK5 := Lib.hid (HK4.out.trans hk)
  have HP5 := Lib.hid (hk.blk HP4.out hg1)
  have HI5 := Lib.hid (hk.blk HI4.out hg2)
  clear hw hk HC4 HW4 HK4 HP4 HI4 c4a c4b
  have c5a := row_cell HP5.out 0 rfl
  have c5b := row_cell HI5.out 2 rfl
  have HC5 := Lib.hid (wput_one W5 g _ _ HW5.out 2 (by omega) st HR.out.st (by simp only [List.length_append, magicB, List.length_cons, List.length_nil, putB_length, rowB_len] at hlen ⊢; omega))
  go_wp2_with fail
  refine HC5.out.mono ?_
  rintro e' W6 ⟨rfl, hw, hk⟩
  have HW6 := Lib.hid hw
  have HK6 := Lib.hid (HK5.out.trans hk)
  have HP6 := Lib.hid (hk.blk HP5.out hg1)
  have HI6 := Lib.hid (hk.blk HI5.out hg2)
  clear hw hk HC5 HW5 HK5 HP5 HI5 c5a c5b
  have c6a := row_cell HP6.out 0 rfl
  have c6b := row_cell HI6.out 3 rfl
  have HC6 := Lib.hid (wints_any W6 g _ _ HW6.out sa sn sc ss (HXS.out.keep1 HK6.out (Off1.old HX.out.s hg0)) (Off1.old HX.out.s hg0) HR.out.s (by simp only [List.length_append, magicB, List.length_cons, List.length_nil, putB_length, rowB_len] at hlen ⊢; omega))
  go_wp2_with fail
  refine HC6.out.mono ?_
  rintro e' W7 ⟨rfl, hw, hk⟩
  have HW7 := Lib.hid hw
  have HK7 := Lib.hid (HK6.out.trans hk)
  have HP7 := Lib.hid (hk.blk HP6.out hg1)
  have HI7 := Lib.hid (hk.blk HI6.out hg2)
  clear hw hk HC6 HW6 HK6 HP6 HI6 c6a c6b
  have c7a := row_cell HP7.out 0 rfl
  have c7b := row_cell HI7.out 4 rfl
  have HC7 := Lib.hid (wmany_str1 W7 g _ _ HW7.out ya yn yc ys (HXY.out.keep1 HK7.out (Off1.old HX.out.y hg0)) (Off1.old HX.out.y hg0) HR.out.yn w.heap.size (fun s => textB s 1) (fun s => !roomB s.length 1) (by simp only [List.length_append, magicB, List.length_cons, List.length_nil, putB_length, rowB_len] at hlen ⊢; omega) (fun s hs W bs' od' hW hk hl => wstr1_any W g bs' od' hW s w.heap.size (row_cell (hk.blk HP7.out hg1) 0 rfl) (by rw [textB_len] at hl; omega)))
  go_wp2_with fail
  refine HC7.out.mono ?_
  rintro e' W8 ⟨rfl, hw, hk⟩
  have HW8 := Lib.hid hw
  have HK8 := Lib.hid (HK7.out.trans hk)
  have HP8 := Lib.hid (hk.blk HP7.out hg1)
  have HI8 := Lib.hid (hk.blk HI7.out hg2)
  clear hw hk HC7 HW7 HK7 HP7 HI7 c7a c7b
  have c8a := row_cell HP8.out 0 rfl
  have c8b := row_cell HI8.out 5 rfl
  have HC8 := Lib.hid (wmany_str2 W8 g _ _ HW8.out xa xn xc xs (HXX.out.keep1 HK8.out (Off1.old HX.out.tx hg0)) (Off1.old HX.out.tx hg0) HR.out.xn w.heap.size (fun s => textB s 2) (fun s => !roomB s.length 2) (by simp only [List.length_append, magicB, List.length_cons, List.length_nil, putB_length, rowB_len] at hlen ⊢; omega) (fun s hs W bs' od' hW hk hl => wstr2_any W g bs' od' hW s w.heap.size (row_cell (hk.blk HP8.out hg1) 0 rfl) (by rw [textB_len] at hl; omega)))
  go_wp2_with fail
  refine HC8.out.mono ?_
  rintro e' W9 ⟨rfl, hw, hk⟩
  have HW9 := Lib.hid hw
  have HK9 := Lib.hid (HK8.out.trans hk)
  have HP9 := Lib.hid (hk.blk HP8.out hg1)
  have HI9 := Lib.hid (hk.blk HI8.out hg2)
  clear hw hk HC8 HW8 HK8 HP8 HI8 c8a c8b
  have c9a := row_cell HP9.out 0 rfl
  have c9b := row_cell HI9.out 7 rfl
  have HC9 := Lib.hid (wput_one W9 g _ _ HW9.out 2 (by omega) main HR.out.main (by simp only [List.length_append, magicB, List.length_cons, List.length_nil, putB_length, rowB_len] at hlen ⊢; omega))
  go_wp2_with fail
  refine HC9.out.mono ?_
  rintro e' W10 ⟨rfl, hw, hk⟩
  have HW10 := Lib.hid hw
  have HK10 := Lib.hid (HK9.out.trans hk)
  have HP10 := Lib.hid (hk.blk HP9.out hg1)
  have HI10 := Lib.hid (hk.blk HI9.out hg2)
  clear hw hk HC9 HW9 HK9 HP9 HI9 c9a c9b
  go_wp2_with fail
  go_end0
  refine ⟨rfl, ?_, HK10.out⟩
  rw [HT.out, HTO.out]
  have := HW10.out
  simp only [Bool.false_or] at this
  exact this
end Go.Proofs.Ytbcldlbmbdfejaa
