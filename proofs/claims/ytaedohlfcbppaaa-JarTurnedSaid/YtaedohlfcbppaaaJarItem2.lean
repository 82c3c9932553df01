/- jar: the reader's item. No condition. -/
import Derived.Test.YtaedohlfcbppaaaJarItem
namespace Go.Proofs.Ytaedohlfcbppaaa
open Go.ChangeShapes Go.WideShapes Go.ChangeAt Go.RowKit
/-- The next item, as the reader goes. -/
def itemS (bs : List UInt8) (names : List (List UInt8)) : IV × List UInt8 × Int :=
  let n1 := numS bs 0 1
  let t1 := takeS n1.2.1 n1.2.2 n1.1
  let e1 := failE (!nameOk t1.1 || decide (t1.1 ∈ names)) t1.2.2 8
  let n2 := numS t1.2.1 e1 4
  let e2 := failE (decide (n2.2.1.length < n2.1 + 4)) n2.2.2 6
  let t2 := takeS n2.2.1 e2 n2.1
  let n3 := numS t2.2.1 t2.2.2 4
  (⟨t1.1, t2.1⟩, n3.2.1, failE (!decide (n3.1 = sumN t2.1)) n3.2.2 7)
/-- What item answers. -/
def ItemRet (B : Nat) (g mb k : Nat) (names : List (List UInt8)) (S : IV × List UInt8 × Int) (w : World) (en : Ending) (w' : World) : Prop :=
  ∃ f : IW, f.iv = S.1 ∧ en = .returned (.agg #[.string ⟨f.name.toArray⟩, .slice f.da f.dn f.dc]) ∧ w'.ownsRow w.heap.size 5 1 (.slice f.da f.dn f.dc) f.dn (f.data.map encB) ∧ RS B w' g S.2.1 S.2.2 ∧ NamesM w' mb (k + 1) (names ++ [f.name]) ∧ K2 g mb w w'
theorem own_overJ {w w' : World} {B : Nat} {e t : TypeId} {size : Nat} {v : Value} {n g : Nat} {xs : List Value} {cs : Array Value} {fr : Nat × Nat} (ho : w.ownsRow B e size v n xs) (hx : w.heap[g]? = some (.cells cs t fr)) (hne : e ≠ t) (hg : w.grownBy w' (some g)) : w'.ownsRow B e size v n xs := by
  refine ho.kept hg (.inr fun he => ?_)
  rcases ho.2 with ⟨rfl, _⟩ | ⟨g2, cap, cur, rfl, _, hg2, _⟩
  · simp [Value.ownBlock] at he
  · simp [Value.ownBlock] at he
    subst he
    rw [hg2] at hx
    simp at hx
    exact hne hx.2.1
theorem own_overR {C : Nat} {w w' : World} {B : Nat} {e : TypeId} {size : Nat} {v : Value} {n g : Nat} {xs : List Value} {bs : List UInt8} {er : Int} (ho : w.ownsRow B e size v n xs) (hx : RS C w g bs er) (hne : e ≠ 46) (hg : w.grownBy w' (some g)) : w'.ownsRow B e size v n xs := by
  obtain ⟨a, m, cap, h1, _⟩ := hx
  exact own_overJ ho h1 hne hg
theorem infoItem : (Try.prog.info? 36).map (·.size) = some 2 := by kernel_rfl
theorem NamesM.grownG {w w' : World} {g mb k : Nat} {L : List (List UInt8)} (h : NamesM w mb k L) (hg : w.grownBy w' (some g)) (hne : mb ≠ g) : NamesM w' mb k L := h.kept hg (by intro e; cases e; exact hne rfl)
theorem NamesM.below {w w' : World} {mb k : Nat} {L : List (List UInt8)} (h : NamesM w mb k L) (hb : Below w.heap.size w w') : NamesM w' mb k L := h.kept (row := none) ⟨hb.os, hb.tape, hb.output, hb.size, fun k hk _ => hb.block k hk⟩ (by simp)
theorem NamesM.lt {w : World} {mb k : Nat} {L : List (List UInt8)} (h : NamesM w mb k L) : mb < w.heap.size := by
  obtain ⟨es, clock, hb, _⟩ := h
  exact (Array.getElem?_eq_some_iff.1 hb).1
theorem NamesM.apart {w : World} {g mb k : Nat} {L : List (List UInt8)} {cs : Array Value} {t : TypeId} {fr : Nat × Nat} (h : NamesM w mb k L) (hg : w.heap[g]? = some (.cells cs t fr)) : mb ≠ g := by
  rintro rfl
  obtain ⟨es, clock, hb, _⟩ := h
  rw [hg] at hb
  cases hb
/-- Bytes and cells stay where only the map turns. -/
theorem Sl.grownM {w w' : World} {mb k : Nat} {L : List (List UInt8)} {x : Option Addr} {m : Nat} {bs : List UInt8} (hs : Sl encB w x m bs) (h : NamesM w mb k L) (hg : w.grownBy w' (some mb)) : Sl encB w' x m bs := by
  refine ⟨hs.1, fun hm => ?_⟩
  obtain ⟨b, off, ha, hlt, hc⟩ := hs.2 hm
  have hne : b ≠ mb := by
    rintro rfl
    obtain ⟨es, clock, hb, _⟩ := h
    have h0 := hc 0 (by rw [hs.1]; exact hm)
    unfold World.cell? at h0
    rw [hb] at h0
    simp at h0
  refine ⟨b, off, ha, Nat.lt_of_lt_of_le hlt hg.size, fun i hi => ?_⟩
  rw [World.cell?_of_block (hg.block b hlt (fun e => hne (by cases e; rfl)))]
  exact hc i hi
theorem RS.grownM {B : Nat} {w w' : World} {g mb k : Nat} {L : List (List UInt8)} {bs : List UInt8} {e : Int} (h : RS B w g bs e) (hm : NamesM w mb k L) (hg : w.grownBy w' (some mb)) : RS B w' g bs e := by
  obtain ⟨a, n, cap, h1, h2, h3, h4⟩ := h
  refine ⟨a, n, cap, ?_, h2.grownM hm hg, h3, h4⟩
  unfold RdJ at h1 ⊢
  rw [hg.block g (Array.getElem?_eq_some_iff.1 h1).1 (fun e => hm.apart h1 (by cases e; rfl))]
  exact h1
/-- A block of an item's cells. -/
def IBlk (w : World) (b : Nat) (nm : List UInt8) (a : Option Addr) (n c : Nat) : Prop := w.heap[b]? = some (.cells #[.string ⟨nm.toArray⟩, .slice a n c] 36)
theorem IBlk.box {w : World} {b : Nat} {nm : List UInt8} {a : Option Addr} {n c : Nat} (h : IBlk w b nm a n c) : (w.cell? ⟨b, 0, none⟩ = some (.string ⟨nm.toArray⟩) ∧ w.cell? ⟨b, 1, none⟩ = some (.slice a n c)) ∧ (w.frozen? ⟨b, 0, none⟩ = false ∧ w.frozen? ⟨b, 1, none⟩ = false) ∧ b < w.heap.size := by
  refine ⟨⟨?_, ?_⟩, ⟨?_, ?_⟩, (Array.getElem?_eq_some_iff.1 h).1⟩
  · rw [cell_of_row w b 0 _ _ _ h]; rfl
  · rw [cell_of_row w b 1 _ _ _ h]; rfl
  all_goals (unfold World.frozen?; rw [h]; rfl)
theorem IBlk.below {w w' : World} {b : Nat} {nm : List UInt8} {a : Option Addr} {n c : Nat} (h : IBlk w b nm a n c) (hb : Below w.heap.size w w') : IBlk w' b nm a n c := by
  unfold IBlk
  rw [hb.block b (Array.getElem?_eq_some_iff.1 h).1]
  exact h
theorem IBlk.k2 {w w' : World} {g mb b : Nat} {nm : List UInt8} {a : Option Addr} {n c : Nat} (h : IBlk w b nm a n c) (hk : K2 g mb w w') (h1 : b ≠ g) (h2 : b ≠ mb) : IBlk w' b nm a n c := by
  unfold IBlk
  rw [hk.block b (Array.getElem?_eq_some_iff.1 h).1 h1 h2]
  exact h
theorem IBlk.set1 {w : World} {b : Nat} {nm : List UInt8} {a a' : Option Addr} {n c n' c' : Nat} (h : IBlk w b nm a n c) : IBlk (w.setCell ⟨b, 1, none⟩ (.slice a' n' c')) b nm a' n' c' := heap_setJ h 1 _
theorem RS.lt {B : Nat} {w : World} {g : Nat} {bs : List UInt8} {e : Int} (h : RS B w g bs e) : g < w.heap.size := by
  obtain ⟨a, n, cap, h1, _⟩ := h
  exact (Array.getElem?_eq_some_iff.1 h1).1
theorem RS.cells {B : Nat} {w : World} {g : Nat} {bs : List UInt8} {e : Int} (h : RS B w g bs e) : ∃ cs t fr, w.heap[g]? = some (.cells cs t fr) := by
  obtain ⟨a, n, cap, h1, _⟩ := h
  exact ⟨_, _, _, h1⟩
/-- Bytes stay where an item's block turns. -/
theorem Sl.grownI {w w' : World} {b : Nat} {nm : List UInt8} {a : Option Addr} {n c : Nat} {x : Option Addr} {m : Nat} {bs : List UInt8} (hs : Sl encB w x m bs) (h : IBlk w b nm a n c) (hg : w.grownBy w' (some b)) : Sl encB w' x m bs := by
  refine ⟨hs.1, fun hm => ?_⟩
  obtain ⟨b', off, ha, hlt, hc⟩ := hs.2 hm
  have hne : b' ≠ b := by
    rintro rfl
    have h0 := hc 0 (by rw [hs.1]; exact hm)
    rw [Nat.add_zero, cell_of_row w b' off _ _ _ h] at h0
    match off, h0 with
    | 0, h0 => cases h0
    | 1, h0 => cases h0
    | k + 2, h0 => cases h0
  refine ⟨b', off, ha, Nat.lt_of_lt_of_le hlt hg.size, fun i hi => ?_⟩
  rw [World.cell?_of_block (hg.block b' hlt (fun e => hne (by cases e; rfl)))]
  exact hc i hi
theorem RS.grownI {B : Nat} {w w' : World} {g b : Nat} {nm : List UInt8} {a : Option Addr} {n c : Nat} {bs : List UInt8} {e : Int} (h : RS B w g bs e) (hi : IBlk w b nm a n c) (hg : w.grownBy w' (some b)) (hne : b ≠ g) : RS B w' g bs e := by
  obtain ⟨a', n', cap, h1, h2, h3, h4⟩ := h
  refine ⟨a', n', cap, ?_, h2.grownI hi hg, h3, h4⟩
  unfold RdJ at h1 ⊢
  rw [hg.block g (Array.getElem?_eq_some_iff.1 h1).1 (fun e => hne (by cases e; rfl))]
  exact h1
theorem NamesM.grownI {w w' : World} {b mb k : Nat} {L : List (List UInt8)} (h : NamesM w mb k L) (hg : w.grownBy w' (some b)) (hne : b ≠ mb) : NamesM w' mb k L := h.kept hg (by intro e; cases e; exact hne rfl)
theorem K2.setX {g mb b o : Nat} {v : Value} {w w1 : World} (h : K2 g mb w w1) (hb : w.heap.size ≤ b) : K2 g mb w (w1.setCell ⟨b, o, none⟩ v) :=
  ⟨h.os, h.tape, h.output, by rw [size_setJ]; exact h.size, fun k hk h1 h2 => by rw [heap_setJX (by omega)]; exact h.block k hk h1 h2⟩
theorem grown_set1 (w : World) (b o : Nat) (v : Value) : w.grownBy (w.setCell ⟨b, o, none⟩ v) (some b) := grown_setJ (grown_belowJ (row := some b) (Below.refl w.heap.size w))
theorem IBlk.apart {w w' : World} {b x : Nat} {nm : List UInt8} {a : Option Addr} {n c : Nat} (h : IBlk w b nm a n c) (hg : w.grownBy w' (some x)) (hne : b ≠ x) : IBlk w' b nm a n c := by
  unfold IBlk
  rw [hg.block b (Array.getElem?_eq_some_iff.1 h).1 (fun e => hne (by cases e; rfl))]
  exact h
theorem Sl.grownR {B : Nat} {w w' : World} {g : Nat} {bs : List UInt8} {e : Int} {x : Option Addr} {m : Nat} {ds : List UInt8} (hs : Sl encB w x m ds) (h : RS B w g bs e) (hg : w.grownBy w' (some g)) : Sl encB w' x m ds := by
  obtain ⟨a, n, cap, h1, _⟩ := h
  exact hs.grownJ h1 hg
theorem itemS_eq {bs r1 r2 r3 r4 r5 nm ds : List UInt8} {names : List (List UInt8)} {v1 v2 v3 : Nat} {q1 q2 q3 q4 q5 q6 q7 q8 : Int} (h1 : numS bs 0 1 = (v1, r1, q1)) (h2 : takeS r1 q1 v1 = (nm, r2, q2)) (h3 : q3 = failE (!nameOk nm || decide (nm ∈ names)) q2 8)
    (h4 : numS r2 q3 4 = (v2, r3, q4)) (h5 : q5 = failE (decide (r3.length < v2 + 4)) q4 6) (h6 : takeS r3 q5 v2 = (ds, r4, q6)) (h7 : numS r4 q6 4 = (v3, r5, q7)) (h8 : q8 = failE (!decide (v3 = sumN ds)) q7 7) : itemS bs names = (⟨nm, ds⟩, r5, q8) := by
  unfold itemS
  simp only [h1, h2, ← h3, h4, ← h5, h6, h7, ← h8]
/-- What the last region leaves alone. -/
def XS (bx : Nat) (nm : List UInt8) (a : Option Addr) (n c : Nat) (y : World) : Prop := IBlk y bx nm a n c
theorem ret_agg {v u : Value} (h : v = u) : Ending.returned v = Ending.returned u := by rw [h]
set_option maxRecDepth 100000 in
set_option maxHeartbeats 16000000 in
theorem item_any {B : Nat} (w : World) (g mb k : Nat) (bs : List UInt8) (names : List (List UInt8)) (hr : RS B w g bs 0) (hm : NamesM w mb k names) (hb : bs.length ≤ 65536) (hk : k ≤ 65536) :
    Calls Try.prog 19 #[.pointer (some ⟨g, 0, none⟩), .map (some mb)] w (ItemRet B g mb k names (itemS bs names) w) := by
  have HR := Lib.hid hr
  have HM := Lib.hid hm
  have hgl := hr.lt
  have hml := hm.lt
  have HNE := Lib.hid (show mb ≠ g by obtain ⟨cs, t, fr, h⟩ := hr.cells; exact hm.apart h)
  clear hr hm
  go_enter Try.func19, Try.ntmps19
  go_wp2_with fail
  have hb1 : Below w.heap.size w (w.alloc (.cells #[.string ⟨#[]⟩, .slice none 0 0] 36)) := (Below.refl _ _).alloc (Nat.le_refl _) _
  have HR1 := Lib.hid (HR.out.below hb1)
  have HM1 := Lib.hid (HM.out.below hb1)
  have HZ1 := Lib.hid (show IBlk (w.alloc (.cells #[.string ⟨#[]⟩, .slice none 0 0] 36)) w.heap.size [] none 0 0 from heap_alloc_last w _)
  have HK1 := Lib.hid (K2.ofB (g := g) (mb := mb) hb1)
  obtain ⟨br, hbr⟩ : ∃ br, br = w.heap.size := ⟨_, rfl⟩
  have HBR := Lib.hid (show br ≠ g ∧ br ≠ mb ∧ w.heap.size ≤ br by omega)
  rw [← hbr] at HZ1 ⊢
  clear hb1
  generalize hW : w.alloc (.cells #[.string ⟨#[]⟩, .slice none 0 0] 36) = w1 at *
  clear hW hbr hgl hml
  -- how long the name is
  obtain ⟨v1, r1, q1, hN1⟩ : ∃ v r q, numS bs 0 1 = (v, r, q) := ⟨_, _, _, rfl⟩
  have l1 := numS_len bs 0 1
  have lv1 := numS_lt bs 0 1 (by decide)
  have HC1 := Lib.hid (num_s w1 g bs 0 1 HR1.out (by omega) (by decide) (by decide))
  rw [hN1] at HC1 l1 lv1
  have HN1 := Lib.hid hN1
  simp only at l1 lv1
  clear hN1
  refine HC1.out.mono ?_
  rintro en w2 ⟨rfl, hr2, hg2⟩
  have HR2 := Lib.hid hr2
  have HM2 := Lib.hid (HM1.out.grownG hg2 HNE.out)
  have HZ2 := Lib.hid (HZ1.out.k2 (K2.ofG hg2) HBR.out.1 HBR.out.2.1)
  have HK2 := Lib.hid (HK1.out.trans (K2.ofG hg2))
  clear hr2 hg2 HC1 HR1 HM1 HZ1 HK1
  simp only
  go_wp2_with fail
  -- the name
  obtain ⟨nm, r2, q2, hT1⟩ : ∃ v r q, takeS r1 q1 v1 = (v, r, q) := ⟨_, _, _, rfl⟩
  have lt1 := takeS_len r1 q1 v1
  have HC2 := Lib.hid (take_s w2 g r1 q1 v1 HR2.out (by omega) (by omega))
  rw [hT1] at HC2 lt1
  have HT1 := Lib.hid hT1
  simp only at lt1
  clear hT1
  refine HC2.out.mono ?_
  rintro en w3 ⟨a1, n1, c1, rfl, hs3, hc3, hr3, hg3⟩
  have cv3 := run_conv hs3 c1
  have HR3 := Lib.hid hr3
  have HM3 := Lib.hid (HM2.out.grownG hg3 HNE.out)
  have HZ3 := Lib.hid (HZ2.out.k2 (K2.ofG hg3) HBR.out.1 HBR.out.2.1)
  have HK3 := Lib.hid (HK2.out.trans (K2.ofG hg3))
  clear hr3 hg3 HC2 HR2 HM2 HZ2 HK2 hs3 hc3
  simp only at cv3
  go_upto_region 2 with fail
  have hb4 : Below w3.heap.size w3 (w3.alloc (.cells #[.string ⟨nm.toArray⟩, .slice none 0 0] 36)) := (Below.refl _ _).alloc (Nat.le_refl _) _
  have HR4 := Lib.hid (HR3.out.below hb4)
  have HM4 := Lib.hid (HM3.out.below hb4)
  have HZ4 := Lib.hid (HZ3.out.below hb4)
  have HX4 := Lib.hid (show IBlk (w3.alloc (.cells #[.string ⟨nm.toArray⟩, .slice none 0 0] 36)) w3.heap.size nm none 0 0 from heap_alloc_last w3 _)
  have HK4 := Lib.hid (HK3.out.trans (K2.ofB hb4))
  obtain ⟨bx, hbx⟩ : ∃ bx, bx = w3.heap.size := ⟨_, rfl⟩
  have HBX := Lib.hid (show bx ≠ g ∧ bx ≠ mb ∧ w.heap.size ≤ bx ∧ bx ≠ br by
    have h1 := HR3.out.lt
    have h2 := HM3.out.lt
    have h3 := HK3.out.size
    have h4 := HZ3.out.box.2.2
    omega)
  rw [← hbx] at HX4 ⊢
  clear hb4 cv3 HR3 HM3 HZ3 HK3
  generalize hW : w3.alloc (.cells #[.string ⟨nm.toArray⟩, .slice none 0 0] 36) = w4 at *
  clear hW hbx
  obtain ⟨⟨c0, c1x⟩, _, hxl⟩ := HX4.out.box
  have HIN := Lib.hid (isName_any w4 nm)
  obtain ⟨ok, hok⟩ : ∃ ok, ok = nameOk nm := ⟨_, rfl⟩
  rw [← hok] at HIN
  have HOK := Lib.hid hok
  clear hok
  go_wp2_with fail
  refine HIN.out.mono ?_
  rintro en w5 ⟨rfl, hb5⟩
  have HR5 := Lib.hid (HR4.out.below hb5)
  have HM5 := Lib.hid (HM4.out.below hb5)
  have HZ5 := Lib.hid (HZ4.out.below hb5)
  have HX5 := Lib.hid (HX4.out.below hb5)
  have HK5 := Lib.hid (HK4.out.trans (K2.ofB hb5))
  clear hb5 HIN HR4 HM4 HZ4 HX4 HK4 c0 c1x hxl
  obtain ⟨⟨c0, c1x⟩, _, hxl⟩ := HX5.out.box
  have hlk := look_name HM5.out nm (by unfold maxLen; omega)
  obtain ⟨nb, hnb⟩ : ∃ nb, nb = decide (nm ∈ names) := ⟨_, rfl⟩
  rw [← hnb] at hlk
  have HNB := Lib.hid hnb
  clear hnb
  have HFA := Lib.hid (failJ_any w5 g r2 q2 8 (!ok || nb) HR5.out)
  obtain ⟨q3, hq3⟩ : ∃ q, q = failE (!ok || nb) q2 8 := ⟨_, rfl⟩
  rw [← hq3] at HFA
  have HQ3 := Lib.hid (show q3 = failE (!nameOk nm || decide (nm ∈ names)) q2 8 by rw [hq3, HOK.out, HNB.out])
  clear hq3 HOK HNB
  cases ok
  all_goals
    go_wp2_with fail
    refine HFA.out.mono ?_
    rintro en w6 ⟨rfl, hr6, hg6⟩
    have HR6 := Lib.hid hr6
    have HM6 := Lib.hid (HM5.out.grownG hg6 HNE.out)
    have HZ6 := Lib.hid (HZ5.out.k2 (K2.ofG hg6) HBR.out.1 HBR.out.2.1)
    have HX6 := Lib.hid (HX5.out.k2 (K2.ofG hg6) HBX.out.1 HBX.out.2.1)
    have HK6 := Lib.hid (HK5.out.trans (K2.ofG hg6))
    clear hr6 hg6 HFA HR5 HM5 HZ5 HX5 HK5 c0 c1x hxl hlk
    obtain ⟨⟨c0, c1x⟩, _, hxl⟩ := HX6.out.box
    obtain ⟨w7, hrun, hm7, hg7⟩ := put_name HM6.out nm (by unfold maxLen; omega) (by unfold maxLen; omega)
    have HR7 := Lib.hid (HR6.out.grownM HM6.out hg7)
    have HM7 := Lib.hid hm7
    have HZ7 := Lib.hid (HZ6.out.k2 (K2.ofM hg7) HBR.out.1 HBR.out.2.1)
    have HX7 := Lib.hid (HX6.out.k2 (K2.ofM hg7) HBX.out.1 HBX.out.2.1)
    have HK7 := Lib.hid (HK6.out.trans (K2.ofM hg7))
    clear hm7 hg7 HR6 HM6 HZ6 HX6 HK6
    obtain ⟨v2, r3, q4, hN2⟩ : ∃ v r q, numS r2 q3 4 = (v, r, q) := ⟨_, _, _, rfl⟩
    have ln2 := numS_len r2 q3 4
    have lv2 := numS_lt r2 q3 4 (by decide)
    have HC4 := Lib.hid (num_s w7 g r2 q3 4 HR7.out (by omega) (by decide) (by decide))
    rw [hN2] at HC4 ln2 lv2
    have HN2 := Lib.hid hN2
    simp only at ln2 lv2
    clear hN2
    go_wp2_with fail
    refine HC4.out.mono ?_
    rintro en w8 ⟨rfl, hr8, hg8⟩
    have HR8 := Lib.hid hr8
    have HM8 := Lib.hid (HM7.out.grownG hg8 HNE.out)
    have HZ8 := Lib.hid (HZ7.out.k2 (K2.ofG hg8) HBR.out.1 HBR.out.2.1)
    have HX8 := Lib.hid (HX7.out.k2 (K2.ofG hg8) HBX.out.1 HBX.out.2.1)
    have HK8 := Lib.hid (HK7.out.trans (K2.ofG hg8))
    clear hr8 hg8 HC4 HR7 HM7 HZ7 HX7 HK7 c0 c1x hxl hrun
    simp only at HR8
    obtain ⟨ra, rn, rc, hrd, hrs, _⟩ := HR8.out
    have hrn : rn = r3.length := hrs.1.symm
    subst hrn
    obtain ⟨⟨g0, g1⟩, _, ggl⟩ := hrd.box
    have HFA2 := Lib.hid (failJ_any w8 g r3 q4 6 (decide (r3.length < v2 + 4)) HR8.out)
    obtain ⟨q5, hq5⟩ : ∃ q, q = failE (decide (r3.length < v2 + 4)) q4 6 := ⟨_, rfl⟩
    rw [← hq5] at HFA2
    have HQ5 := Lib.hid hq5
    obtain ⟨b5, hb5⟩ : ∃ b, decide ((r3.length : Int) < (v2 : Int) + 4) = b := ⟨_, rfl⟩
    rw [show decide (r3.length < v2 + 4) = b5 from by rw [← hb5]; exact decide_eq_decide.2 (by omega)] at HFA2
    clear hq5 hrd hrs
    go_wp2_with fail
    refine HFA2.out.mono ?_
    rintro en w9 ⟨rfl, hr9, hg9⟩
    have HR9 := Lib.hid hr9
    have HM9 := Lib.hid (HM8.out.grownG hg9 HNE.out)
    have HZ9 := Lib.hid (HZ8.out.k2 (K2.ofG hg9) HBR.out.1 HBR.out.2.1)
    have HX9 := Lib.hid (HX8.out.k2 (K2.ofG hg9) HBX.out.1 HBX.out.2.1)
    have HK9 := Lib.hid (HK8.out.trans (K2.ofG hg9))
    clear hr9 hg9 HFA2 HR8 HM8 HZ8 HX8 HK8 g0 g1 ggl hb5
    obtain ⟨ds, r4, q6, hT2⟩ : ∃ v r q, takeS r3 q5 v2 = (v, r, q) := ⟨_, _, _, rfl⟩
    have lt2 := takeS_len r3 q5 v2
    have HC5 := Lib.hid (take_s w9 g r3 q5 v2 HR9.out (by omega) (by omega))
    rw [hT2] at HC5 lt2
    have HT2 := Lib.hid hT2
    simp only at lt2
    clear hT2
    go_wp2_with fail
    refine HC5.out.mono ?_
    rintro en wa ⟨a2, n2, c2, rfl, hsa, hca, hra, hga⟩
    have hn2 : n2 = ds.length := hsa.1.symm
    have HCL := Lib.hid (Clone_any wa a2 n2 c2 ds hsa (by omega))
    have HRa := Lib.hid hra
    have HMa := Lib.hid (HM9.out.grownG hga HNE.out)
    have HZa := Lib.hid (HZ9.out.k2 (K2.ofG hga) HBR.out.1 HBR.out.2.1)
    have HXa := Lib.hid (HX9.out.k2 (K2.ofG hga) HBX.out.1 HBX.out.2.1)
    have HKa := Lib.hid (HK9.out.trans (K2.ofG hga))
    clear hra hga HC5 HR9 HM9 HZ9 HX9 HK9 hsa hca hn2
    go_wp2_with fail
    refine HCL.out.mono ?_
    rintro en wb ⟨vb, nb', rfl, hob, hbb⟩
    obtain ⟨ab, cb, rfl, hsb, hcb⟩ := Sl.ofOwn hob
    have HRb := Lib.hid (HRa.out.below hbb)
    have HMb := Lib.hid (HMa.out.below hbb)
    have HZb := Lib.hid (HZa.out.below hbb)
    have HXb := Lib.hid (HXa.out.below hbb)
    have HKb := Lib.hid (HKa.out.trans (K2.ofB hbb))
    have HSb := Lib.hid hsb
    have HOb := Lib.hid (own_mono hob HKa.out.size)
    have HCb := Lib.hid hcb
    clear hob hbb HCL HRa HMa HZa HXa HKa hsb hcb
    obtain ⟨⟨c0, c1x⟩, ⟨f0, f1⟩, hxl⟩ := HXb.out.box
    go_upto_region 7 with fail
    have hgx := grown_set1 wb bx 1 (.slice ab nb' cb)
    have HRc := Lib.hid (HRb.out.grownI HXb.out hgx HBX.out.1)
    have HMc := Lib.hid (HMb.out.grownI hgx HBX.out.2.1)
    have HZc := Lib.hid (HZb.out.apart hgx (Ne.symm HBX.out.2.2.2))
    have HSc := Lib.hid (HSb.out.grownI HXb.out hgx)
    have HOc := Lib.hid (own_overJ HOb.out HXb.out (by decide) hgx)
    have HXc := Lib.hid (HXb.out.set1 (a' := ab) (n' := nb') (c' := cb))
    have HKc := Lib.hid (HKb.out.setX (o := 1) (v := .slice ab nb' cb) HBX.out.2.2.1)
    clear hgx HRb HMb HZb HSb HOb HXb HKb c0 c1x f0 f1 hxl
    generalize wb.setCell ⟨bx, 1, none⟩ (.slice ab nb' cb) = wc at *
    obtain ⟨v3, r5, q7, hN3⟩ : ∃ v r q, numS r4 q6 4 = (v, r, q) := ⟨_, _, _, rfl⟩
    have ln3 := numS_len r4 q6 4
    have lv3 := numS_lt r4 q6 4 (by decide)
    have HC6 := Lib.hid (fun w' (h : RS B w' g r4 q6) => num_s w' g r4 q6 4 h (by omega) (by decide) (by decide))
    rw [hN3] at HC6 ln3 lv3
    have HN3 := Lib.hid hN3
    simp only at ln3 lv3
    clear hN3
    have HSU := Lib.hid (fun w' (h : Sl encB w' ab nb' ds) => Sum32_n w' ab nb' cb ds h.bs (by have := h.1; omega))
    have hsl := sumN_lt ds
    obtain ⟨q8, hq8⟩ : ∃ q, q = failE (!decide (v3 = sumN ds)) q7 7 := ⟨_, rfl⟩
    have HQ8 := Lib.hid hq8
    have HIT := Lib.hid (itemS_eq HN1.out HT1.out HQ3.out HN2.out HQ5.out HT2.out HN3.out hq8)
    have HFA3 := Lib.hid (fun w' (h : RS B w' g r5 q7) => failJ_any w' g r5 q7 7 (!decide (v3 = sumN ds)) h)
    rw [← hq8] at HFA3
    clear hq8
    generalize sumN ds = sm at *
    have wsm : IntKind.i64.wrap (sm : Int) = (sm : Int) := by rw [IntKind.wrap_i64]; omega
    obtain ⟨b7, hb7⟩ : ∃ b, ((v3 : Int) != (sm : Int)) = b := ⟨_, rfl⟩
    rw [show (!decide (v3 = sm)) = b7 from by rw [← hb7]; by_cases h : v3 = sm <;> simp [h] <;> omega] at HFA3
    have ldX := fun w' (h : XS bx nm ab nb' cb w') => (show IBlk w' bx nm ab nb' cb from h).box.1.2
    have hSw : XS bx nm ab nb' cb wc.drew := HXc.out
    have HRd := Lib.hid (HRc.out.below (w' := wc.drew) (Below.refl _ _).drew)
    have HMd := Lib.hid (HMc.out.below (w' := wc.drew) (Below.refl _ _).drew)
    have HZd := Lib.hid (HZc.out.below (w' := wc.drew) (Below.refl _ _).drew)
    have HSd := Lib.hid (HSc.out.below (w' := wc.drew) (Below.refl _ _).drew)
    have HOd := Lib.hid (own_below HOc.out (w' := wc.drew) (Below.refl _ _).drew)
    have HKd := Lib.hid (HKc.out.drew)
    clear HRc HMc HZc HSc HOc HXc HKc
    refine wp_region_lexS (XS bx nm ab nb' cb) (.of [(0, true), (1, true), (3, true), (4, true), (2, false), (5, false), (6, true), (7, true), (8, false)] (.stir [])) (by kernel_rfl) (by kernel_rfl) (fun c a d v w h => by cases d <;> exact h) ?_
    generalize wc.drew = wd at *
    iterate 4
      refine lexS_step (fun K hK => ?_)
      simp only [lexOp, List.getElem?_toArray, List.getElem?_cons_succ, List.getElem?_cons_zero]
      rw [if_pos (by rfl)]
      apply Exists.intro
      refine ⟨fun w' hS' => ?_, hSw, ?_⟩
      · first | (go_simp <;> with_reducible rfl) | (go_simp; go_bits; with_reducible rfl)
      go_simp
      try go_bits
      refine hK _ _ ?_
      clear hK K
    refine lexS_step (fun K hK => ?_)
    simp only [lexOp, List.getElem?_toArray, List.getElem?_cons_succ, List.getElem?_cons_zero]
    rw [if_pos (by rfl)]
    go_step
    refine (HC6.out _ HRd.out).mono ?_
    rintro en we ⟨rfl, hre, hge⟩
    have HRe := Lib.hid hre
    have HMe := Lib.hid (HMd.out.grownG hge HNE.out)
    have HZe := Lib.hid (HZd.out.k2 (K2.ofG hge) HBR.out.1 HBR.out.2.1)
    have HSe := Lib.hid (HSd.out.grownR HRd.out hge)
    have HOe := Lib.hid (own_overR HOd.out HRd.out (by decide) hge)
    have HKe := Lib.hid (HKd.out.trans (K2.ofG hge))
    replace hSw : XS bx nm ab nb' cb we := IBlk.k2 hSw (K2.ofG hge) HBX.out.1 HBX.out.2.1
    clear hre hge
    refine ⟨hSw, ?_⟩
    go_simp
    refine hK _ _ ?_
    clear hK K HRd HMd HZd HSd HOd HKd
    refine lexS_step (fun K hK => ?_)
    simp only [lexOp, List.getElem?_toArray, List.getElem?_cons_succ, List.getElem?_cons_zero]
    rw [if_pos (by rfl)]
    go_step
    refine (HSU.out _ HSe.out).mono ?_
    rintro en wf ⟨rfl, hbf⟩
    have HRf := Lib.hid (HRe.out.below hbf)
    have HMf := Lib.hid (HMe.out.below hbf)
    have HZf := Lib.hid (HZe.out.below hbf)
    have HSf := Lib.hid (HSe.out.below hbf)
    have HOf := Lib.hid (own_below HOe.out hbf)
    have HKf := Lib.hid (HKe.out.trans (K2.ofB hbf))
    replace hSw : XS bx nm ab nb' cb wf := IBlk.below hSw hbf
    clear hbf
    refine ⟨hSw, ?_⟩
    go_simp
    refine hK _ _ ?_
    clear hK K HRe HMe HZe HSe HOe HKe
    iterate 2
      refine lexS_step (fun K hK => ?_)
      simp only [lexOp, List.getElem?_toArray, List.getElem?_cons_succ, List.getElem?_cons_zero]
      rw [if_pos (by rfl)]
      apply Exists.intro
      refine ⟨fun w' hS' => ?_, hSw, ?_⟩
      · first | (go_simp <;> with_reducible rfl) | (go_simp; go_bits; with_reducible rfl)
      go_simp
      try go_bits
      refine hK _ _ ?_
      clear hK K
    refine lexS_step (fun K hK => ?_)
    simp only [lexOp, List.getElem?_toArray, List.getElem?_cons_succ, List.getElem?_cons_zero]
    rw [if_pos (by rfl)]
    go_step
    refine (HFA3.out _ HRf.out).mono ?_
    rintro en wg ⟨rfl, hrg, hgg⟩
    have HRg := Lib.hid hrg
    have HMg := Lib.hid (HMf.out.grownG hgg HNE.out)
    have HZg := Lib.hid (HZf.out.k2 (K2.ofG hgg) HBR.out.1 HBR.out.2.1)
    have HOg := Lib.hid (own_overR HOf.out HRf.out (by decide) hgg)
    have HKg := Lib.hid (HKf.out.trans (K2.ofG hgg))
    replace hSw : XS bx nm ab nb' cb wg := IBlk.k2 hSw (K2.ofG hgg) HBX.out.1 HBX.out.2.1
    clear hrg hgg
    refine ⟨hSw, ?_⟩
    go_simp
    refine hK _ _ ?_
    clear hK K HRf HMf HZf HSf HOf HKf
    refine lexS_stir (fun y => y = wg) (fun y hy => hy ▸ hSw) rfl ?_
    refine stir_nil (fun y hy => ?_)
    subst hy
    have HXg := Lib.hid (show IBlk y bx nm ab nb' cb from hSw)
    clear hSw ldX hb7
    obtain ⟨⟨c0, c1x⟩, _, hxl⟩ := HXg.out.box
    obtain ⟨⟨z0, z1⟩, ⟨fz0, fz1⟩, hzl⟩ := HZg.out.box
    go_wp2_with fail
    have HGz := Lib.hid (grown_transJ (grown_set1 y br 0 (.string ⟨nm.toArray⟩)) (grown_set1 _ br 1 (.slice ab nb' cb)))
    have HRz := Lib.hid (HRg.out.grownI HZg.out HGz.out HBR.out.1)
    have HMz := Lib.hid (HMg.out.grownI HGz.out HBR.out.2.1)
    have HOz := Lib.hid (own_overJ HOg.out HZg.out (by decide) HGz.out)
    have HKz := Lib.hid ((HKg.out.setX (o := 0) (v := .string ⟨nm.toArray⟩) HBR.out.2.2).setX (o := 1) (v := .slice ab nb' cb) HBR.out.2.2)
    have HZz := Lib.hid (show IBlk ((y.setCell ⟨br, 0, none⟩ (.string ⟨nm.toArray⟩)).setCell ⟨br, 1, none⟩ (.slice ab nb' cb)) br nm ab nb' cb from heap_setJ (heap_setJ HZg.out 0 _) 1 _)
    refine bodyPost_ret (results_cell_row rfl _ _ br _ _ _ _ rfl HZz.out Try.underlying36 rfl infoItem) rfl ⟨⟨nm, ab, nb', cb, ds⟩, ?_⟩
    rw [HIT.out]
    exact ⟨rfl, rfl, HOz.out, HRz.out, HMz.out, HKz.out⟩
end Go.Proofs.Ytaedohlfcbppaaa
