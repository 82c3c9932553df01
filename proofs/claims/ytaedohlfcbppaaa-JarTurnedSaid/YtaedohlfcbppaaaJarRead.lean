/- jar: the reader's fail, take and number. No condition. -/
import Derived.Test.YtaedohlfcbppaaaJarMem
import Derived.Test.YtaedohlfcbppaaaNumFn
namespace Go.Proofs.Ytaedohlfcbppaaa
open Go.ChangeShapes Go.WideShapes Go.ChangeAt Go.RowKit
/-- A reader. -/
def RdJ (w : World) (g : Nat) (a : Option Addr) (n cap : Nat) (e : Int) : Prop := w.heap[g]? = some (.cells #[.slice a n cap, .int .i64 e] 46)
theorem RdJ.below {w w' : World} {g : Nat} {a : Option Addr} {n cap : Nat} {e : Int} (h : RdJ w g a n cap e) (hb : Below w.heap.size w w') : RdJ w' g a n cap e := by
  unfold RdJ
  rw [hb.block g (Array.getElem?_eq_some_iff.1 h).1]
  exact h
theorem RdJ.box {w : World} {g : Nat} {a : Option Addr} {n cap : Nat} {e : Int} (h : RdJ w g a n cap e) : (w.cell? ⟨g, 0, none⟩ = some (.slice a n cap) ∧ w.cell? ⟨g, 1, none⟩ = some (.int .i64 e)) ∧
    (w.frozen? ⟨g, 0, none⟩ = false ∧ w.frozen? ⟨g, 1, none⟩ = false) ∧ g < w.heap.size := by
  refine ⟨⟨?_, ?_⟩, ⟨?_, ?_⟩, (Array.getElem?_eq_some_iff.1 h).1⟩
  · rw [cell_of_row w g 0 _ _ _ h]; rfl
  · rw [cell_of_row w g 1 _ _ _ h]; rfl
  all_goals (unfold World.frozen?; rw [h]; rfl)
theorem heap_setJ {w : World} {g : Nat} {cs : Array Value} {t : TypeId} {fr : Nat × Nat} (h : w.heap[g]? = some (.cells cs t fr)) (o : Nat) (v : Value) : (w.setCell ⟨g, o, none⟩ v).heap[g]? = some (.cells (cs.setIfInBounds o v) t fr) := by
  unfold World.setCell
  simp [Array.getElem?_modify, h]
theorem heap_setJX {w : World} {g h : Nat} (hne : h ≠ g) (o : Nat) (v : Value) : (w.setCell ⟨g, o, none⟩ v).heap[h]? = w.heap[h]? := by
  unfold World.setCell
  simp [Array.getElem?_modify, Ne.symm hne]
theorem size_setJ {w : World} {g : Nat} (o : Nat) (v : Value) : (w.setCell ⟨g, o, none⟩ v).heap.size = w.heap.size := by
  unfold World.setCell
  simp
theorem RdJ.set0 {w : World} {g : Nat} {a a' : Option Addr} {n cap n' cap' : Nat} {e : Int} (h : RdJ w g a n cap e) : RdJ (w.setCell ⟨g, 0, none⟩ (.slice a' n' cap')) g a' n' cap' e := heap_setJ h 0 _
theorem RdJ.set1 {w : World} {g : Nat} {a : Option Addr} {n cap : Nat} {e e' : Int} (h : RdJ w g a n cap e) : RdJ (w.setCell ⟨g, 1, none⟩ (.int .i64 e')) g a n cap e' := heap_setJ h 1 _
theorem grown_setJ {w w' : World} {g o : Nat} {v : Value} (h : w.grownBy w' (some g)) : w.grownBy (w'.setCell ⟨g, o, none⟩ v) (some g) :=
  ⟨h.os, h.tape, h.output, by rw [size_setJ]; exact h.size, fun k hk hne => by rw [heap_setJX (fun e => hne (by rw [e]))]; exact h.block k hk hne⟩
theorem grown_belowJ {w w' : World} {row : Option Nat} (h : Below w.heap.size w w') : w.grownBy w' row := ⟨h.os, h.tape, h.output, h.size, fun k hk _ => h.block k hk⟩
theorem grown_transJ {w w1 w2 : World} {g : Nat} (h : w.grownBy w1 (some g)) (h' : w1.grownBy w2 (some g)) : w.grownBy w2 (some g) :=
  ⟨h'.os.trans h.os, h'.tape.trans h.tape, h'.output.trans h.output, Nat.le_trans h.size h'.size, fun k hk hne => (h'.block k (Nat.lt_of_lt_of_le hk h.size) hne).trans (h.block k hk hne)⟩
/-- Bytes don't lie where a reader lies. -/
theorem RdJ.apart {w : World} {g : Nat} {a : Option Addr} {n cap : Nat} {e : Int} {x : Option Addr} {m : Nat} {bs : List UInt8} (h : RdJ w g a n cap e) (hs : Sl encB w x m bs) (hm : 0 < m) {b off : Nat} (hx : x = some ⟨b, off, none⟩) : b ≠ g := by
  rintro rfl
  obtain ⟨b', off', hx', _, hc⟩ := hs.2 hm
  rw [hx] at hx'
  cases hx'
  have hl := hs.1
  have h0 := hc 0 (by omega)
  rw [Nat.add_zero, cell_of_row w b off _ _ _ h] at h0
  match off, h0 with
  | 0, h0 => cases h0
  | 1, h0 => cases h0
  | k + 2, h0 => cases h0
theorem Sl.grownJ {w w' : World} {x : Option Addr} {m g : Nat} {bs : List UInt8} {a : Option Addr} {n cap : Nat} {e : Int} (hs : Sl encB w x m bs) (h : RdJ w g a n cap e) (hg : w.grownBy w' (some g)) : Sl encB w' x m bs := by
  refine ⟨hs.1, fun hm => ?_⟩
  obtain ⟨b, off, ha, hlt, hc⟩ := hs.2 hm
  refine ⟨b, off, ha, Nat.lt_of_lt_of_le hlt hg.size, fun i hi => ?_⟩
  rw [World.cell?_of_block (hg.block b hlt (fun e => h.apart hs hm ha (by cases e; rfl)))]
  exact hc i hi
/-- Where a slice's bytes lie. -/
def LowB (B : Nat) (a : Option Addr) (n : Nat) : Prop := 0 < n → ∃ b off, a = some ⟨b, off, none⟩ ∧ b < B
/-- What a reader has left, and what is wrong. -/
def RS (B : Nat) (w : World) (g : Nat) (bs : List UInt8) (e : Int) : Prop := ∃ a n cap, RdJ w g a n cap e ∧ Sl encB w a n bs ∧ n ≤ cap ∧ LowB B a n
theorem RS.below {B : Nat} {w w' : World} {g : Nat} {bs : List UInt8} {e : Int} (h : RS B w g bs e) (hb : Below w.heap.size w w') : RS B w' g bs e := by
  obtain ⟨a, n, cap, h1, h2, h3, h4⟩ := h
  exact ⟨a, n, cap, h1.below hb, h2.below hb, h3, h4⟩
def failE (bad : Bool) (e er : Int) : Int := if bad = true ∧ e = 0 then er else e
set_option maxRecDepth 100000 in
set_option maxHeartbeats 4000000 in
theorem failJ_any {B : Nat} (w : World) (g : Nat) (bs : List UInt8) (e er : Int) (bad : Bool) (h : RS B w g bs e) :
    Calls Try.prog 16 #[.pointer (some ⟨g, 0, none⟩), .bool bad, .int .i64 er] w fun en w' => en = .returned (.tuple #[]) ∧ RS B w' g bs (failE bad e er) ∧ w.grownBy w' (some g) := by
  obtain ⟨a, n, cap, h1, h2, h3, h4⟩ := h
  have HK := Lib.hid h1
  have HS := Lib.hid h2
  have HLB := Lib.hid h4
  obtain ⟨⟨c0, c1⟩, ⟨f0, f1⟩, hgl⟩ := h1.box
  clear h1 h2 h4
  cases bad
  · go_enter Try.func16, Try.ntmps16
    go_wp2_with fail
    go_end0
    exact ⟨rfl, ⟨a, n, cap, HK.out, HS.out, h3, HLB.out⟩, grown_belowJ (Below.refl _ _)⟩
  · by_cases he : e = 0
    · subst he
      go_enter Try.func16, Try.ntmps16
      go_wp2_with fail
      have hg := grown_setJ (o := 1) (v := .int .i64 er) (grown_belowJ (row := some g) (Below.refl w.heap.size w))
      go_end0
      exact ⟨rfl, ⟨a, n, cap, HK.out.set1, HS.out.grownJ HK.out hg, h3, HLB.out⟩, hg⟩
    · have ee : (e == 0) = false := by simp [he]
      have HF := Lib.hid (show failE true e er = e by unfold failE; simp [he])
      clear he
      go_enter Try.func16, Try.ntmps16
      go_wp2_with fail
      go_end0
      exact ⟨rfl, by rw [HF.out]; exact ⟨a, n, cap, HK.out, HS.out, h3, HLB.out⟩, grown_belowJ (Below.refl _ _)⟩
theorem Sl.dropJ {w : World} {b off n m : Nat} {bs : List UInt8} (h : Sl encB w (some ⟨b, off, none⟩) n bs) (hm : m ≤ n) : Sl encB w (some ⟨b, off + m, none⟩) (n - m) (bs.drop m) := by
  refine ⟨by rw [List.length_drop, h.1], fun hn => ?_⟩
  obtain ⟨b', off', ha, hlt, hc⟩ := h.2 (by omega)
  cases ha
  refine ⟨b, off + m, rfl, hlt, fun i hi => ?_⟩
  have hi2 : m + i < bs.length := by rw [List.length_drop] at hi; omega
  rw [Nat.add_assoc, hc (m + i) hi2]
  simp
theorem Sl.noneJ (w : World) (a : Option Addr) (bs : List UInt8) (n : Nat) (h : n = 0) (hb : bs = []) : Sl encB w a n bs := by
  subst h hb
  exact Sl.nil _ _
def TakeJ (B : Nat) (g : Nat) (bs : List UInt8) (e : Int) (m : Nat) (w : World) (en : Ending) (w' : World) : Prop :=
  w.grownBy w' (some g) ∧ ((e = 0 ∧ m ≤ bs.length ∧ ∃ a1, en = .returned (.slice a1 m m) ∧ Sl encB w' a1 m (bs.take m) ∧ RS B w' g (bs.drop m) 0) ∨
    ((e ≠ 0 ∨ bs.length < m) ∧ en = .returned (.slice none 0 0) ∧ RS B w' g bs (if e = 0 then 6 else e)))
set_option maxRecDepth 100000 in
set_option maxHeartbeats 4000000 in
theorem takeJ_any {B : Nat} (w : World) (g : Nat) (bs : List UInt8) (e : Int) (m : Nat) (h : RS B w g bs e) (hb : bs.length ≤ 1048576) (hm : m ≤ 4294967296) :
    Calls Try.prog 17 #[.pointer (some ⟨g, 0, none⟩), .int .i64 (m : Nat)] w (TakeJ B g bs e m w) := by
  have HR := Lib.hid h
  obtain ⟨a, n, cap, h1, h2, h3, h4⟩ := h
  have HLn := Lib.hid h2.1
  have hn : n ≤ 1048576 := by rw [← h2.1]; exact hb
  obtain ⟨⟨c0, c1⟩, ⟨f0, f1⟩, hgl⟩ := h1.box
  have HFA := Lib.hid (fun bad => failJ_any w g bs e 6 bad HR.out)
  clear h1 h2 h4 hb
  by_cases he : e = 0
  · subst he
    by_cases hmn : m ≤ n
    · have e1 : decide (n < m) = false := by simp; omega
      go_enter Try.func17, Try.ntmps17
      go_wp2_with fail
      refine (HFA.out _).mono ?_
      rintro en w1 ⟨rfl, hr1, hg1⟩
      have HG1 := Lib.hid hg1
      rw [show failE false 0 6 = 0 from rfl] at hr1
      obtain ⟨a1, n1, cap1, k1, k2, k3, k4⟩ := hr1
      have hn1 : n1 = n := by rw [← k2.1, ← HLn.out]
      subst hn1
      have HK1 := Lib.hid k1
      have HS1 := Lib.hid k2
      have HLB := Lib.hid k4
      clear c0 c1 f0 f1 hgl hg1
      obtain ⟨⟨c0, c1⟩, ⟨f0, f1⟩, hgl⟩ := k1.box
      clear k1 k2 k4
      have m1 : (m : Int) ≤ cap1 := by omega
      have m2 : (m : Int) ≤ n1 := by omega
      have hgw : w.grownBy w1 (some g) := HG1.out
      have HGW := Lib.hid hgw
      clear hgw HG1
      by_cases h0 : n1 = 0
      · have hm0 : m = 0 := by omega
        subst h0 hm0
        have hbs : bs = [] := List.eq_nil_of_length_eq_zero HLn.out
        have HBS := Lib.hid hbs
        clear hbs
        cases a1 with
        | none =>
          go_wp2_with fail
          go_ret
          exact ⟨grown_setJ HGW.out, .inl ⟨rfl, Nat.zero_le _, _, rfl, Sl.noneJ _ _ _ _ rfl (by simp), _, _, _, HK1.out.set0, Sl.noneJ _ _ _ _ rfl (by rw [HBS.out]; rfl), by omega, fun h => by omega⟩⟩
        | some ad =>
          by_cases hmc : cap1 = 0
          · subst hmc
            go_wp2_with fail
            go_ret
            exact ⟨grown_setJ HGW.out, .inl ⟨rfl, Nat.zero_le _, _, rfl, Sl.noneJ _ _ _ _ rfl (by simp), _, _, _, HK1.out.set0, Sl.noneJ _ _ _ _ rfl (by rw [HBS.out]; rfl), by omega, fun h => by omega⟩⟩
          · go_wp2_with fail
            go_ret
            exact ⟨grown_setJ HGW.out, .inl ⟨rfl, Nat.zero_le _, _, rfl, Sl.noneJ _ _ _ _ rfl (by simp), _, _, _, HK1.out.set0, Sl.noneJ _ _ _ _ rfl (by rw [HBS.out]; rfl), by omega, fun h => by omega⟩⟩
      · obtain ⟨b, off, rfl, hbl, _⟩ := HS1.out.2 (by omega)
        have hgJ := fun v => grown_setJ (o := 0) (v := v) HGW.out
        have hsJ := fun v => HS1.out.grownJ HK1.out (grown_setJ (o := 0) (v := v) (grown_belowJ (row := some g) (Below.refl w1.heap.size w1)))
        have HGJ := Lib.hid hgJ
        have HSJ := Lib.hid hsJ
        clear hgJ hsJ
        by_cases hmc : cap1 = m
        · have hnm : n1 = m := by omega
          subst hnm
          subst hmc
          go_wp2_with fail
          go_ret
          exact ⟨HGJ.out _, .inl ⟨rfl, by rw [HLn.out]; exact Nat.le_refl _, _, rfl, (HSJ.out _).take (Nat.le_refl _), _, _, _, HK1.out.set0, Sl.noneJ _ _ _ _ (by omega) (by rw [List.drop_eq_nil_iff]; rw [HLn.out]; exact Nat.le_refl _), by omega, fun h => by omega⟩⟩
        · go_wp2_with fail
          go_ret
          exact ⟨HGJ.out _, .inl ⟨rfl, by rw [HLn.out]; exact hmn, _, rfl, (HSJ.out _).take hmn, _, _, _, HK1.out.set0, (HSJ.out _).dropJ hmn, by omega, fun h => by obtain ⟨b', o', he, hl⟩ := HLB.out (by omega); cases he; exact ⟨_, _, rfl, hl⟩⟩⟩
    · have e1 : decide (n < m) = true := by simp; omega
      go_enter Try.func17, Try.ntmps17
      go_wp2_with fail
      refine (HFA.out _).mono ?_
      rintro en w1 ⟨rfl, hr1, hg1⟩
      have HG1 := Lib.hid hg1
      rw [show failE true 0 6 = 6 from rfl] at hr1
      have HR1 := Lib.hid hr1
      obtain ⟨a1, n1, cap1, k1, k2, k3, k4⟩ := hr1
      clear c0 c1 f0 f1 hgl hg1
      obtain ⟨⟨c0, c1⟩, _, hgl⟩ := k1.box
      clear k1 k2 k4
      go_wp2_with fail
      go_ret
      exact ⟨HG1.out, .inr ⟨.inr (by rw [HLn.out]; omega), rfl, HR1.out⟩⟩
  · have ee : (e != 0) = true := by simp [he]
    have HFE := Lib.hid (show ∀ bad, failE bad e 6 = e from fun bad => by unfold failE; simp [he])
    have HNE := Lib.hid he
    have HIF := Lib.hid (show (if e = 0 then 6 else e) = e by rw [if_neg he])
    clear he
    go_enter Try.func17, Try.ntmps17
    go_wp2_with fail
    refine (HFA.out _).mono ?_
    rintro en w1 ⟨rfl, hr1, hg1⟩
    have HG1 := Lib.hid hg1
    rw [HFE.out] at hr1
    have HR1 := Lib.hid hr1
    obtain ⟨a1, n1, cap1, k1, k2, k3, k4⟩ := hr1
    clear c0 c1 f0 f1 hgl hg1
    obtain ⟨⟨c0, c1⟩, _, hgl⟩ := k1.box
    clear k1 k2 k4
    go_wp2_with fail
    go_ret
    exact ⟨HG1.out, .inr ⟨.inl HNE.out, rfl, by rw [HIF.out]; exact HR1.out⟩⟩
end Go.Proofs.Ytaedohlfcbppaaa
