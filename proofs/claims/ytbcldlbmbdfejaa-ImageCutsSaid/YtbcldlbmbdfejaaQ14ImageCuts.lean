/- image: what is few makes few bytes, in plain Lean. No condition. -/
import Derived.Test.YtbcldlbmbdfejaaQ13ImageCuts
import Derived.Test.YtbcldlbmbdfejaaQ09ImageCuts
import Derived.Test.YtbcldlbmbdfejaaQ04ImageCuts
import Derived.Laws.EntriesVeiled
namespace Go.Proofs.Ytbcldlbmbdfejaa
open Go.ChangeShapes Go.WideShapes Go.ChangeAt Go.RowKit
theorem classes_le (l : List CW) (h : ∀ c ∈ l, c.refs.length = c.rn ∧ c.table.length = c.tn) : (l.flatMap CW.bytes).length ≤ 60 * l.length + 50 * costC l := by
  induction l with
  | nil => simp
  | cons c l ih =>
    have h1 := h c (List.mem_cons_self ..)
    have h2 := ih fun y hy => h y (List.mem_cons_of_mem _ hy)
    rw [List.flatMap_cons, List.length_append, CW.bytes_len, intsB_len, intsB_len, h1.1, h1.2]
    have e : costC (c :: l) = (c.rn + c.tn + c.name.length / 50) + costC l := by unfold costC; simp
    rw [e, List.length_cons]
    omega
theorem methods_le (l : List MW) : (l.flatMap MW.bytes).length ≤ 110 * l.length + 50 * costM l := by
  induction l with
  | nil => simp
  | cons c l ih =>
    rw [List.flatMap_cons, List.length_append, MW.bytes_len]
    have e : costM (c :: l) = (c.name.length / 50 + c.desc.length / 50) + costM l := by unfold costM; simp
    rw [e, List.length_cons]
    omega
theorem texts_le (n : Nat) (hn : n ≤ 2) (l : List (List UInt8)) (h : ∀ t ∈ l, t.length ≤ 300) : (l.flatMap fun s => textB s n).length ≤ 302 * l.length := by
  induction l with
  | nil => simp
  | cons c l ih =>
    have h1 := h c (List.mem_cons_self ..)
    have h2 := ih fun y hy => h y (List.mem_cons_of_mem _ hy)
    rw [List.flatMap_cons, List.length_append, textB_len, List.length_cons]
    omega
theorem traps_le (l : List KW) (h : ∀ k ∈ l, k.traps.length ≤ 60) : sizeK l ≤ 494 * l.length := by
  induction l with
  | nil => simp [sizeK]
  | cons c l ih =>
    have h1 := h c (List.mem_cons_self ..)
    have h2 := ih fun y hy => h y (List.mem_cons_of_mem _ hy)
    have e : sizeK (c :: l) = (14 + 8 * c.traps.length) + sizeK l := by unfold sizeK; simp
    rw [e, List.length_cons]
    omega
theorem few_bound {w : World} {x : XW} (hx : x.Rd w) {F : List BV} {n : Nat} (h1 : Few25P x) (h2 : SmallP F n) : x.ks.length = x.ms.length → F.length = x.ks.length → startX x + lensL (F.map (·.data)) ≤ 1000000 := by
  intro hm _
  obtain ⟨f1, f2, f3, f4, f5, f6, f7⟩ := h1
  obtain ⟨g1, g2⟩ := h2
  have hkl := hx.k.1
  have hml := hx.m.1
  have hcl := hx.c.1
  have hsl := hx.s.1
  have hyl := hx.y.1
  have hxl := hx.tx.1
  have hf := f1 (by omega)
  have b1 := classes_le x.cs fun c hc => ⟨(hx.cr c hc).r.1, (hx.cr c hc).t.1⟩
  have b2 := methods_le x.ms
  have b3 := texts_le 1 (by omega) x.ys f5
  have b4 := texts_le 2 (by omega) x.xs f6
  have b5 := traps_le x.ks fun k hk => by rw [(hx.kr k hk).t.1]; exact f7 k hk
  have b6 := intsB_len x.ss
  unfold startX tabB
  simp only [List.length_append, putB_length, rowB_len]
  have b7 : magicB.length = 4 := rfl
  omega
end Go.Proofs.Ytbcldlbmbdfejaa
/- image: reading, in plain Lean. No condition. -/
namespace Go.Proofs.Ytbcldlbmbdfejaa
open Go.ChangeShapes Go.WideShapes Go.ChangeAt Go.RowKit
/-- Where a reader stands, and what is wrong. -/
abbrev St : Type := Nat × Int
abbrev RM (α : Type) : Type := St → α × St
def bindR {α β : Type} (f : RM α) (g : α → RM β) : RM β := fun s => g (f s).1 (f s).2
def pureR {α : Type} (a : α) : RM α := fun s => (a, s)
def getS (bs : List UInt8) (n : Nat) : RM Int := fun s => if s.2 ≠ 0 then (0, s) else ((getR bs s.1 n).1, (s.1 + n, (getR bs s.1 n).2))
def lessS (bs : List UInt8) : RM Int := fun s => ((getS bs 2 s).1 - 1, (getS bs 2 s).2)
/-- What stands at a text's place, its length read. -/
def textT (bs : List UInt8) (v : Int) : RM (List UInt8) := fun s =>
  if s.2 ≠ 0 then ([], s) else if (bs.length : Int) - s.1 < v then ([], (s.1, 6)) else ((bs.drop s.1).take v.toNat, (s.1 + v.toNat, 0))
def textS (bs : List UInt8) (n : Nat) : RM (List UInt8) := bindR (getS bs n) fun v => textT bs v
def rowS {α : Type} (one : RM α) : Nat → RM (List α)
  | 0 => pureR []
  | n + 1 => fun s => if s.2 ≠ 0 then ([], s) else ((one s).1 :: (rowS one n (one s).2).1, (rowS one n (one s).2).2)
/-- A row: how many, then each. -/
def manyS {α : Type} (bs : List UInt8) (one : RM α) : RM (List α) := bindR (getS bs 2) fun n => rowS one n.toNat
structure CP where
  name : List UInt8
  sup : Int
  cells : Int
  refs : List Int
  table : List Int
def CW.p (c : CW) : CP := ⟨c.name, c.sup, c.cells, c.refs, c.table⟩
structure KP where
  pos : Int
  len : Int
  stack : Int
  locals : Int
  args : Int
  traps : List TW
def KW.p (k : KW) : KP := ⟨k.pos, k.len, k.stack, k.locals, k.args, k.traps⟩
structure XP where
  cs : List CP
  ms : List MW
  st : Int
  ss : List Int
  ys : List (List UInt8)
  xs : List (List UInt8)
  ks : List KP
  main : Int
def XW.p (x : XW) : XP := ⟨x.cs.map CW.p, x.ms, x.st, x.ss, x.ys, x.xs, x.ks.map KW.p, x.main⟩
def classS (bs : List UInt8) : RM CP := bindR (textS bs 1) fun nm => bindR (lessS bs) fun sup => bindR (getS bs 2) fun cells => bindR (manyS bs (getS bs 2)) fun refs => bindR (manyS bs (getS bs 2)) fun table => pureR ⟨nm, sup, cells, refs, table⟩
def statS (v : Int) : RM Unit := fun s => if 1 < v ∧ s.2 = 0 then ((), (s.1, 8)) else ((), s)
def methodS (bs : List UInt8) : RM MW := bindR (getS bs 2) fun cls => bindR (textS bs 1) fun nm => bindR (textS bs 1) fun ds => bindR (getS bs 1) fun v => bindR (statS v) fun _ => bindR (lessS bs) fun slot => bindR (lessS bs) fun nat => pureR ⟨cls, nm, ds, decide (v = 1), slot, nat⟩
def trapS (bs : List UInt8) : RM TW := bindR (getS bs 2) fun a => bindR (getS bs 2) fun b => bindR (getS bs 2) fun c => bindR (lessS bs) fun d => pureR ⟨a, b, c, d⟩
def codeS (bs : List UInt8) : RM KP := bindR (getS bs 4) fun a => bindR (getS bs 2) fun b => bindR (getS bs 2) fun c => bindR (getS bs 2) fun d => bindR (getS bs 2) fun e => bindR (manyS bs (trapS bs)) fun t => pureR ⟨a, b, c, d, e, t⟩
def imageS (bs : List UInt8) : RM XP := bindR (manyS bs (classS bs)) fun cs => bindR (manyS bs (methodS bs)) fun ms => bindR (getS bs 2) fun st => bindR (manyS bs (getS bs 2)) fun ss =>
  bindR (manyS bs (textS bs 1)) fun ys => bindR (manyS bs (textS bs 2)) fun xs => bindR (getS bs 2) fun main => bindR (rowS (codeS bs) ms.length) fun ks => pureR ⟨cs, ms, st, ss, ys, xs, ks, main⟩
/-- Do codes stand one behind the other? -/
def laidP : List KP → Int → Int → Bool
  | [], pos, fin => decide (pos = fin)
  | k :: r, pos, fin => if (k.len = 0 ∧ k.pos ≠ 0) ∨ (0 < k.len ∧ k.pos ≠ pos) then false else laidP r (pos + k.len) fin
def xp0 : XP := ⟨[], [], 0, [], [], [], [], 0⟩
def parseR (bs : List UInt8) : XP × Int :=
  if 262144 < bs.length then (xp0, 9)
  else if bs.length < 4 ∨ bs.take 4 ≠ magicB then (xp0, 8)
  else
    if (imageS bs (4, 0)).2.2 ≠ 0 then (xp0, (imageS bs (4, 0)).2.2)
    else if laidP (imageS bs (4, 0)).1.ks (imageS bs (4, 0)).2.1 bs.length = false then (xp0, 8)
    else ((imageS bs (4, 0)).1, 0)
/-- A state that may be, over so many bytes. -/
def StOk (n : Nat) (s : St) : Prop := (s.2 = 0 → s.1 ≤ n) ∧ s.1 ≤ n + 8
theorem getR_val (bs : List UInt8) (p n : Nat) (hn : n ≤ 4) : 0 ≤ (getR bs p n).1 ∧ (getR bs p n).1 < 4294967296 := by
  have h0 : (0 : Int) ≤ 0 ∧ (0 : Int) < 4294967296 := by omega
  unfold getR
  split
  · exact h0
  · split
    · exact h0
    · have h1 := getN_lt ((bs.drop ((p : Int)).toNat).take ((n : Int)).toNat)
      have h2 : ((bs.drop ((p : Int)).toNat).take ((n : Int)).toNat).length ≤ 4 := by rw [List.length_take]; omega
      have h3 : 256 ^ ((bs.drop ((p : Int)).toNat).take ((n : Int)).toNat).length ≤ 256 ^ 4 := Nat.pow_le_pow_right (by omega) h2
      have h4 : (256 ^ 4 : Nat) = 4294967296 := by decide
      constructor
      · show (0 : Int) ≤ ((getN _ : Nat) : Int)
        omega
      · show ((getN _ : Nat) : Int) < 4294967296
        omega
theorem getR_two (bs : List UInt8) (p n : Nat) (hn : n ≤ 2) : 0 ≤ (getR bs p n).1 ∧ (getR bs p n).1 < 65536 := by
  have h0 : (0 : Int) ≤ 0 ∧ (0 : Int) < 65536 := by omega
  unfold getR
  split
  · exact h0
  · split
    · exact h0
    · have h1 := getN_lt ((bs.drop ((p : Int)).toNat).take ((n : Int)).toNat)
      have h2 : ((bs.drop ((p : Int)).toNat).take ((n : Int)).toNat).length ≤ 2 := by rw [List.length_take]; omega
      have h3 : 256 ^ ((bs.drop ((p : Int)).toNat).take ((n : Int)).toNat).length ≤ 256 ^ 2 := Nat.pow_le_pow_right (by omega) h2
      have h4 : (256 ^ 2 : Nat) = 65536 := by decide
      constructor
      · show (0 : Int) ≤ ((getN _ : Nat) : Int)
        omega
      · show ((getN _ : Nat) : Int) < 65536
        omega
theorem getR_err (bs : List UInt8) (p n : Nat) (h1 : 1 ≤ n) (hn : n ≤ 8) : ((getR bs p n).2 = 0 ∧ p + n ≤ bs.length) ∨ ((getR bs p n).2 = 6 ∧ bs.length < p + n) := by
  unfold getR
  rw [if_neg (by omega)]
  split
  · exact .inr ⟨rfl, by omega⟩
  · exact .inl ⟨rfl, by omega⟩
theorem getS_ok (bs : List UInt8) (n : Nat) (h1 : 1 ≤ n) (hn : n ≤ 8) (s : St) (h : StOk bs.length s) : StOk bs.length (getS bs n s).2 := by
  unfold getS
  split
  · exact h
  · rename_i h0
    have h2 := h.1 (by omega)
    rcases getR_err bs s.1 n h1 hn with ⟨e, hp⟩ | ⟨e, hp⟩
    · exact ⟨fun _ => hp, by show s.1 + n ≤ _; omega⟩
    · exact ⟨fun h => by simp only [e] at h; omega, by show s.1 + n ≤ _; omega⟩
theorem getS_val (bs : List UInt8) (n : Nat) (hn : n ≤ 4) (s : St) : 0 ≤ (getS bs n s).1 ∧ (getS bs n s).1 < 4294967296 := by
  unfold getS
  split
  · exact ⟨by show (0 : Int) ≤ 0; omega, by show (0 : Int) < _; omega⟩
  · exact getR_val bs s.1 n hn
theorem getS_two (bs : List UInt8) (n : Nat) (hn : n ≤ 2) (s : St) : 0 ≤ (getS bs n s).1 ∧ (getS bs n s).1 < 65536 := by
  unfold getS
  split
  · exact ⟨by show (0 : Int) ≤ 0; omega, by show (0 : Int) < _; omega⟩
  · exact getR_two bs s.1 n hn
theorem textT_ok (bs : List UInt8) (v : Int) (hv : 0 ≤ v) (s : St) (h : StOk bs.length s) : StOk bs.length (textT bs v s).2 := by
  unfold textT
  split
  · exact h
  · rename_i h0
    have h2 := h.1 (by omega)
    split
    · exact ⟨fun h => by simp at h, h.2⟩
    · exact ⟨fun _ => by show s.1 + v.toNat ≤ _; omega, by show s.1 + v.toNat ≤ _; omega⟩
end Go.Proofs.Ytbcldlbmbdfejaa
/- image: the reader's get and text. No condition. -/
namespace Go.Proofs.Ytbcldlbmbdfejaa
open Go.ChangeShapes Go.WideShapes Go.ChangeAt Go.RowKit
def EqW (x y : World) : Prop := y = x
theorem Blk3.set1 {w : World} {g : Nat} {x y z v : Value} {t : TypeId} (h : Blk3 w g x y z t) : Blk3 (w.setCell ⟨g, 1, none⟩ v) g x v z t := heap_set3 h 1 v
theorem Blk3.set2 {w : World} {g : Nat} {x y z v : Value} {t : TypeId} (h : Blk3 w g x y z t) : Blk3 (w.setCell ⟨g, 2, none⟩ v) g x y v t := heap_set3 h 2 v
/-- A reader in block g over bytes. -/
structure RdS (w : World) (g : Nat) (a : Option Addr) (n cap : Nat) (bs : List UInt8) (s : St) : Prop where
  k : Blk3 w g (.slice a n cap) (.int .i64 (s.1 : Nat)) (.int .i64 s.2) 79
  sl : Sl encB w a n bs
  off : Off1 a n g
  le : n ≤ cap
  sm : n ≤ 1048500
  ok : StOk n s
  ne : 0 < n
theorem RdS.below {w w' : World} {g : Nat} {a : Option Addr} {n cap : Nat} {bs : List UInt8} {s : St} (h : RdS w g a n cap bs s) (hb : Below w.heap.size w w') : RdS w' g a n cap bs s := ⟨h.k.below hb, h.sl.below hb, h.off, h.le, h.sm, h.ok, h.ne⟩
theorem RdS.lt {w : World} {g : Nat} {a : Option Addr} {n cap : Nat} {bs : List UInt8} {s : St} (h : RdS w g a n cap bs s) : g < w.heap.size := h.k.box.lt
/-- What a reading leaves. -/
def GotRet (g : Nat) (a : Option Addr) (n cap : Nat) (bs : List UInt8) (v : Value) (s : St) (w : World) (e : Ending) (w' : World) : Prop := e = .returned v ∧ RdS w' g a n cap bs s ∧ Keep1 g w w'
set_option maxRecDepth 100000 in
set_option maxHeartbeats 8000000 in
theorem get_any (w : World) (g : Nat) (a : Option Addr) (n cap : Nat) (bs : List UInt8) (s : St) (h : RdS w g a n cap bs s) (m : Nat) (h1 : 1 ≤ m) (h4 : m ≤ 4) :
    Calls Try.prog 67 #[.pointer (some ⟨g, 0, none⟩), .int .i64 m] w (GotRet g a n cap bs (.int .i64 (getS bs m s).1) (getS bs m s).2 w) := by
  obtain ⟨p, er⟩ := s
  by_cases h0 : er = 0
  case neg =>
    have HG := Lib.hid (show getS bs m (p, er) = (0, (p, er)) by unfold getS; rw [if_pos h0])
    rw [HG.out]
    have en : (er != 0) = true := by simp [h0]
    have H := Lib.hid h
    obtain ⟨c0, c1, c2, f0, f1, f2, lt⟩ := h.k.box
    simp only at c1 c2
    clear h h0
    go_enter Try.func67, Try.ntmps67
    go_wp2_with fail
    go_ret
    exact ⟨rfl, H.out, Keep1.refl _ _⟩
  subst h0
  have hl := h.sl.1
  have hok := getS_ok bs m h1 (by omega) (p, 0) (by rw [hl]; exact h.ok)
  have hv := getR_val bs p m h4
  have HG := Lib.hid (show getS bs m (p, 0) = ((getR bs p m).1, (p + m, (getR bs p m).2)) by unfold getS; rw [if_neg (by simp)])
  rw [HG.out] at hok ⊢
  rw [hl] at hok
  have hp : p ≤ n := h.ok.1 rfl
  have hsm := h.sm
  have hle := h.le
  have hne := h.ne
  have HGA := Lib.hid (fun w' (hs : Sl encB w' a n bs) => Get_any w' a n cap bs p m hs (by omega) hle (by unfold IntR; omega) (by unfold IntR; omega))
  have H := Lib.hid h
  have HOK := Lib.hid hok
  generalize (getR bs p m).1 = v at *
  generalize (getR bs p m).2 = er at *
  clear h hok hl HG
  obtain ⟨c0, c1, c2, f0, f1, f2, lt⟩ := H.out.k.box
  simp only at c1 c2
  obtain ⟨u, hu, hu2⟩ : ∃ u : Nat, v = (u : Int) ∧ u < 4294967296 := ⟨v.toNat, by omega, by omega⟩
  subst hu
  have HSW := Lib.hid (H.out.sl.below (Below.refl w.heap.size w).drew)
  go_enter Try.func67, Try.ntmps67
  go_upto_region 3 with fail
  have l0 := fun z (h : EqW w.drew z) => (show z.cell? ⟨g, 0, none⟩ = some (.slice a n cap) by rw [show z = w.drew from h]; exact c0)
  have l1 := fun z (h : EqW w.drew z) => (show z.cell? ⟨g, 1, none⟩ = some (.int .i64 (p : Nat)) by rw [show z = w.drew from h]; exact c1)
  have hSw : EqW w.drew w.drew := rfl
  refine wp_region_lexS (EqW w.drew) (.stir [(0, true), (1, true), (2, true), (3, true), (4, true), (5, true), (6, true), (7, true), (8, true), (9, false), (10, true), (11, true), (12, true), (13, true), (14, true)]) (by kernel_rfl) (by kernel_rfl) (fun c a d v w h => by cases d <;> exact h) ?_
  refine lexS_stir (EqW w.drew) (fun y hy => hy) rfl ?_
  clear c0 c1 c2 f0 f1 f2 lt
  iterate 9
    refine stir_step (fun K hK => ?_)
    simp only [stirOp, List.getElem?_toArray, List.getElem?_cons_succ, List.getElem?_cons_zero]
    rw [if_pos (by rfl)]
    apply Exists.intro
    refine ⟨fun w' hS' => ?_, ?_⟩
    · first | (go_simp <;> with_reducible rfl) | (go_simp; go_bits; with_reducible rfl)
    go_simp
    try go_bits
    refine hK _ ?_
    clear hK K
  refine stir_step (fun K hK => ?_)
  simp only [stirOp, List.getElem?_toArray, List.getElem?_cons_succ, List.getElem?_cons_zero]
  rw [if_pos (by rfl)]
  apply Exists.intro
  refine ⟨fun w' hS' => ?_, ?_⟩
  · go_simp
    exact Stirs.call (Calls.mono (HGA.out w' (by rw [show w' = w.drew from hS']; exact HSW.out)) fun e w'' h => ⟨h.1, (fun hb'' => (by rw [← hb'']; exact hS')) h.2⟩)
  go_simp
  refine hK _ ?_
  clear hK K
  iterate 5
    refine stir_step (fun K hK => ?_)
    simp only [stirOp, List.getElem?_toArray, List.getElem?_cons_succ, List.getElem?_cons_zero]
    rw [if_pos (by rfl)]
    apply Exists.intro
    refine ⟨fun w' hS' => ?_, ?_⟩
    · first | (go_simp <;> with_reducible rfl) | (go_simp; go_bits; with_reducible rfl)
    go_simp
    try go_bits
    refine hK _ ?_
    clear hK K
  refine stir_nil (fun y hy => ?_)
  obtain rfl : y = w.drew := hy
  clear l0 l1 hSw
  have HK := Lib.hid (show Blk3 w.drew g (.slice a n cap) (.int .i64 (p : Nat)) (.int .i64 0) 79 from H.out.k)
  have HKP := Lib.hid (Keep1.refl g w).drew
  have HO := Lib.hid H.out.off
  clear H HGA
  generalize w.drew = W1 at *
  obtain ⟨c0, c1, c2, f0, f1, f2, lt⟩ := HK.out.box
  go_wp2_with fail
  go_ret
  have hpm : ((p : Int) + (m : Int)) = ((p + m : Nat) : Int) := by omega
  rw [hpm]
  exact ⟨rfl, ⟨HK.out.set1.set2, (HSW.out.keep1 (((Keep1.refl g W1).set 1 _).set 2 _) HO.out), HO.out, hle, hsm, HOK.out, hne⟩, (HKP.out.set 1 _).set 2 _⟩
set_option maxRecDepth 100000 in
set_option maxHeartbeats 4000000 in
theorem two_any (w : World) (g : Nat) (a : Option Addr) (n cap : Nat) (bs : List UInt8) (s : St) (h : RdS w g a n cap bs s) :
    Calls Try.prog 29 #[.pointer (some ⟨g, 0, none⟩)] w (GotRet g a n cap bs (.int .i64 (getS bs 2 s).1) (getS bs 2 s).2 w) := by
  have HP := Lib.hid (get_any w g a n cap bs s h 2 (by omega) (by omega))
  go_enter Try.func29, Try.ntmps29
  go_wp2_with fail
  refine HP.out.mono ?_
  rintro e' W1 ⟨rfl, hr⟩
  go_wp2_with fail
  go_ret
  exact ⟨rfl, hr⟩
set_option maxRecDepth 100000 in
set_option maxHeartbeats 4000000 in
theorem less_any (w : World) (g : Nat) (a : Option Addr) (n cap : Nat) (bs : List UInt8) (s : St) (h : RdS w g a n cap bs s) :
    Calls Try.prog 68 #[.pointer (some ⟨g, 0, none⟩)] w (GotRet g a n cap bs (.int .i64 (lessS bs s).1) (lessS bs s).2 w) := by
  have HP := Lib.hid (get_any w g a n cap bs s h 2 (by omega) (by omega))
  have hv := getS_two bs 2 (by omega) s
  unfold lessS
  generalize (getS bs 2 s).1 = v at *
  generalize (getS bs 2 s).2 = s1 at *
  go_enter Try.func68, Try.ntmps68
  go_wp2_with fail
  refine HP.out.mono ?_
  rintro e' W1 ⟨rfl, hr⟩
  go_wp2_with fail
  go_ret
  exact ⟨rfl, hr⟩
theorem Sl.part {w : World} {b off n p m : Nat} {bs : List UInt8} (h : Sl encB w (some ⟨b, off, none⟩) n bs) (hm : p + m ≤ n) : Sl encB w (some ⟨b, off + p, none⟩) m ((bs.drop p).take m) := by
  refine ⟨by rw [List.length_take, List.length_drop, h.1]; omega, fun hn => ?_⟩
  obtain ⟨b', off', ha, hlt, hc⟩ := h.2 (by omega)
  cases ha
  refine ⟨b, off + p, rfl, hlt, fun i hi => ?_⟩
  have hi2 : i < m := by rw [List.length_take] at hi; omega
  rw [Nat.add_assoc, hc (p + i) (by rw [h.1]; omega)]
  simp
set_option maxRecDepth 100000 in
set_option maxHeartbeats 8000000 in
theorem text_any (w : World) (g : Nat) (a : Option Addr) (n cap : Nat) (bs : List UInt8) (s : St) (h : RdS w g a n cap bs s) (m : Nat) (h1 : 1 ≤ m) (h2 : m ≤ 2) :
    Calls Try.prog 69 #[.pointer (some ⟨g, 0, none⟩), .int .i64 m] w (GotRet g a n cap bs (encS (textS bs m s).1) (textS bs m s).2 w) := by
  have HP := Lib.hid (get_any w g a n cap bs s h m (by omega) (by omega))
  have hv := getS_two bs m h2 s
  have hst := getS_ok bs m h1 (by omega) s (by rw [h.sl.1]; exact h.ok)
  have HT := Lib.hid (show textS bs m s = textT bs (getS bs m s).1 (getS bs m s).2 from rfl)
  rw [HT.out]
  rw [h.sl.1] at hst
  clear HT h
  generalize (getS bs m s).1 = v at *
  generalize (getS bs m s).2 = s1 at *
  obtain ⟨p, er⟩ := s1
  obtain ⟨u, rfl⟩ : ∃ u : Nat, v = (u : Int) := ⟨v.toNat, by omega⟩
  go_enter Try.func69, Try.ntmps69
  go_wp2_with fail
  refine HP.out.mono ?_
  rintro e' W1 ⟨rfl, hr, hk⟩
  have H := Lib.hid hr
  have HK := Lib.hid hk
  have hsm := hr.sm
  have hle := hr.le
  obtain ⟨c0, c1, c2, f0, f1, f2, lt⟩ := hr.k.box
  simp only at c1 c2
  clear hr hk HP
  go_upto_region 2 with fail
  by_cases h0 : er = 0
  case neg =>
    have HT := Lib.hid (show textT bs u (p, er) = ([], (p, er)) by unfold textT; rw [if_pos h0])
    have en : (er != 0) = true := by simp [h0]
    have ee : (er == 0) = false := by simp [h0]
    clear h0
    have c0' := fun n => (show (W1.drewN n).cell? ⟨g, 0, none⟩ = some (.slice a _ cap) from c0)
    have c1' := fun n => (show (W1.drewN n).cell? ⟨g, 1, none⟩ = some (.int .i64 (p : Nat)) from c1)
    have c2' := fun n => (show (W1.drewN n).cell? ⟨g, 2, none⟩ = some (.int .i64 er) from c2)
    go_quiet (fail)
    have HR2 := Lib.hid (H.out.below (bdrewN (Below.refl W1.heap.size W1) nq))
    have HK2 := Lib.hid (HK.out.drewN nq)
    clear c0 c1 c2 f0 f1 f2 lt c0' c1' c2' H HK
    generalize W1.drewN nq = W2 at *
    obtain ⟨c0, c1, c2, f0, f1, f2, lt⟩ := HR2.out.k.box
    simp only at c2
    go_wp2_with fail
    go_ret
    rw [HT.out]
    exact ⟨rfl, HR2.out, HK2.out⟩
  subst h0
  have hp : p ≤ n := hst.1 rfl
  have hne := H.out.ne
  obtain ⟨b, off, rfl, _, _⟩ := H.out.sl.2 hne
  by_cases hs : (n : Int) - (p : Int) < u
  · have HT := Lib.hid (show textT bs u (p, 0) = ([], (p, 6)) by unfold textT; rw [if_neg (by simp), if_pos (by rw [H.out.sl.1]; exact hs)])
    have ed := decide_eq_true hs
    clear hs
    go_quiet (fail)
    have HR2 := Lib.hid (H.out.below (bdrewN (Below.refl W1.heap.size W1) nq))
    have HK2 := Lib.hid (HK.out.drewN nq)
    clear c0 c1 c2 f0 f1 f2 lt H HK
    generalize W1.drewN nq = W2 at *
    obtain ⟨c0, c1, c2, f0, f1, f2, lt⟩ := HR2.out.k.box
    simp only at c1 c2
    go_wp2_with fail
    go_ret
    rw [HT.out]
    have hb : W2.heap.size = W2.heap.size := rfl
    exact ⟨rfl, ⟨HR2.out.k.set2, HR2.out.sl.keep1 ((Keep1.refl g W2).set 2 _) HR2.out.off, HR2.out.off, hle, hsm, ⟨fun h => by simp at h, hst.2⟩, hne⟩, HK2.out.set 2 _⟩
  · have hpu : p + u ≤ n := by omega
    have HT := Lib.hid (show textT bs u (p, 0) = ((bs.drop p).take u, (p + u, 0)) by unfold textT; rw [if_neg (by simp), if_neg (by rw [H.out.sl.1]; exact hs)]; rfl)
    have ed := decide_eq_false hs
    clear hs
    go_quiet (fail)
    have HR2 := Lib.hid (H.out.below (bdrewN (Below.refl W1.heap.size W1) nq))
    have HK2 := Lib.hid (HK.out.drewN nq)
    clear c0 c1 c2 f0 f1 f2 lt H HK ed
    generalize W1.drewN nq = W2 at *
    obtain ⟨c0, c1, c2, f0, f1, f2, lt⟩ := HR2.out.k.box
    simp only at c1 c2
    obtain ⟨q, hq⟩ : ∃ q, q = p + u := ⟨_, rfl⟩
    have eq1 : (p : Int) + (u : Int) = (q : Int) := by omega
    have eq2 : (q : Int) - (u : Int) = (p : Int) := by omega
    have hqn : q ≤ n := by omega
    have hpq : p ≤ q := by omega
    have HQ := Lib.hid (show q - p = u by omega)
    have HQ2 := Lib.hid hq
    clear hq hpu
    go_upto_region 7 with fail
    have HR3 := Lib.hid (show Blk3 (W2.setCell ⟨g, 1, none⟩ (.int .i64 (q : Nat))) g (.slice (some ⟨b, off, none⟩) n cap) (.int .i64 (q : Nat)) (.int .i64 0) 79 from HR2.out.k.set1)
    have HS3 := Lib.hid (HR2.out.sl.keep1 ((Keep1.refl g W2).set 1 (.int .i64 (q : Nat))) HR2.out.off)
    have HK3 := Lib.hid (HK2.out.set 1 (.int .i64 (q : Nat)))
    have HOF := Lib.hid HR2.out.off
    clear c0 c1 c2 f0 f1 f2 lt HR2 HK2
    generalize W2.setCell ⟨g, 1, none⟩ (.int .i64 (q : Nat)) = W3 at *
    obtain ⟨c0, c1, c2, f0, f1, f2, lt⟩ := HR3.out.box
    by_cases hcp : cap = p
    · obtain rfl : q = p := by omega
      obtain rfl : cap = q := hcp
      have HZ := Lib.hid (show u = 0 by have := HQ2.out; omega)
      have HSN := Lib.hid (show Sl encB W3.drew (some ⟨b, off, none⟩) 0 [] from Sl.nil _ _)
      have HCV := Lib.hid (run_conv HSN.out 0)
      have hpc : (cap : Int) ≤ (cap : Int) := by omega
      have hqc : (cap : Int) ≤ (cap : Int) := by omega
      have hp0 : (0 : Int) ≤ (cap : Int) := by omega
      have l0 := fun z (h : EqW W3.drew z) => (show z.cell? ⟨g, 0, none⟩ = some (.slice (some ⟨b, off, none⟩) n cap) by rw [show z = W3.drew from h]; exact c0)
      have l1 := fun z (h : EqW W3.drew z) => (show z.cell? ⟨g, 1, none⟩ = some (.int .i64 (cap : Nat)) by rw [show z = W3.drew from h]; exact c1)
      have lcv := fun z (h : EqW W3.drew z) => (show (convert 35 9 (.slice (some ⟨b, off, none⟩) 0 0)).run Try.prog z = .ok (.string ⟨([] : List UInt8).toArray⟩) z by rw [show z = W3.drew from h]; exact HCV.out)
      have hSw : EqW W3.drew W3.drew := rfl
      refine wp_region_lexS (EqW W3.drew) (.stir [(0, true), (1, true), (2, true), (3, true), (4, true), (5, true), (6, true), (7, true), (8, true), (9, true), (10, true), (11, true), (12, true), (13, true), (14, true), (15, true), (16, true)]) (by kernel_rfl) (by kernel_rfl) (fun c a d v w h => by cases d <;> exact h) ?_
      refine lexS_stir (EqW W3.drew) (fun y hy => hy) rfl ?_
      clear c0 c1 c2 f0 f1 f2 lt
      iterate 17
        refine stir_step (fun K hK => ?_)
        simp only [stirOp, List.getElem?_toArray, List.getElem?_cons_succ, List.getElem?_cons_zero]
        rw [if_pos (by rfl)]
        apply Exists.intro
        refine ⟨fun w' hS' => ?_, ?_⟩
        · first | (go_simp <;> with_reducible rfl) | (go_simp; go_bits; with_reducible rfl)
        go_simp
        try go_bits
        refine hK _ ?_
        clear hK K
      refine stir_nil (fun y hy => ?_)
      obtain rfl : y = W3.drew := hy
      go_wp2_with fail
      go_ret
      rw [HT.out, ← HQ2.out]
      exact ⟨by rw [HZ.out]; rfl, ⟨HR3.out, HS3.out, HOF.out, hle, hsm, ⟨fun _ => hqn, by show cap ≤ n + 8; omega⟩, hne⟩, HK3.out.drew⟩
    · have hpt : p + (q - p) ≤ n := by omega
      have HCV := Lib.hid (run_conv ((HS3.out.part hpt).below (Below.refl W3.heap.size W3).drew) (cap - p))
      have hpc : (p : Int) ≤ (q : Int) := by omega
      have hqc : (q : Int) ≤ (cap : Int) := by omega
      have hp0 : (0 : Int) ≤ (p : Int) := by omega
      have l0 := fun z (h : EqW W3.drew z) => (show z.cell? ⟨g, 0, none⟩ = some (.slice (some ⟨b, off, none⟩) n cap) by rw [show z = W3.drew from h]; exact c0)
      have l1 := fun z (h : EqW W3.drew z) => (show z.cell? ⟨g, 1, none⟩ = some (.int .i64 (q : Nat)) by rw [show z = W3.drew from h]; exact c1)
      have lcv := fun z (h : EqW W3.drew z) => (show (convert 35 9 (.slice (some ⟨b, off + p, none⟩) (q - p) (cap - p))).run Try.prog z = .ok (.string ⟨((bs.drop p).take (q - p)).toArray⟩) z by rw [show z = W3.drew from h]; exact HCV.out)
      have hSw : EqW W3.drew W3.drew := rfl
      refine wp_region_lexS (EqW W3.drew) (.stir [(0, true), (1, true), (2, true), (3, true), (4, true), (5, true), (6, true), (7, true), (8, true), (9, true), (10, true), (11, true), (12, true), (13, true), (14, true), (15, true), (16, true)]) (by kernel_rfl) (by kernel_rfl) (fun c a d v w h => by cases d <;> exact h) ?_
      refine lexS_stir (EqW W3.drew) (fun y hy => hy) rfl ?_
      clear c0 c1 c2 f0 f1 f2 lt
      iterate 17
        refine stir_step (fun K hK => ?_)
        simp only [stirOp, List.getElem?_toArray, List.getElem?_cons_succ, List.getElem?_cons_zero]
        rw [if_pos (by rfl)]
        apply Exists.intro
        refine ⟨fun w' hS' => ?_, ?_⟩
        · first | (go_simp <;> with_reducible rfl) | (go_simp; go_bits; with_reducible rfl)
        go_simp
        try go_bits
        refine hK _ ?_
        clear hK K
      refine stir_nil (fun y hy => ?_)
      obtain rfl : y = W3.drew := hy
      go_wp2_with fail
      go_ret
      rw [HT.out, ← HQ2.out]
      exact ⟨by rw [HQ.out]; rfl, ⟨HR3.out, HS3.out, HOF.out, hle, hsm, ⟨fun _ => hqn, by show q ≤ n + 8; omega⟩, hne⟩, HK3.out.drew⟩
end Go.Proofs.Ytbcldlbmbdfejaa
