/- nor: fixed. No condition. -/
import Derived.Test.YtdnnodpchjnleaaNorNew
import Derived.KernelRfl
namespace Go.Proofs.Ytdnnodpchjnleaa
open Go.ChangeShapes Go.WideShapes Go.ChangeAt Go.RowKit
theorem Sl.ofOwnS {α : Type} {enc : α → Value} {w : World} {base : Nat} {e : TypeId} {a : Option Addr} {n c : Nat} {xs : List α} (h : w.ownsRow base e 1 (.slice a n c) n (xs.map enc)) : Sl enc w a n xs ∧ n ≤ c := by
  obtain ⟨a', c', he, hs, hc⟩ := Sl.ofOwn h
  cases he
  exact ⟨hs, hc⟩
/-- A flash and its blocks, all from block B on. -/
structure FlAt (B : Nat) (w : World) (g gb gc cb cc : Nat) (f : Fl) : Prop where
  fl : FlA w g gb gc cb cc f
  b1 : B ≤ g
  b2 : B ≤ gb
  b3 : B ≤ gc
theorem FlAt.below {B : Nat} {w w' : World} {g gb gc cb cc : Nat} {f : Fl} (h : FlAt B w g gb gc cb cc f) (hb : Below w.heap.size w w') : FlAt B w' g gb gc cb cc f := ⟨h.fl.below hb, h.b1, h.b2, h.b3⟩
theorem NotIn.old {a : Option Addr} {n B g : Nat} {α : Type} {enc : α → Value} {w : World} {xs : List α} (h : Sl enc w a n xs) (hw : w.heap.size ≤ B) (hg : B ≤ g) : NotIn a n g := h.notIn (by omega)
theorem NotIn.new {x off n g : Nat} (h : g < x) : NotIn (some ⟨x, off, none⟩) n g := fun _ b o e => by cases e; omega
theorem NotIn.nil {a : Option Addr} {g : Nat} : NotIn a 0 g := fun h => absurd h (by omega)
/-- What an act leaves. -/
def Acted (B : Nat) (w0 : World) (g gb gc cb cc : Nat) (f : Fl) (r : Ending) (e : Ending) (w' : World) : Prop := e = r ∧ FlAt B w' g gb gc cb cc f ∧ Below B w0 w'
theorem Turned.acted {B : Nat} {w0 w w' : World} {g gb gc cb cc : Nat} {f f0 : Fl} {r e : Ending} (h : Turned 71 w g gb gc cb cc f r e w') (h0 : FlAt B w g gb gc cb cc f0) (hb : Below B w0 w) (hB : B ≤ w0.heap.size) : Acted B w0 g gb gc cb cc f r e w' :=
  ⟨h.1, ⟨h.2.1, h0.b1, h0.b2, h0.b3⟩, h.2.2.below hb hB h0.b1 h0.b2 h0.b3⟩
/-- A program of one byte that was laid just now. -/
theorem Prog_lit (B : Nat) (w0 w : World) (g gb gc cb cc : Nat) (f : Fl) (hf : FlAt B w g gb gc cb cc f) (hb : Below B w0 w) (hB : B ≤ w0.heap.size) (p : Int) (hp : IntR p) (x : UInt8) (v : Int) (hv : v = (x.toNat : Int)) :
    Calls Try.prog 15 #[.pointer (some ⟨g, 0, none⟩), .int .i64 p, .slice (some ⟨w.heap.size, 0, none⟩) 1 1] (w.alloc (.cells #[.int .u8 v] 5)) (Acted B w0 g gb gc cb cc (f.prog p [x]) (.returned (.int .i64 (f.progE p [x])))) := by
  subst hv
  have hb1 : Below w.heap.size w (w.alloc (.cells #[.int .u8 (x.toNat : Int)] 5)) := (Below.refl _ _).alloc (Nat.le_refl _) _
  have hl := hf.fl.lt
  refine (Program_any _ g gb gc cb cc f (hf.fl.below hb1) p _ 1 1 [x] (Sl.lit (heap_alloc_last w _) rfl rfl) (Nat.le_refl _) hp (by decide) (NotIn.new hl.1) (NotIn.new hl.2.1) (NotIn.new hl.2.2)).mono fun e w' h => ?_
  exact Turned.acted h (hf.below hb1) (hb.trans (hb1.mono (Nat.le_trans hB hb.size))) hB
theorem Prog_kept (B : Nat) (w0 w : World) (g gb gc cb cc : Nat) (f : Fl) (hf : FlAt B w g gb gc cb cc f) (hb : Below B w0 w) (hB : B ≤ w0.heap.size) (p : Int) (hp : IntR p) (x : UInt8) (v : Int) (hv : v = (x.toNat : Int)) :
    Calls Try.prog 15 #[.pointer (some ⟨g, 0, none⟩), .int .i64 p, .slice (some ⟨w.heap.size, 0, none⟩) 1 1] (w.alloc (.cells #[.int .u8 v] 5)) fun e w' => e = .returned (.int .i64 (f.progE p [x])) ∧ Kept g gb gc w w' ∧ Below B w0 w' := by
  subst hv
  have hb1 : Below w.heap.size w (w.alloc (.cells #[.int .u8 (x.toNat : Int)] 5)) := (Below.refl _ _).alloc (Nat.le_refl _) _
  have hl := hf.fl.lt
  refine (Program_any _ g gb gc cb cc f (hf.fl.below hb1) p _ 1 1 [x] (Sl.lit (heap_alloc_last w _) rfl rfl) (Nat.le_refl _) hp (by decide) (NotIn.new hl.1) (NotIn.new hl.2.1) (NotIn.new hl.2.2)).mono fun e w' h => ?_
  exact ⟨h.1, (Kept.ofBelow hb1).trans h.2.2, (Turned.acted h (hf.below hb1) (hb.trans (hb1.mono (Nat.le_trans hB hb.size))) hB).2.2⟩
theorem Erase_at (B : Nat) (w0 w : World) (g gb gc cb cc : Nat) (f : Fl) (hf : FlAt B w g gb gc cb cc f) (hb : Below B w0 w) (hB : B ≤ w0.heap.size) (s : Int) (hs : IntR s) :
    Calls Try.prog 17 #[.pointer (some ⟨g, 0, none⟩), .int .i64 s] w (Acted B w0 g gb gc cb cc (f.erase s) (.returned (.int .i64 (f.eraseE s)))) :=
  (Erase_any w g gb gc cb cc f hf.fl s hs).mono fun _ _ h => Turned.acted h hf hb hB
theorem Fuse_at (B : Nat) (w0 w : World) (g gb gc cb cc : Nat) (f : Fl) (hf : FlAt B w g gb gc cb cc f) (hb : Below B w0 w) (hB : B ≤ w0.heap.size) (n keep : Int) (mask : UInt8) (hn : IntR n) (hk : IntR keep) :
    Calls Try.prog 16 #[.pointer (some ⟨g, 0, none⟩), .int .i64 n, .agg #[.int .i64 keep, .int .u8 (mask.toNat : Int)]] w (Acted B w0 g gb gc cb cc (f.fuse n keep mask) (.returned (.tuple #[]))) :=
  (Fuse_any w g gb gc cb cc f hf.fl n keep mask hn hk).mono fun _ _ h => Turned.acted h hf hb hB
theorem Reset_at (B : Nat) (w0 w : World) (g gb gc cb cc : Nat) (f : Fl) (hf : FlAt B w g gb gc cb cc f) (hb : Below B w0 w) (hB : B ≤ w0.heap.size) :
    Calls Try.prog 18 #[.pointer (some ⟨g, 0, none⟩)] w (Acted B w0 g gb gc cb cc f.reset (.returned (.tuple #[]))) :=
  (Reset_any w g gb gc cb cc f hf.fl).mono fun _ _ h => Turned.acted h hf hb hB
theorem Program_at (B : Nat) (w0 w : World) (g gb gc cb cc : Nat) (f : Fl) (hf : FlAt B w g gb gc cb cc f) (hb : Below B w0 w) (hB : B ≤ w0.heap.size) (p : Int) (a : Option Addr) (n cap : Nat) (bs : List UInt8) (hs : Sl encB w a n bs) (hcap : n ≤ cap) (hp : IntR p) (hn : n ≤ maxLen)
    (h1 : NotIn a n g) (h2 : NotIn a n gb) (h3 : NotIn a n gc) :
    Calls Try.prog 15 #[.pointer (some ⟨g, 0, none⟩), .int .i64 p, .slice a n cap] w (Acted B w0 g gb gc cb cc (f.prog p bs) (.returned (.int .i64 (f.progE p bs)))) :=
  (Program_any w g gb gc cb cc f hf.fl p a n cap bs hs hcap hp hn h1 h2 h3).mono fun _ _ h => Turned.acted h hf hb hB
/-- What a read leaves. -/
def ReadAt (B : Nat) (w0 w : World) (g gb gc cb cc : Nat) (f : Fl) (er : Int) (bs : List UInt8) (e : Ending) (w' : World) : Prop :=
  ∃ a m c, e = .returned (.tuple #[.slice a m c, .int .i64 er]) ∧ w'.ownsRow w.heap.size 5 1 (.slice a m c) m (bs.map encB) ∧ m ≤ c ∧ FlAt B w' g gb gc cb cc f ∧ Below B w0 w' ∧ Below w.heap.size w w'
theorem Read_at (B : Nat) (w0 w : World) (g gb gc cb cc : Nat) (f : Fl) (hf : FlAt B w g gb gc cb cc f) (hb : Below B w0 w) (hB : B ≤ w0.heap.size) (p n : Int) (hp : IntR p) (hn : IntR n) :
    Calls Try.prog 28 #[.pointer (some ⟨g, 0, none⟩), .int .i64 p, .int .i64 n] w (ReadAt B w0 w g gb gc cb cc f (f.readE p n) (f.readB p n)) :=
  (Read_any w g gb gc cb cc f hf.fl p n hp hn).mono fun e w' h => by
    obtain ⟨a, m, c, rfl, hown, hb'⟩ := h
    obtain ⟨a', c', he, _, hc⟩ := Sl.ofOwn hown
    cases he
    exact ⟨a, m, c, rfl, hown, hc, hf.below hb', hb.trans (hb'.mono (Nat.le_trans hB hb.size)), hb'⟩
theorem Erases_at (B : Nat) (w : World) (g gb gc cb cc : Nat) (f : Fl) (hf : FlAt B w g gb gc cb cc f) (s : Int) (hs : IntR s) :
    Calls Try.prog 29 #[.pointer (some ⟨g, 0, none⟩), .int .i64 s] w fun e w' => e = .returned (.int .i64 (f.count s)) ∧ w = w' := Erases_any w g gb gc cb cc f hf.fl s hs
def NewMade (w : World) (S Z L : Nat) (e : Ending) (w' : World) : Prop := ∃ g gb gc cb cc, e = .returned (.tuple #[.pointer (some ⟨g, 0, none⟩), .int .i64 0]) ∧ FlAt w.heap.size w' g gb gc cb cc (Fl.mk0 S Z L) ∧ Below w.heap.size w w'
theorem New_made (w : World) (S Z L : Nat) (h : newOk S Z L) : Calls Try.prog 32 #[.agg #[.int .i64 S, .int .i64 Z, .int .i64 L]] w (NewMade w S Z L) :=
  (New_yes w S Z L h).mono fun e w' h => by
    obtain ⟨g, rfl, ⟨gb, gc, cb, cc, hf, h1, h2, h3⟩, hb⟩ := h
    exact ⟨g, gb, gc, cb, cc, rfl, ⟨hf, h1, h2, h3⟩, hb⟩
def fx0 : Fl := Fl.mk0 2 64 3
def fx1 : Fl := fx0.prog 0 [15]
def fx2 : Fl := fx1.erase 0
theorem fx_a : fx0.progE 0 [15] = 0 := by kernel_rfl
theorem fx_b : fx1.progE 0 [240] = 3 := by kernel_rfl
theorem fx_p : fx1.prog 0 [240] = fx1 := by
  have h : fx1.progs 0 [240] = false := by kernel_rfl
  have e : fx1.prog 0 [240] = if fx1.progs 0 [240] = true then { fx1.tick with bs := fx1.progB (0 : Int).toNat [240] } else fx1 := rfl
  rw [e, h, if_neg (by decide)]
theorem fx_c : fx1.eraseE 0 = 0 := by kernel_rfl
theorem fx_d : fx2.readE 0 2 = 0 := by kernel_rfl
theorem fx_l : fx2.readB 0 2 = [255, 255] := by kernel_rfl
theorem fx_e : fx2.count 0 = 1 := by kernel_rfl
theorem fx_f : fx2.count 1 = 0 := by kernel_rfl
end Go.Proofs.Ytdnnodpchjnleaa
