/- klass: what is written is read back, part by part. Plain. -/
import Derived.Test.YtnfhiakdbakpgaaQ19KlassCuts
namespace Go.Proofs.Ytnfhiakdbakpgaa
open Go.RowKit
/-- A reader reads a value out of what was written, wherever that stands. -/
def Reads {α : Type} (B : List UInt8) (R : List UInt8 → RM α) (v : α) : Prop :=
  ∀ pre t : List UInt8, R (pre ++ (B ++ t)) (pre.length, 0) = (v, (pre.length + B.length, 0))
theorem Reads.pure {α : Type} (v : α) : Reads [] (fun _ => pureR v) v := fun pre t => rfl
theorem Reads.bind {α β : Type} {B1 B2 : List UInt8} {R1 : List UInt8 → RM α} {G : List UInt8 → α → RM β} {v1 : α} {v2 : β} (h1 : Reads B1 R1 v1) (h2 : Reads B2 (fun bs => G bs v1) v2) : Reads (B1 ++ B2) (fun bs => bindR (R1 bs) (G bs)) v2 := by
  intro pre t
  have e1 := h1 pre (B2 ++ t)
  have e2 := h2 (pre ++ B1) t
  rw [List.append_assoc] at e2
  show bindR (R1 _) (G _) (pre.length, 0) = _
  rw [List.append_assoc]
  unfold bindR
  rw [e1]
  simp only
  rw [List.length_append] at e2
  simp only at e2
  rw [e2, List.length_append, Nat.add_assoc]
theorem Reads.last {α β : Type} {B1 : List UInt8} {R1 : List UInt8 → RM α} {G : List UInt8 → α → RM β} {v1 : α} {v2 : β} (h1 : Reads B1 R1 v1) (h2 : ∀ bs, G bs v1 = pureR v2) : Reads B1 (fun bs => bindR (R1 bs) (G bs)) v2 := by
  have h : Reads (B1 ++ []) (fun bs => bindR (R1 bs) (G bs)) v2 := Reads.bind h1 (fun pre t => by show G _ v1 _ = _; rw [h2]; rfl)
  rwa [List.append_nil] at h
/-- A number that so many bytes hold. -/
def Room (n : Nat) (v : Int) : Prop := 0 ≤ v ∧ v < ((256 ^ n : Nat) : Int)
theorem Reads.get {v : Int} {n : Nat} (h1 : 1 ≤ n) (hn : n ≤ 4) (h : Room n v) : Reads (putB (u64N v) n) (fun bs => getS bs n) v := by
  intro pre t
  show getS _ n _ = _
  unfold getS
  have h3 : (256 ^ n : Nat) ≤ 4294967296 := by
    have : n = 1 ∨ n = 2 ∨ n = 3 ∨ n = 4 := by omega
    rcases this with rfl | rfl | rfl | rfl <;> decide
  have hv : ((u64N v % 256 ^ n : Nat) : Int) = v := by
    obtain ⟨g1, g2⟩ := h
    unfold u64N
    rw [Nat.mod_eq_of_lt (by omega)]
    omega
  rw [if_neg (by simp), get_put_at pre t _ n h1 (by omega), hv, putB_length]
theorem Reads.two {v : Int} (h : Room 2 v) : Reads (z2 [v]) (fun bs => getS bs 2) v := by rw [two_eq]; exact Reads.get (by decide) (by decide) h
theorem Reads.four {v : Int} (h : Room 4 v) : Reads (z4 v) (fun bs => getS bs 4) v := Reads.get (by decide) (by decide) h
theorem Reads.mustOne {bs : List UInt8} {m : Nat} {s : St} {x : Int} {q : Nat} (h : getS bs m s = (x, (q, 0))) : mustOne bs m s x = (q, 0) := by
  unfold Go.Proofs.Ytnfhiakdbakpgaa.mustOne
  rw [h]
  simp
theorem Reads.must {m : Nat} (h1 : 1 ≤ m) (h4 : m ≤ 4) : ∀ (l : List Int), (∀ x ∈ l, Room m x) → Reads (l.flatMap fun v => putB (u64N v) m) (fun bs => mustS bs m l) ()
  | [], _ => fun pre t => by simp [mustS]
  | x :: l, h => by
    intro pre t
    have e1 := Reads.get h1 h4 (h x (List.mem_cons_self ..)) pre ((l.flatMap fun v => putB (u64N v) m) ++ t)
    have e2 := Reads.must h1 h4 l (fun y hy => h y (List.mem_cons_of_mem _ hy)) (pre ++ putB (u64N x) m) t
    simp only at e1 e2
    rw [List.append_assoc, List.length_append] at e2
    simp only [List.flatMap_cons]
    rw [List.append_assoc]
    have hm : ∀ (bs : List UInt8) (s : St), mustS bs m (x :: l) s = mustS bs m l (Go.Proofs.Ytnfhiakdbakpgaa.mustOne bs m s x) := fun _ _ => rfl
    rw [hm, Reads.mustOne e1, e2, List.length_append, Nat.add_assoc]
theorem Reads.bytes {s : List UInt8} : Reads s (fun bs => bytesS bs (s.length : Nat)) s := by
  intro pre t
  show bytesS _ _ _ = _
  unfold bytesS
  rw [if_neg (by simp), if_neg (by simp only [List.length_append]; omega)]
  simp only [Int.toNat_natCast]
  rw [List.drop_left, List.take_left]
theorem Reads.row {α β : Type} {F : α → List UInt8} {R : List UInt8 → RM β} {f : α → β} (l : List α) (h : ∀ x ∈ l, Reads (F x) R (f x)) : Reads (l.flatMap F) (fun bs => rowS (R bs) l.length) (l.map f) := by
  induction l with
  | nil => exact Reads.pure _
  | cons x l ih =>
    intro pre t
    have e1 := h x (List.mem_cons_self ..) pre (l.flatMap F ++ t)
    have e2 := ih (fun y hy => h y (List.mem_cons_of_mem _ hy)) (pre ++ F x) t
    rw [List.append_assoc, List.length_append] at e2
    simp only [List.flatMap_cons, List.length_cons, List.map_cons, rowS]
    rw [if_neg (by simp), List.append_assoc, e1]
    simp only
    simp only at e2
    rw [e2, List.length_append, Nat.add_assoc]
theorem Reads.times {α β : Type} {F : α → List UInt8} {R : List UInt8 → RM β} {f : α → β} (l : List α) (h : ∀ x ∈ l, Reads (F x) R (f x)) {most : Int} (hm : (l.length : Int) ≤ most) : Reads (l.flatMap F) (fun bs => timesS most (R bs) (l.length : Int)) (l.map f) := by
  intro pre t
  have e := Reads.row l h pre t
  show timesS most (R _) _ _ = _
  unfold timesS bindR badS
  have hd : decide (most < (l.length : Int)) = false := decide_eq_false (by omega)
  simp only [hd, Bool.false_eq_true, and_false, if_false, Int.toNat_natCast]
  exact e
theorem Reads.sized {α : Type} {B : List UInt8} {R : List UInt8 → RM α} {v : α} (h : Reads B R v) (hl : B.length < 4294967296) : Reads (z4 (B.length : Int) ++ B) (fun bs => sizedS bs (R bs)) v := by
  intro pre t
  have e1 := Reads.four (v := (B.length : Int)) ⟨by omega, by omega⟩ pre (B ++ t)
  have e2 := h (pre ++ z4 (B.length : Int)) t
  simp only at e1 e2
  rw [List.append_assoc, List.length_append] at e2
  show sizedS _ _ _ = _
  unfold sizedS
  rw [List.append_assoc, e1]
  simp only
  rw [e2]
  simp only
  rw [if_neg (by intro hc; apply hc.2; omega), List.length_append, Nat.add_assoc]
end Go.Proofs.Ytnfhiakdbakpgaa
/- klass: slots, maps, traps and members are read back. Plain. -/
namespace Go.Proofs.Ytnfhiakdbakpgaa
open Go.RowKit
theorem cls_room {L : List KV} (hL : L.length ≤ 65535) {i : Int} (h : clsOk L i = true) : Room 2 i := by
  unfold clsOk classAt at h
  by_cases hi : isT L i 7 = true
  · obtain ⟨h1, h2, _⟩ := isT_true hi
    have e : ((256 ^ 2 : Nat) : Int) = 65536 := by decide
    exact ⟨by omega, by rw [e]; omega⟩
  · rw [if_neg hi] at h; cases h
theorem text_room {L : List KV} (hL : L.length ≤ 65535) {i : Int} (h : isT L i 1 = true) : Room 2 i := by
  obtain ⟨h1, h2, _⟩ := isT_true h
  have e : ((256 ^ 2 : Nat) : Int) = 65536 := by decide
  exact ⟨by omega, by rw [e]; omega⟩
theorem wide_room {i : Int} (h : wideOk i = true) : Room 2 i := by
  have h2 := of_decide_eq_true h
  have e : ((256 ^ 2 : Nat) : Int) = 65536 := by decide
  exact ⟨h2.1, by rw [e]; omega⟩
theorem len_room (n : Nat) (h : n ≤ 65535) : Room 2 (n : Int) := by
  have e : ((256 ^ 2 : Nat) : Int) = 65536 := by decide
  exact ⟨by omega, by rw [e]; omega⟩
theorem Reads.slot {L : List KV} (hL : L.length ≤ 65535) (s : KS) (h : slotOk L s = true) : Reads (slotB s) slotS s := by
  obtain ⟨tg, a⟩ := s
  have e1 : ((256 ^ 1 : Nat) : Int) = 256 := by decide
  by_cases h7 : tg = 7
  · subst h7
    have ha : Room 2 a := cls_room hL (by unfold slotOk at h; simpa using h)
    have hb : slotB ⟨7, a⟩ = putB (u64N 7) 1 ++ z2 [a] := by rw [u8_one 7 (by omega)]; rfl
    rw [hb]
    have hl : Reads (z2 [a]) (fun bs => bindR (getS bs 2) fun a => pureR (⟨7, a⟩ : KS)) ⟨7, a⟩ := Reads.last (G := fun _ a => pureR (⟨7, a⟩ : KS)) (Reads.two ha) (fun _ => rfl)
    exact Reads.bind (G := fun bs tg => if tg = 7 then bindR (getS bs 2) fun a => pureR (⟨tg, a⟩ : KS) else pureR (⟨tg, 0⟩ : KS)) (Reads.get (v := 7) (n := 1) (by decide) (by decide) ⟨by omega, by rw [e1]; omega⟩) (by simpa using hl)
  · unfold slotOk at h
    simp only [h7, if_false, Bool.and_eq_true, decide_eq_true_eq] at h
    obtain ⟨ht, ha⟩ := h
    subst ha
    have hb : slotB ⟨tg, 0⟩ = putB (u64N tg) 1 := by rw [u8_one tg (by omega)]; unfold slotB; simp [h7]
    rw [hb]
    exact Reads.last (G := fun bs tg => if tg = 7 then bindR (getS bs 2) fun a => pureR (⟨tg, a⟩ : KS) else pureR (⟨tg, 0⟩ : KS)) (Reads.get (v := tg) (n := 1) (by decide) (by decide) ⟨by omega, by rw [e1]; omega⟩) (fun bs => by simp [h7])
theorem Reads.slots {L : List KV} (hL : L.length ≤ 65535) (l : List KS) (h : slotsOk L 64 l = true) : Reads (slotsB l) (fun bs => slotsS bs 64) l := by
  unfold slotsOk at h
  simp only [Bool.and_eq_true, decide_eq_true_eq] at h
  have e := Reads.times (f := fun x : KS => x) (most := 64) l (fun x hx => Reads.slot hL x (List.all_eq_true.1 h.2 x hx)) h.1
  rw [List.map_id'] at e
  exact Reads.bind (Reads.two (len_room l.length (by omega))) e
theorem Reads.kmap {L : List KV} (hL : L.length ≤ 65535) (p : KP) (h : mapOk L p = true) : Reads (kmapB p) kmapS p.p := by
  unfold mapOk at h
  simp only [Bool.and_eq_true] at h
  unfold kmapB
  rw [List.append_assoc]
  exact Reads.bind (Reads.two (wide_room h.1.1)) (Reads.bind (Reads.slots hL p.loc h.1.2) (Reads.last (Reads.slots hL p.stk h.2) (fun _ => rfl)))
theorem z2_cons (v : Int) (l : List Int) : z2 (v :: l) = z2 [v] ++ z2 l := by unfold z2; simp
theorem Reads.trap {L : List KV} (hL : L.length ≤ 65535) (t : KT) (h : trapOk L t = true) : Reads (trapB t) trapS t := by
  obtain ⟨fr, tt, pl, cl⟩ := t
  unfold trapOk at h
  simp only [Bool.and_eq_true, List.all_cons, List.all_nil, Bool.or_eq_true, decide_eq_true_eq] at h
  obtain ⟨⟨h1, h2, h3, -⟩, h4⟩ := h
  have hc : Room 2 cl := by
    rcases h4 with h4 | h4
    · rw [h4]; exact len_room 0 (by omega)
    · exact cls_room hL h4
  unfold trapB
  rw [z2_cons, z2_cons, z2_cons]
  exact Reads.bind (Reads.two (wide_room h1)) (Reads.bind (Reads.two (wide_room h2)) (Reads.bind (Reads.two (wide_room h3)) (Reads.last (Reads.two hc) (fun _ => rfl))))
end Go.Proofs.Ytnfhiakdbakpgaa
/- klass: codes and methods are read back. Plain. -/
namespace Go.Proofs.Ytnfhiakdbakpgaa
open Go.RowKit
theorem Reads.maps {L : List KV} (hL : L.length ≤ 65535) (l : List KP) (hl : l.length ≤ 255) (h0 : l.length ≠ 0) (h : l.all (mapOk L) = true) : Reads (mapsB l) mapsS (l.map KP.p) := by
  have e := Reads.times (R := kmapS) (f := KP.p) (most := 255) l (fun x hx => Reads.kmap hL x (List.all_eq_true.1 h x hx)) (by omega)
  have e2 : Reads ([] ++ l.flatMap kmapB) (fun bs => bindR (badS fun _ => decide ((l.length : Int) = 0)) fun _ => timesS 255 (kmapS bs) (l.length : Int)) (l.map KP.p) := by
    refine Reads.bind (R1 := fun _ => badS fun _ => decide ((l.length : Int) = 0)) (G := fun bs _ => timesS 255 (kmapS bs) (l.length : Int)) (v1 := ()) (fun pre t => ?_) e
    unfold badS
    have hd : decide ((l.length : Int) = 0) = false := decide_eq_false (by omega)
    simp only [hd, Bool.false_eq_true, and_false, if_false, List.length_nil, Nat.add_zero]
  rw [List.nil_append] at e2
  exact Reads.bind (Reads.two (len_room l.length (by omega))) e2
theorem find_room {L : List KV} (hL : L.length ≤ 65535) (s : List UInt8) : Room 2 (findT L s : Int) := by
  have := findT_lt L s
  exact len_room _ (by omega)
theorem tailB_split (L : List KV) (maps : List KP) : tailB L maps = z2 [if maps.length = 0 then 0 else 1] ++ tailR L (if maps.length = 0 then 0 else 1) maps := by
  unfold tailB tailR
  by_cases h : maps.length = 0
  · simp [h]
  · simp only [h, if_false]
    unfold z2 z4
    simp
theorem Reads.tail {L : List KV} (hL : L.length ≤ 65535) (maps : List KP) (hl : maps.length ≤ 255) (h : maps.all (mapOk L) = true) (hs : (mapsB maps).length < 4294967296) : Reads (tailR L (if maps.length = 0 then 0 else 1) maps) (fun bs => tailS bs L (if maps.length = 0 then 0 else 1)) (maps.map KP.p) := by
  by_cases h0 : maps.length = 0
  · have hm : maps = [] := List.eq_nil_of_length_eq_zero h0
    subst hm
    intro pre t
    simp [tailR, tailS, pureR]
  · simp only [h0, if_false]
    unfold tailR tailS
    simp only [show ((1 : Int) = 0) = False by simp, if_false, if_true]
    exact Reads.bind (Reads.must (by decide) (by decide) [(findT L sMap : Int)] (fun x hx => by rw [List.mem_singleton.1 hx]; exact find_room hL _)) (Reads.sized (Reads.maps hL maps hl h0 h) hs)
end Go.Proofs.Ytnfhiakdbakpgaa
/- klass: methods and fields are read back. Plain. -/
namespace Go.Proofs.Ytnfhiakdbakpgaa
open Go.RowKit
theorem z4_room (n : Nat) (h : n < 4294967296) : Room 4 (n : Int) := by
  have e : ((256 ^ 4 : Nat) : Int) = 4294967296 := by decide
  exact ⟨by omega, by rw [e]; omega⟩
theorem memb_room {L : List KV} (hL : L.length ≤ 65535) {fl nm ds : Int} (h : membOk L fl nm ds = true) : Room 2 fl ∧ Room 2 nm ∧ Room 2 ds := by
  unfold membOk at h
  simp only [Bool.and_eq_true, decide_eq_true_eq] at h
  have e : ((256 ^ 2 : Nat) : Int) = 65536 := by decide
  exact ⟨⟨by omega, by rw [e]; omega⟩, text_room hL h.1.2, text_room hL h.2⟩
theorem Reads.field {L : List KV} (hL : L.length ≤ 65535) (d : KD) (h : membOk L d.fl d.nm d.ds = true) : Reads (fieldB d) fieldS d := by
  obtain ⟨fl, nm, ds⟩ := d
  obtain ⟨h1, h2, h3⟩ := memb_room hL h
  unfold fieldB
  rw [z2_cons, z2_cons, z2_cons]
  exact Reads.bind (Reads.two h1) (Reads.bind (Reads.two h2) (Reads.bind (Reads.two h3) (Reads.last (Reads.must (by decide) (by decide) [0] (fun x hx => by rw [List.mem_singleton.1 hx]; exact len_room 0 (by omega))) (fun _ => rfl))))
set_option maxHeartbeats 2000000 in
theorem Reads.code {L : List KV} (hL : L.length ≤ 65535) (m : KM) (h : methOk L m = true) (hs : (codeB L m).length < 4294967296) : Reads (codeB L m) (fun bs => kcodeS bs L m.fl m.nm m.ds) m.p := by
  obtain ⟨fl, nm, ds, st, lo, ca, cn, cc, code, ta, tn, tc, traps, ma, mn, mc, maps⟩ := m
  unfold methOk sizesOk lensOk at h
  simp only [Bool.and_eq_true, decide_eq_true_eq] at h
  obtain ⟨⟨⟨⟨⟨-, hsz⟩, hln⟩, htr⟩, hmp⟩, -⟩ := h
  have e : ((256 ^ 2 : Nat) : Int) = 65536 := by decide
  have hst : Room 2 st := ⟨by omega, by rw [e]; omega⟩
  have hlo : Room 2 lo := ⟨by omega, by rw [e]; omega⟩
  have hml : (mapsB maps).length < 4294967296 := by
    by_cases h0 : maps.length = 0
    · have hm : maps = [] := List.eq_nil_of_length_eq_zero h0
      subst hm
      unfold mapsB
      simp [z2_len]
    · rw [codeB_len] at hs
      unfold tailB at hs
      simp only [h0, if_false, List.length_append] at hs
      omega
  have hT := Reads.times (f := fun t : KT => t) (most := 255) traps (fun t ht => Reads.trap hL t (List.all_eq_true.1 htr t ht)) (by omega)
  rw [List.map_id'] at hT
  have hB : codeB L ⟨fl, nm, ds, st, lo, ca, cn, cc, code, ta, tn, tc, traps, ma, mn, mc, maps⟩ = z2 [st] ++ (z2 [lo] ++ (z4 (code.length : Int) ++ (code ++ (z2 [(traps.length : Int)] ++ (traps.flatMap trapB ++ (z2 [if maps.length = 0 then 0 else 1] ++ tailR L (if maps.length = 0 then 0 else 1) maps)))))) := by
    unfold codeB
    rw [tailB_split, z2_cons]
    simp only [List.append_assoc]
  rw [hB]
  have hk : Room 2 (if maps.length = 0 then 0 else 1) := by split; exact len_room 0 (by omega); exact len_room 1 (by omega)
  exact Reads.bind (Reads.two hst) (Reads.bind (Reads.two hlo) (Reads.bind (Reads.four (z4_room _ (by omega))) (Reads.bind Reads.bytes (Reads.bind (Reads.two (len_room _ (by omega))) (Reads.bind hT (Reads.bind (Reads.two hk) (Reads.last (Reads.tail hL maps (by omega) hmp hml) (fun _ => rfl))))))))
end Go.Proofs.Ytnfhiakdbakpgaa
/- klass: a class is read back. Plain. -/
namespace Go.Proofs.Ytnfhiakdbakpgaa
open Go.RowKit
set_option maxHeartbeats 2000000 in
theorem Reads.meth {L : List KV} (hL : L.length ≤ 65535) (m : KM) (h : methOk L m = true) (hs : (codeB L m).length < 4294967296) : Reads (methB L m) (fun bs => methS bs L) m.p := by
  have hC := Reads.sized (Reads.code hL m h hs) hs
  have hm : membOk L m.fl m.nm m.ds = true := by
    unfold methOk at h
    simp only [Bool.and_eq_true] at h
    exact h.1.1.1.1.1
  obtain ⟨h1, h2, h3⟩ := memb_room hL hm
  have hB : methB L m = z2 [m.fl] ++ (z2 [m.nm] ++ (z2 [m.ds] ++ (([1, (findT L sCode : Int)].flatMap fun v => putB (u64N v) 2) ++ (z4 ((codeB L m).length : Int) ++ codeB L m)))) := by
    unfold methB
    rw [z2_cons, z2_cons, z2_cons]
    simp only [List.append_assoc]
    rfl
  rw [hB]
  have hq : Reads (([1, (findT L sCode : Int)].flatMap fun v => putB (u64N v) 2) ++ (z4 ((codeB L m).length : Int) ++ codeB L m)) (fun bs => bindR (mustS bs 2 [1, (findT L sCode : Int)]) fun _ => sizedS bs (kcodeS bs L m.fl m.nm m.ds)) m.p :=
    Reads.bind (Reads.must (by decide) (by decide) [1, (findT L sCode : Int)] (fun x hx => by
      rcases List.mem_cons.1 hx with rfl | hx
      · exact len_room 1 (by omega)
      · rw [List.mem_singleton.1 hx]; exact find_room hL _)) hC
  exact Reads.bind (Reads.two h1) (Reads.bind (Reads.two h2) (Reads.bind (Reads.two h3) hq))
set_option maxHeartbeats 4000000 in
theorem Reads.rest (f : KF) (h : classOk f = true) (hs : (classB f).length < 4294967296) : Reads (backB f.pool f) (fun bs => restS bs f.pool) f.p := by
  obtain ⟨pa, pn, pc, L, th, su, fa, fn, fc, fields, ma, mn, mc, methods⟩ := f
  rw [classB_len] at hs
  unfold classOk at h
  simp only [Bool.and_eq_true, decide_eq_true_eq, Bool.or_eq_true] at h hs ⊢
  obtain ⟨⟨⟨⟨⟨hpo, hth⟩, hsu⟩, hln⟩, hfd⟩, hmd⟩ := h
  have hL : L.length ≤ 65535 := by have := (poolOk_parts hpo).2.1; omega
  have hsr : Room 2 su := by
    rcases hsu with hsu | hsu
    · rw [hsu]; exact len_room 0 (by omega)
    · exact cls_room hL hsu
  have hF := Reads.times (f := fun t : KD => t) (most := 64) fields (fun d hd => Reads.field hL d (List.all_eq_true.1 hfd d hd)) (by omega)
  rw [List.map_id'] at hF
  have hcl : ∀ m ∈ methods, (codeB L m).length < 4294967296 := by
    intro m hm
    have h1 : (methB L m).length ≤ (methods.flatMap (methB L)).length := by
      obtain ⟨i, hi, rfl⟩ := List.getElem_of_mem hm
      have h2 := flat_le (methB L) methods (i + 1)
      rw [flat_take (methB L) methods i methods[i] (List.getElem?_eq_getElem hi), List.length_append] at h2
      omega
    rw [methB_len] at h1
    omega
  have hM := Reads.times (R := fun bs => methS bs L) (f := KM.p) (most := 64) methods (fun m hm => Reads.meth hL m (List.all_eq_true.1 hmd m hm) (hcl m hm)) (by omega)
  have hz : ∀ x ∈ ([0] : List Int), Room 2 x := fun x hx => by rw [List.mem_singleton.1 hx]; exact len_room 0 (by omega)
  have h33 : ∀ x ∈ ([33] : List Int), Room 2 x := fun x hx => by rw [List.mem_singleton.1 hx]; exact len_room 33 (by omega)
  have e2 : ∀ v : Int, p2 v = z2 [v] := fun v => (two_eq v).symm
  unfold backB restF restT
  simp only [e2]
  exact Reads.bind (Reads.must (by decide) (by decide) [33] h33) (Reads.bind (Reads.two (cls_room hL hth)) (Reads.bind (Reads.two hsr) (Reads.bind (Reads.must (by decide) (by decide) [0] hz) (Reads.bind (Reads.two (len_room _ (by omega))) (Reads.bind hF (Reads.bind (Reads.two (len_room _ (by omega))) (Reads.bind hM (Reads.last (Reads.must (by decide) (by decide) [0] hz) (fun _ => rfl)))))))))
end Go.Proofs.Ytnfhiakdbakpgaa
/- klass: a class's bytes are parsed to it; with more behind they are none. Plain. -/
namespace Go.Proofs.Ytnfhiakdbakpgaa
open Go.RowKit
theorem magic_room : ∀ x ∈ ([3405691582] : List Int), Room 4 x := fun x hx => by
  rw [List.mem_singleton.1 hx]
  have e : ((256 ^ 4 : Nat) : Int) = 4294967296 := by decide
  exact ⟨by omega, by rw [e]; omega⟩
theorem head_read (t : List UInt8) : headS (z4 3405691582 ++ z2 [0, 45] ++ t) = (8, 0) := by
  have h1 := Reads.must (m := 4) (by decide) (by decide) [3405691582] magic_room [] (z2 [0, 45] ++ t)
  have h2 := Reads.must (m := 2) (by decide) (by decide) [0, 45] (fun x hx => by
    rcases List.mem_cons.1 hx with rfl | hx
    · exact len_room 0 (by omega)
    · rw [List.mem_singleton.1 hx]; exact len_room 45 (by omega)) (z4 3405691582) t
  have e1 : (([3405691582] : List Int).flatMap fun v => putB (u64N v) 4) = z4 3405691582 := by simp [z4]
  have e2 : (([0, 45] : List Int).flatMap fun v => putB (u64N v) 2) = z2 [0, 45] := rfl
  rw [e1] at h1
  rw [e2] at h2
  simp only [List.nil_append, List.length_nil, Nat.zero_add, z4_len] at h1 h2
  unfold headS
  rw [List.append_assoc, h1]
  simp only
  rw [h2]
  simp only [z2_len, List.length_cons, List.length_nil]
theorem parseF_class (f : KF) (h : classOk f = true) (hs : (classB f).length < 4294967296) (hw : ∀ c ∈ f.pool, -9223372036854775808 ≤ c.n ∧ c.n ≤ 9223372036854775807) (hq : classOk f.p = true) (more : List UInt8) :
    parseF (classB f ++ more) = if more = [] then (f.p, 0) else (kf0, 8) := by
  have hpo : poolOk f.pool = true := by
    unfold classOk at h
    simp only [Bool.and_eq_true] at h
    exact h.1.1.1.1.1
  have hR := Reads.rest f h hs (z4 3405691582 ++ z2 [0, 45] ++ bytesK f.pool) more
  have hlen := classB_back f
  have hb : classB f ++ more = z4 3405691582 ++ z2 [0, 45] ++ (bytesK f.pool ++ (backB f.pool f ++ more)) := by rw [hlen]; simp only [List.append_assoc]
  have hp := parse_bytes hpo hw (backB f.pool f ++ more)
  have hd : (classB f ++ more).drop 8 = bytesK f.pool ++ (backB f.pool f ++ more) := by
    rw [hb, List.drop_left' (by simp [z4_len, z2_len])]
  have hh : headS (classB f ++ more) = (8, 0) := by rw [hb]; exact head_read _
  unfold parseF
  rw [hh]
  simp only [hd, hp, ne_eq, not_true_eq_false, if_false]
  have hb2 : classB f ++ more = z4 3405691582 ++ z2 [0, 45] ++ bytesK f.pool ++ (backB f.pool f ++ more) := by rw [hb]; simp only [List.append_assoc]
  have hl8 : (z4 3405691582 ++ z2 [0, 45] ++ bytesK f.pool).length = 8 + (bytesK f.pool).length := by rw [List.length_append, List.length_append, z4_len, z2_len]; rfl
  rw [hl8] at hR
  simp only at hR
  rw [← hb2] at hR
  rw [hR]
  simp only [not_true_eq_false, if_false]
  have hcl : (classB f).length = 8 + (bytesK f.pool).length + (backB f.pool f).length := by rw [hlen, List.length_append, hl8]
  by_cases hm : more = []
  · subst hm
    rw [if_pos rfl, if_neg]
    rintro (hc | hc)
    · apply hc; rw [List.append_nil, hcl]
    · rw [hq] at hc; cases hc
  · rw [if_neg hm, if_pos]
    left
    intro hc
    apply hm
    rw [List.length_append, hcl] at hc
    exact List.eq_nil_of_length_eq_zero (by omega)
end Go.Proofs.Ytnfhiakdbakpgaa
/- klass: without the places of its rows a class is as right as with them, and has the same bytes. Plain. -/
namespace Go.Proofs.Ytnfhiakdbakpgaa
open Go.RowKit
theorem mapOk_p (L : List KV) (p : KP) : mapOk L p.p = mapOk L p := rfl
theorem methOk_p (L : List KV) (m : KM) : methOk L m.p = methOk L m := by
  unfold methOk sizesOk lensOk namesOk KM.p
  simp only [List.length_map, List.all_map]
  rfl
theorem classOk_p (f : KF) : classOk f.p = classOk f := by
  unfold classOk KF.p
  simp only [List.length_map, List.all_map]
  have h : (methOk f.pool ∘ KM.p) = methOk f.pool := by funext m; exact methOk_p _ _
  rw [h]
theorem kmapB_p (p : KP) : kmapB p.p = kmapB p := rfl
theorem mapsB_p (l : List KP) : mapsB (l.map KP.p) = mapsB l := by
  unfold mapsB
  rw [List.length_map, List.flatMap_map]
  rfl
theorem codeB_p (L : List KV) (m : KM) : codeB L m.p = codeB L m := by
  unfold codeB tailB KM.p
  simp only [List.length_map, mapsB_p]
theorem methB_p (L : List KV) (m : KM) : methB L m.p = methB L m := by
  unfold methB
  rw [codeB_p]
  rfl
theorem classB_p (f : KF) : classB f.p = classB f := by
  have h : ∀ (L : List KV) (l : List KM), (l.map KM.p).flatMap (methB L) = l.flatMap (methB L) := fun L l => by
    rw [List.flatMap_map]
    congr 1
    funext m
    exact methB_p L m
  unfold classB KF.p
  simp only [List.length_map, h]
end Go.Proofs.Ytnfhiakdbakpgaa
/- klass: sizes of all that is read. Plain. -/
namespace Go.Proofs.Ytnfhiakdbakpgaa
open Go.ChangeShapes Go.WideShapes Go.ChangeAt Go.RowKit
/-- Sizes of a method that was read out of so many bytes. -/
structure KM.Sm (m : KM) (N : Nat) : Prop where
  code : m.code.length ≤ N
  traps : m.traps.length ≤ 65535
  maps : m.maps.length ≤ 65535
  each : ∀ p ∈ m.maps, p.loc.length ≤ 65535 ∧ p.stk.length ≤ 65535
theorem slotsS_len (bs : List UInt8) (most : Int) (s : St) : (slotsS bs most s).1.length ≤ 65535 := by
  have h1 := timesS_len most (slotS bs) (getS bs 2 s).1 (getS bs 2 s).2
  have h2 := getS_two bs 2 (by decide) s
  have h3 : (slotsS bs most s) = timesS most (slotS bs) (getS bs 2 s).1 (getS bs 2 s).2 := rfl
  rw [h3]
  omega
theorem kmapS_len (bs : List UInt8) (s : St) : (kmapS bs s).1.loc.length ≤ 65535 ∧ (kmapS bs s).1.stk.length ≤ 65535 := ⟨slotsS_len bs 64 _, slotsS_len bs 64 _⟩
theorem mapsS_len (bs : List UInt8) (s : St) : (mapsS bs s).1.length ≤ 65535 ∧ ∀ p ∈ (mapsS bs s).1, p.loc.length ≤ 65535 ∧ p.stk.length ≤ 65535 := by
  have h2 := getS_two bs 2 (by decide) s
  have h3 : ∃ t, (mapsS bs s) = timesS 255 (kmapS bs) (getS bs 2 s).1 t := ⟨_, rfl⟩
  obtain ⟨t, h3⟩ := h3
  rw [h3]
  have h1 := timesS_len 255 (kmapS bs) (getS bs 2 s).1 t
  exact ⟨by omega, timesS_all 255 (kmapS bs) (fun p => p.loc.length ≤ 65535 ∧ p.stk.length ≤ 65535) (kmapS_len bs) _ _⟩
theorem tailS_len (bs : List UInt8) (L : List KV) (k : Int) (s : St) : (tailS bs L k s).1.length ≤ 65535 ∧ ∀ p ∈ (tailS bs L k s).1, p.loc.length ≤ 65535 ∧ p.stk.length ≤ 65535 := by
  unfold tailS
  split
  · exact ⟨by simp [pureR], fun p hp => by simp [pureR] at hp⟩
  · split
    · unfold bindR
      rw [sizedS_fst]
      exact mapsS_len bs _
    · exact ⟨by simp, fun p hp => by simp at hp⟩
theorem bytesS_len (bs : List UInt8) (n : Int) (s : St) : (bytesS bs n s).1.length ≤ bs.length := by
  unfold bytesS
  split
  · simp
  · split
    · simp
    · simp only [List.length_take, List.length_drop]
      omega
theorem kcodeS_sm (bs : List UInt8) (L : List KV) (a b c : Int) (s : St) : (kcodeS bs L a b c s).1.Sm bs.length := by
  unfold kcodeS bindR pureR
  refine ⟨bytesS_len bs _ _, ?_, (tailS_len bs L _ _).1, (tailS_len bs L _ _).2⟩
  dsimp only
  refine Nat.le_trans (timesS_len _ _ _ _) ?_
  have := getS_two bs 2 (by decide) (bytesS bs (getS bs 4 (getS bs 2 (getS bs 2 s).2).2).1 (getS bs 4 (getS bs 2 (getS bs 2 s).2).2).2).2
  omega
theorem methS_sm (bs : List UInt8) (L : List KV) (s : St) : (methS bs L s).1.Sm bs.length := by
  unfold methS bindR
  rw [sizedS_fst]
  exact kcodeS_sm bs L _ _ _ _
theorem restS_sm (bs : List UInt8) (L : List KV) (s : St) : ∀ m ∈ (restS bs L s).1.methods, m.Sm bs.length := by
  intro m hm
  exact timesS_all 64 (methS bs L) (fun m => m.Sm bs.length) (methS_sm bs L) _ _ m hm
/-- A text of a pool that may be. -/
theorem pool_text {L : List KV} (hp : poolOk L = true) (i : Nat) : (kAt L i).s.length ≤ 65536 := by
  by_cases hi : i < L.length
  · obtain ⟨h1, h2⟩ := place_parts hp i hi
    rcases (bare_parts h1).1 with ht | hs
    · unfold leadOk at h2
      simp [ht] at h2
      omega
    · rw [hs]; simp
  · unfold kAt
    rw [List.getD_eq_getElem?_getD, List.getElem?_eq_none (by simpa using hi)]
    simp [kz]
theorem pool_len {L : List KV} (hp : poolOk L = true) : L.length ≤ 65536 := by
  unfold poolOk at hp
  simp only [Bool.and_eq_true, decide_eq_true_eq] at hp
  omega
end Go.Proofs.Ytnfhiakdbakpgaa
