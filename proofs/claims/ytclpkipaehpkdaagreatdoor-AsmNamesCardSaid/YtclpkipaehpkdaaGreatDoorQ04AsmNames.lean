/- asm: own texts, merged (wip/merge2.py). No condition. -/
import Derived.Test.YtclpkipaehpkdaaGreatDoorQ00AsmNames
import Derived.OrdersHeld
import Derived.Test.YtclpkipaehpkdaaGreatDoorQ03AsmNames
import Derived.OwnWalk
import Derived.Test.YtclpkipaehpkdaaGreatDoorQ01AsmNames
import Derived.Laws.StructEq
set_option linter.unusedVariables false
set_option linter.unusedSimpArgs false
namespace Go.Proofs.YtclpkipaehpkdaaGreatDoor
open Go.RowKit

def lexOp (P : Program) (ops : Array Oper) (Q : Exit → Act → World → Prop) (S : World → Prop) (i : Nat) (b : Bool) (K : Act → World → Prop) (a : Act) (w : World) : Prop :=
  match ops[i]? with
  | none => False
  | some o =>
    if Region.wanted o (yielded ops a.tmps) = true then
      (match b with
        | true => ∃ v, (∀ w', S w' → (execOp a.eval o).run P w' = .ok (.value v) w') ∧ S w ∧ K (a.put o.dst v) w
        | false => o.wp P a w (fun a' w' => S w' ∧ K a' w') Q)
    else S w ∧ K (a.put o.dst undef) w
def wpLex (P : Program) (ops : Array Oper) (Q : Exit → Act → World → Prop) (S : World → Prop) : List (Nat × Bool) → Act → World → Prop
  | [], a, w => Q .normal a w
  | (i, b) :: l, a, w => lexOp P ops Q S i b (wpLex P ops Q S l) a w
def checkLex (ops : Array Oper) : Array Bool → List (Nat × Bool) → Bool
  | listed, [] => (Region.ready .any ops listed).isEmpty
  | listed, (i, b) :: l => (if b then Region.free .any ops listed i && (Region.ready .any ops listed).contains i else Region.ready .any ops listed == [i]) && checkLex ops (listed.setIfInBounds i true) l

theorem lex_sound {P : Program} {ops : Array Oper} {Q : Exit → Act → World → Prop} {S : World → Prop} (hs : Region.noSelect ops = true) (hQ : ∀ c a d v w, Q (.panic c) (a.put d v) w → Q (.panic c) a w) :
    ∀ (l : List (Nat × Bool)) (listed : Array Bool) (a : Act) (w : World), checkLex ops listed l = true → wpLex P ops Q S l a w → wpAnyH P .any ops Q S l.length listed a w := by
  intro l
  induction l with
  | nil =>
    intro listed a w hc h
    exact ⟨by simpa [checkLex] using hc, h⟩
  | cons p l ih =>
    obtain ⟨i, b⟩ := p
    intro listed a w hc h
    simp only [checkLex, Bool.and_eq_true] at hc
    obtain ⟨hc1, hc2⟩ := hc
    change lexOp P ops Q S i b (wpLex P ops Q S l) a w at h
    unfold lexOp at h
    cases ho : ops[i]? with
    | none => rw [ho] at h; exact h.elim
    | some o =>
      rw [ho] at h
      simp only at h
      cases b with
      | true =>
        simp only [if_true, Bool.and_eq_true] at hc1
        obtain ⟨hf, hr⟩ := hc1
        by_cases hw : Region.wanted o (yielded ops a.tmps) = true
        · rw [if_pos hw] at h
          obtain ⟨v, h1, h2, h3⟩ := h
          exact wpAnyH_take ho hs hf hr (fun c a w => hQ c a _ _ w) (.inl ⟨hw, h1⟩) h2 (ih _ _ _ hc2 h3)
        · rw [if_neg hw] at h
          exact wpAnyH_take ho hs hf hr (fun c a w => hQ c a _ _ w) (.inr ⟨by simpa using hw, rfl⟩) h.1 (ih _ _ _ hc2 h.2)
      | false =>
        simp only [Bool.false_eq_true, if_false] at hc1
        have hr : Region.ready .any ops listed = [i] := by simpa using hc1
        refine wpAnyH_all hr (by simp) (fun j hj => ?_)
        obtain rfl : j = i := by simpa using hj
        unfold wpOp
        rw [ho]
        simp only
        by_cases hw : Region.wanted o (yielded ops a.tmps) = true
        · rw [if_pos hw] at h
          simp only [hw, if_true]
          exact .inl (Oper.wp_mono (fun a' w' h' => ⟨h'.1, ih _ _ _ hc2 h'.2⟩) h)
        · rw [if_neg hw] at h
          simp only [hw]
          exact ⟨h.1, ih _ _ _ hc2 h.2⟩
theorem wp_region_lex {P : Program} {id : Nat} {ops : Array Oper} {Q : Exit → Act → World → Prop} {a : Act} {w : World} (S : World → Prop) (l : List (Nat × Bool)) (hm : P.follows .mixedOrders = true)
    (hc : (Region.noSelect ops && (l.length == ops.size) && checkLex ops (Array.replicate ops.size false) l) = true) (hQ : ∀ c a d v w, Q (.panic c) (a.put d v) w → Q (.panic c) a w)
    (h : wpLex P ops Q S l a w.drew) : (Code.region id ops true).wp P Q a w := by
  simp only [Bool.and_eq_true, beq_iff_eq] at hc
  obtain ⟨⟨hs, hl⟩, hk⟩ := hc
  have := lex_sound (P := P) (Q := Q) (S := S) hs hQ l _ a _ hk h
  rw [hl] at this
  exact wp_region_held hm this
theorem lex_step {P : Program} {ops : Array Oper} {Q : Exit → Act → World → Prop} {S : World → Prop} {i : Nat} {b : Bool} {l : List (Nat × Bool)} {a : Act} {w : World}
    (h : ∀ K : Act → World → Prop, (∀ a w, wpLex P ops Q S l a w → K a w) → lexOp P ops Q S i b K a w) : wpLex P ops Q S ((i, b) :: l) a w := h _ (fun _ _ h => h)
theorem lex_nil {P : Program} {ops : Array Oper} {Q : Exit → Act → World → Prop} {S : World → Prop} {a : Act} {w : World} (h : Q .normal a w) : wpLex P ops Q S [] a w := h
end Go.Proofs.YtclpkipaehpkdaaGreatDoor

namespace Go.Proofs.YtclpkipaehpkdaaGreatDoor
open Go.ChangeShapes Go.WideShapes Go.ChangeAt Go.RowKit
set_option maxHeartbeats 4000000 in
set_option maxRecDepth 100000 in
theorem rIsName_any (w : World) (s : List UInt8) (hl : s.length ≤ 65536) : Calls Tryz.prog 18 #[.string ⟨s.toArray⟩] w fun e w' => e = .returned (.bool (memB s)) ∧ w' = w := by
  obtain ⟨R, hR⟩ : ∃ R, R = memB s := ⟨_, rfl⟩
  have HR := Lib.hid hR
  rw [← hR]
  have HC := Lib.hid (fun w => refIsClass_any w s (by omega))
  have HIX := Lib.hid (fun w' i h => idx_str w' s i h)
  obtain ⟨N, hN⟩ : ∃ N, N = s.length := ⟨_, rfl⟩
  have hsz : (⟨s.toArray⟩ : ByteArray).size = N := by rw [hN]; exact size_str s
  have HN := Lib.hid hN
  have hNl : N ≤ 65536 := by omega
  clear hR hN
  go_enter Tryz.func18, Tryz.ntmps18
  go_wp2_with fail
  go_loopg [3] N (fun gn dv wr => ∃ k : Nat, k ≤ N ∧ gn = N - k ∧ dv = .int .i64 k ∧ Hid (∀ i (h : i < s.length), i < k → ¬ s[i] = 47) ∧ wr = w)
  case atStart => exact ⟨0, by omega, by omega, by go_num, Lib.hid (fun i h h0 => by omega), rfl⟩
  case round =>
    obtain ⟨k, hk, rfl, rfl, HG, rfl⟩ := hrel
    by_cases hlt : k < N
    · have k1 : (k : Int) < N := by omega
      have hkl : k < s.length := by rw [← HN.out]; exact hlt
      have hix := fun w' => HIX.out w' k hkl
      have HX := Lib.hid (show ¬ s[k] = 47 → ∀ i (h : i < s.length), i < k + 1 → ¬ s[i] = 47 from fun h i hi hi2 => by
        rcases Nat.lt_or_ge i k with h1 | h1
        · exact HG.out i hi h1
        · obtain rfl : i = k := by omega
          exact h)
      have HY := Lib.hid (show s[k] = 47 → R = false from fun h => by
        rw [HR.out]
        have : s.contains 47 = true := by
          rw [List.contains_iff_mem, ← h]; exact List.getElem_mem hkl
        unfold memB; rw [this]; rfl)
      generalize s[k] = c at *
      clear hkl
      by_cases h47 : c = 47
      · have hRf := HY.out h47
        subst hRf
        have q47 : ((c.toNat : Int) == 47) = true := by rw [h47]; rfl
        clear h47 hlt
        go_wp2_with fail
        go_ret
        exact ⟨rfl, rfl⟩
      · have HX2 := Lib.hid (HX.out h47)
        have q47 : ((c.toNat : Int) == 47) = false := by
          rw [beq_eq_false_iff_ne]
          intro h
          exact h47 (UInt8.toNat_inj.1 (by rw [show (47 : UInt8).toNat = 47 from rfl]; omega))
        clear h47 hlt
        go_wp2_with fail
        go_roundg (N - (k + 1))
        case measure => omega
        case rel => exact ⟨k + 1, by omega, rfl, by go_num, HX2, rfl⟩
    · have k1 : ¬ (k : Int) < N := by omega
      have hRf : R = classB s := by
        rw [HR.out]
        have : s.contains 47 = false := by
          rw [← Bool.not_eq_true, List.contains_iff_mem]
          intro hm
          obtain ⟨i, hi, e⟩ := List.getElem_of_mem hm
          exact HG.out i hi (by have := HN.out; omega) e
        unfold memB; rw [this]; rfl
      subst hRf
      clear hlt
      go_wp2_with fail
      refine (HC.out wr).mono ?_
      rintro e w1 ⟨rfl, rfl⟩
      go_wp2_with fail
      go_ret
      exact ⟨rfl, rfl⟩
end Go.Proofs.YtclpkipaehpkdaaGreatDoor

namespace Go.Proofs.YtclpkipaehpkdaaGreatDoor
open Go.ChangeShapes Go.WideShapes Go.ChangeAt Go.RowKit
structure KV where
  tag : Int
  a : Int
  b : Int
  n : Int
  s : List UInt8
def KV.cells (c : KV) : List Value := [.int .i64 c.tag, .int .i64 c.a, .int .i64 c.b, .int .i64 c.n, .string ⟨c.s.toArray⟩]
theorem KV.cells_length (c : KV) : c.cells.length = 5 := rfl
def kz : KV := ⟨0, 0, 0, 0, []⟩
def kAt (l : List KV) (i : Int) : KV := l.getD i.toNat kz
def isT (l : List KV) (i t : Int) : Bool := decide (1 ≤ i ∧ i < l.length ∧ (kAt l i).tag = t)
def textAt (l : List KV) (i : Int) : List UInt8 := if isT l i 1 then (kAt l i).s else []
def classAt (l : List KV) (i : Int) : List UInt8 × Bool := if isT l i 7 then (textAt l (kAt l i).a, isT l (kAt l i).a 1) else ([], false)
def memberAt (l : List KV) (i t : Int) : List UInt8 × List UInt8 × List UInt8 × Bool :=
  if (t = 9 ∨ t = 10) ∧ isT l i t = true ∧ isT l (kAt l i).b 12 = true ∧ (classAt l (kAt l i).a).2 = true ∧ isT l (kAt l (kAt l i).b).a 1 = true ∧ isT l (kAt l (kAt l i).b).b 1 = true then
    ((classAt l (kAt l i).a).1, textAt l (kAt l (kAt l i).b).a, textAt l (kAt l (kAt l i).b).b, true)
  else ([], [], [], false)
def bareOk (c : KV) : Bool :=
  (decide (c.tag = 1) || c.s.isEmpty) && (decide (c.tag = 5) || decide (c.n = 0) || decide (c.tag = 3 ∧ -2147483648 ≤ c.n ∧ c.n ≤ 2147483647)) &&
  (decide (c.tag = 9 ∨ c.tag = 10 ∨ c.tag = 12) || decide (c.b = 0)) && (decide (c.tag = 9 ∨ c.tag = 10 ∨ c.tag = 12 ∨ c.tag = 7 ∨ c.tag = 8) || decide (c.a = 0))
def leadOk (l : List KV) (i : Nat) : Bool :=
  let c := kAt l i
  if c.tag = 0 then i == 0 || decide ((kAt l ((i : Int) - 1)).tag = 5)
  else if c.tag = 1 then (decodeB c.s).isSome && decide (c.s.length ≤ 65535)
  else if c.tag = 3 then true
  else if c.tag = 5 then decide (i + 1 < l.length) && decide ((kAt l ((i : Int) + 1)).tag = 0)
  else if c.tag = 12 then isT l c.a 1 && isT l c.b 1
  else if c.tag = 7 ∨ c.tag = 8 then isT l c.a 1
  else if c.tag = 9 ∨ c.tag = 10 then isT l c.a 7 && isT l c.b 12
  else false
def placeOk (l : List KV) (i : Nat) : Bool := bareOk (kAt l i) && leadOk l i
def poolOk (l : List KV) : Bool := decide (1 ≤ l.length) && decide (l.length ≤ 1024) && decide ((kAt l 0).tag = 0) && (List.range l.length).all (placeOk l)
end Go.Proofs.YtclpkipaehpkdaaGreatDoor

namespace Go.Proofs.YtclpkipaehpkdaaGreatDoor
open Go.ChangeShapes Go.WideShapes Go.ChangeAt Go.RowKit
def Ks (w : World) (a : Option Addr) (n : Nat) (L : List KV) : Prop := Ss 5 KV.cells w a n L
structure KAt (w : World) (b o : Nat) (c : KV) : Prop where
  c0 : w.cell? ⟨b, o, none⟩ = some (.int .i64 c.tag)
  c1 : w.cell? ⟨b, o + 1, none⟩ = some (.int .i64 c.a)
  c2 : w.cell? ⟨b, o + 2, none⟩ = some (.int .i64 c.b)
  c3 : w.cell? ⟨b, o + 3, none⟩ = some (.int .i64 c.n)
  c4 : w.cell? ⟨b, o + 4, none⟩ = some (.string ⟨c.s.toArray⟩)
theorem Ks.below {w w' : World} {a : Option Addr} {n : Nat} {L : List KV} (h : Ks w a n L) (hb : Below w.heap.size w w') : Ks w' a n L := Ss.below h hb
theorem KAt.below {w w' : World} {b o : Nat} {c : KV} (h : KAt w b o c) (hb : Below w.heap.size w w') : KAt w' b o c :=
  ⟨cellS_below hb h.c0, cellS_below hb h.c1, cellS_below hb h.c2, cellS_below hb h.c3, cellS_below hb h.c4⟩
theorem Ks.at {w : World} {a : Option Addr} {n : Nat} {L : List KV} (h : Ks w a n L) (i : Nat) (hi : i < n) : ∃ b off, a = some ⟨b, off, none⟩ ∧ b < w.heap.size ∧ KAt w b (off + i * 5) (kAt L i) := by
  obtain ⟨b, off, ha, hlt, hc⟩ := h.2 (by omega)
  have hl : i < L.length := by rw [h.1]; exact hi
  have hk : kAt L i = L[i] := by unfold kAt; simp [List.getD, hl]
  refine ⟨b, off, ha, hlt, ?_⟩
  rw [hk]
  exact ⟨hc i hl 0 (by omega), hc i hl 1 (by omega), hc i hl 2 (by omega), hc i hl 3 (by omega), hc i hl 4 (by omega)⟩
theorem isT_low {L : List KV} {i t : Int} (h : i < 1) : isT L i t = false := by unfold isT; rw [decide_eq_false]; omega
theorem isT_high {L : List KV} {i t : Int} (h : (L.length : Int) ≤ i) : isT L i t = false := by unfold isT; rw [decide_eq_false]; omega
theorem isT_in {L : List KV} {i t : Int} (h0 : 1 ≤ i) (h1 : i < L.length) : isT L i t = decide ((kAt L i).tag = t) := by
  unfold isT
  by_cases h : (kAt L i).tag = t
  · rw [decide_eq_true h, decide_eq_true ⟨h0, h1, h⟩]
  · rw [decide_eq_false h, decide_eq_false fun x => h x.2.2]
theorem isT_true {L : List KV} {i t : Int} (h : isT L i t = true) : 1 ≤ i ∧ i < L.length ∧ (kAt L i).tag = t := of_decide_eq_true h
set_option maxRecDepth 100000 in
set_option maxHeartbeats 4000000 in
theorem is_any (w : World) (a : Option Addr) (n cap : Nat) (L : List KV) (i t : Int) (hs : Ks w a n L) (hn : n ≤ 65536) :
    Calls Tryz.prog 93 #[.slice a n cap, .int .i64 i, .int .i64 t] w fun e w' => e = .returned (.bool (isT L i t)) ∧ w = w' := by
  by_cases h1 : i < 1
  · rw [isT_low h1]
    have h0 : decide (0 < i) = false := by simp; omega
    clear hs
    go_enter Tryz.func93, Tryz.ntmps93
    go_wp2_with fail
    go_ret
    exact ⟨rfl, rfl⟩
  · by_cases h2 : (n : Int) ≤ i
    · rw [isT_high (by rw [hs.1]; exact h2)]
      have h0 : decide (0 < i) = true := by simp; omega
      have h3 : decide (i < (n : Int)) = false := by simp; omega
      clear hs
      go_enter Tryz.func93, Tryz.ntmps93
      go_wp2_with fail
      go_ret
      exact ⟨rfl, rfl⟩
    · obtain ⟨k, rfl⟩ : ∃ k : Nat, i = k := ⟨i.toNat, by omega⟩
      rw [isT_in (by omega) (by rw [hs.1]; omega)]
      obtain ⟨b, off, rfl, _, hk⟩ := hs.at k (by omega)
      have g0 := hk.c0
      have k0 : 0 < k := by omega
      have k1 : k < n := by omega
      obtain ⟨t0, ht0⟩ : ∃ t0, t0 = (kAt L k).tag := ⟨_, rfl⟩
      rw [← ht0] at g0 ⊢
      clear hk hs h1 h2 ht0
      by_cases ht : t0 = t
      · subst ht
        have e1 : (t0 == t0) = true := by simp
        go_enter Tryz.func93, Tryz.ntmps93
        go_wp2_with fail
        go_ret
        exact ⟨by simp, rfl⟩
      · have e1 : (t0 == t) = false := by simp [ht]
        rw [decide_eq_false ht]
        clear ht
        go_enter Tryz.func93, Tryz.ntmps93
        go_wp2_with fail
        go_ret
        exact ⟨rfl, rfl⟩
end Go.Proofs.YtclpkipaehpkdaaGreatDoor

namespace Go.Proofs.YtclpkipaehpkdaaGreatDoor
open Go.ChangeShapes Go.WideShapes Go.ChangeAt Go.RowKit
def TextRet (L : List KV) (i : Int) (w : World) (e : Ending) (w' : World) : Prop := e = .returned (.tuple #[.string ⟨(textAt L i).toArray⟩, .bool (isT L i 1)]) ∧ w = w'
def ClassRet (L : List KV) (i : Int) (w : World) (e : Ending) (w' : World) : Prop := e = .returned (.tuple #[.string ⟨(classAt L i).1.toArray⟩, .bool (classAt L i).2]) ∧ w = w'
def MemberRet (L : List KV) (i t : Int) (w : World) (e : Ending) (w' : World) : Prop :=
  e = .returned (.tuple #[.string ⟨(memberAt L i t).1.toArray⟩, .string ⟨(memberAt L i t).2.1.toArray⟩, .string ⟨(memberAt L i t).2.2.1.toArray⟩, .bool (memberAt L i t).2.2.2]) ∧ Below w.heap.size w w'
theorem MemberRet.no {L : List KV} {i t : Int} {w w' : World} (h : ¬ ((t = 9 ∨ t = 10) ∧ isT L i t = true ∧ isT L (kAt L i).b 12 = true ∧ (classAt L (kAt L i).a).2 = true ∧ isT L (kAt L (kAt L i).b).a 1 = true ∧ isT L (kAt L (kAt L i).b).b 1 = true)) (hb : Below w.heap.size w w') :
    MemberRet L i t w (.returned (.tuple #[.string ⟨#[]⟩, .string ⟨#[]⟩, .string ⟨#[]⟩, .bool false])) w' := by
  unfold MemberRet memberAt
  rw [if_neg h]
  exact ⟨rfl, hb⟩
theorem MemberRet.yes {L : List KV} {i t : Int} {w w' : World} (h : ((t = 9 ∨ t = 10) ∧ isT L i t = true ∧ isT L (kAt L i).b 12 = true ∧ (classAt L (kAt L i).a).2 = true ∧ isT L (kAt L (kAt L i).b).a 1 = true ∧ isT L (kAt L (kAt L i).b).b 1 = true)) (hb : Below w.heap.size w w') :
    MemberRet L i t w (.returned (.tuple #[.string ⟨(classAt L (kAt L i).a).1.toArray⟩, .string ⟨(textAt L (kAt L (kAt L i).b).a).toArray⟩, .string ⟨(textAt L (kAt L (kAt L i).b).b).toArray⟩, .bool true])) w' := by
  unfold MemberRet memberAt
  rw [if_pos h]
  exact ⟨rfl, hb⟩
set_option maxRecDepth 100000 in
set_option maxHeartbeats 4000000 in
theorem Text_any (w : World) (a : Option Addr) (n cap : Nat) (L : List KV) (i : Int) (hs : Ks w a n L) (hn : n ≤ 65536) : Calls Tryz.prog 50 #[.slice a n cap, .int .i64 i] w (TextRet L i w) := by
  have C1 := is_any w a n cap L i 1 hs hn
  unfold TextRet textAt
  cases h : isT L i 1
  · rw [h] at C1
    have K1 := Lib.hid C1
    clear C1 hs h
    go_enter Tryz.func50, Tryz.ntmps50
    go_wp2_with fail
    refine K1.out.mono ?_
    rintro e w' ⟨rfl, rfl⟩
    go_wp2_with fail
    go_ret2
    exact ⟨rfl, rfl⟩
  · rw [h] at C1
    have K1 := Lib.hid C1
    obtain ⟨h1, h2, _⟩ := isT_true h
    rw [hs.1] at h2
    obtain ⟨k, rfl⟩ : ∃ k : Nat, i = k := ⟨i.toNat, by omega⟩
    obtain ⟨b, off, rfl, _, hk⟩ := hs.at k (by omega)
    have g4 := hk.c4
    have k0 : 0 < k := by omega
    have k1 : k < n := by omega
    rw [if_pos rfl]
    clear C1 hs h h1 h2 hk
    go_enter Tryz.func50, Tryz.ntmps50
    go_wp2_with fail
    refine K1.out.mono ?_
    rintro e w' ⟨rfl, rfl⟩
    go_wp2_with fail
    go_ret2
    exact ⟨rfl, rfl⟩
set_option maxRecDepth 100000 in
set_option maxHeartbeats 4000000 in
theorem Class_any (w : World) (a : Option Addr) (n cap : Nat) (L : List KV) (i : Int) (hs : Ks w a n L) (hn : n ≤ 65536) : Calls Tryz.prog 48 #[.slice a n cap, .int .i64 i] w (ClassRet L i w) := by
  have C1 := is_any w a n cap L i 7 hs hn
  unfold ClassRet classAt
  cases h : isT L i 7
  · rw [h] at C1
    have K1 := Lib.hid C1
    clear C1 hs h
    go_enter Tryz.func48, Tryz.ntmps48
    go_wp2_with fail
    refine K1.out.mono ?_
    rintro e w' ⟨rfl, rfl⟩
    go_wp2_with fail
    go_ret2
    exact ⟨rfl, rfl⟩
  · rw [h] at C1
    have K1 := Lib.hid C1
    obtain ⟨h1, h2, _⟩ := isT_true h
    rw [hs.1] at h2
    obtain ⟨k, rfl⟩ : ∃ k : Nat, i = k := ⟨i.toNat, by omega⟩
    have C2 := Text_any w a n cap L (kAt L k).a hs hn
    unfold TextRet at C2
    have K2 := Lib.hid C2
    obtain ⟨b, off, rfl, _, hk⟩ := hs.at k (by omega)
    have g1 := hk.c1
    have k0 : 0 < k := by omega
    have k1 : k < n := by omega
    rw [if_pos rfl]
    clear C1 C2 hs h h1 h2 hk
    go_enter Tryz.func48, Tryz.ntmps48
    go_wp2_with fail
    refine K1.out.mono ?_
    rintro e w' ⟨rfl, rfl⟩
    go_wp2_with fail
    refine K2.out.mono ?_
    rintro e w' ⟨rfl, rfl⟩
    go_wp2_with fail
    go_ret2
    exact ⟨rfl, rfl⟩
set_option maxRecDepth 100000 in
set_option maxHeartbeats 8000000 in
theorem Member_any (w : World) (a : Option Addr) (n cap : Nat) (L : List KV) (i t : Int) (hs : Ks w a n L) (hn : n ≤ 65536) : Calls Tryz.prog 150 #[.slice a n cap, .int .i64 i, .int .i64 t] w (MemberRet L i t w) := by
  by_cases h9 : t = 9 ∨ t = 10
  · have e9 : ((t != 9) && (t != 10)) = false := by rcases h9 with rfl | rfl <;> rfl
    have C1 := is_any w a n cap L i t hs hn
    have H9 := Lib.hid h9
    have tw : (t = 9 ∧ True) ∨ (t = 10 ∧ True) := by rcases h9 with rfl | rfl; exact .inl ⟨rfl, trivial⟩; exact .inr ⟨rfl, trivial⟩
    clear e9 h9
    cases h : isT L i t
    · rw [h] at C1
      have K1 := Lib.hid C1
      have HH := Lib.hid h
      clear C1 hs h
      rcases tw with ⟨rfl, _⟩ | ⟨rfl, _⟩
      all_goals
        go_enter Tryz.func150, Tryz.ntmps150
        go_wp2_with fail
        refine K1.out.mono ?_
        rintro e w' ⟨rfl, rfl⟩
        go_wp2_with fail
        refine bodyPost_ret (v := .tuple #[.string ⟨#[]⟩, .string ⟨#[]⟩, .string ⟨#[]⟩, .bool false]) (by simp [results, Tryz.results150, go_sem]) rfl (MemberRet.no (fun x => ?_) (Below.refl _ _))
        rw [HH.out] at x
        exact absurd x.2.1 (by decide)
    · rw [h] at C1
      have K1 := Lib.hid C1
      obtain ⟨h1, h2, _⟩ := isT_true h
      rw [hs.1] at h2
      obtain ⟨k, rfl⟩ : ∃ k : Nat, i = k := ⟨i.toNat, by omega⟩
      have HH := Lib.hid h
      have C2 := is_any w a n cap L (kAt L k).b 12 hs hn
      obtain ⟨b, off, rfl, hbl, hk⟩ := hs.at k (by omega)
      have g1 := hk.c1
      have g2 := hk.c2
      have k0 : 0 < k := by omega
      have k1 : k < n := by omega
      have HS := Lib.hid hs
      clear C1 h1 h2 hk h hs
      cases h : isT L (kAt L k).b 12
      · rw [h] at C2
        have K2 := Lib.hid C2
        have HI := Lib.hid h
        clear C2 h
        rcases tw with ⟨rfl, _⟩ | ⟨rfl, _⟩
        all_goals
          go_enter Tryz.func150, Tryz.ntmps150
          go_wp2_with fail
          refine K1.out.mono ?_
          rintro e w' ⟨rfl, rfl⟩
          go_wp2_with fail
          refine K2.out.mono ?_
          rintro e w' ⟨rfl, rfl⟩
          go_wp2_with fail
          refine bodyPost_ret (v := .tuple #[.string ⟨#[]⟩, .string ⟨#[]⟩, .string ⟨#[]⟩, .bool false]) (by simp [results, Tryz.results150, go_sem]) rfl (MemberRet.no (fun x => ?_) (Below.refl _ _))
          rw [HI.out] at x
          exact absurd x.2.2.1 (by decide)
      · rw [h] at C2
        have K2 := Lib.hid C2
        have HI := Lib.hid h
        obtain ⟨h1, h2, _⟩ := isT_true h
        rw [HS.out.1] at h2
        obtain ⟨m, hm⟩ : ∃ m : Nat, (kAt L k).b = m := ⟨(kAt L k).b.toNat, by omega⟩
        rw [hm] at h1 h2 g2 K2
        obtain ⟨b', off', he, _, hk⟩ := HS.out.at m (by omega)
        cases he
        have m0 : 0 < m := by omega
        have m1 : m < n := by omega
        obtain ⟨q0, q1, q2, q3, q4⟩ := hk
        have HM := Lib.hid hm
        clear C2 h h1 h2 hm
        have CC : ∀ w', Below w.heap.size w w' → Calls Tryz.prog 48 #[.slice (some ⟨b, off, none⟩) n cap, .int .i64 (kAt L k).a] w' (ClassRet L (kAt L k).a w') := fun w' hb => Class_any w' _ n cap L _ (HS.out.below hb) hn
        have TA : ∀ w', Below w.heap.size w w' → Calls Tryz.prog 50 #[.slice (some ⟨b, off, none⟩) n cap, .int .i64 (kAt L m).a] w' (TextRet L (kAt L m).a w') := fun w' hb => Text_any w' _ n cap L _ (HS.out.below hb) hn
        have TB : ∀ w', Below w.heap.size w w' → Calls Tryz.prog 50 #[.slice (some ⟨b, off, none⟩) n cap, .int .i64 (kAt L m).b] w' (TextRet L (kAt L m).b w') := fun w' hb => Text_any w' _ n cap L _ (HS.out.below hb) hn
        unfold ClassRet at CC
        unfold TextRet at TA TB
        have HCC := Lib.hid CC
        have HTA := Lib.hid TA
        have HTB := Lib.hid TB
        have fin : ∀ (W : World), Below w.heap.size w W → Below w.heap.size w W := fun _ h => h
        clear CC TA TB fin
        have HR := Lib.hid (show ∀ W, Below w.heap.size w W → (classAt L (kAt L k).a).2 = true → isT L (kAt L m).a 1 = true → isT L (kAt L m).b 1 = true → MemberRet L k t w (.returned (.tuple #[.string ⟨(classAt L (kAt L k).a).1.toArray⟩, .string ⟨(textAt L (kAt L m).a).toArray⟩, .string ⟨(textAt L (kAt L m).b).toArray⟩, .bool true])) W from
          fun W hW c1 c2 c3 => by
            have := MemberRet.yes (L := L) (i := k) (t := t) (w := w) (w' := W) ⟨H9.out, HH.out, HI.out, c1, by rw [HM.out]; exact c2, by rw [HM.out]; exact c3⟩ hW
            rw [HM.out] at this
            exact this)
        have HN := Lib.hid (show ∀ W, Below w.heap.size w W → ((classAt L (kAt L k).a).2 = false ∨ isT L (kAt L m).a 1 = false ∨ isT L (kAt L m).b 1 = false) → MemberRet L k t w (.returned (.tuple #[.string ⟨#[]⟩, .string ⟨#[]⟩, .string ⟨#[]⟩, .bool false])) W from
          fun W hW hx => by
            refine MemberRet.no (fun x => ?_) hW
            rw [HM.out] at x
            rcases hx with hx | hx | hx <;> simp [hx] at x)
        generalize (classAt L (kAt L k).a).1 = s1 at *
        generalize (classAt L (kAt L k).a).2 = o1 at *
        generalize isT L (kAt L m).a 1 = o2 at *
        generalize isT L (kAt L m).b 1 = o3 at *
        generalize textAt L (kAt L m).a = s2 at *
        generalize textAt L (kAt L m).b = s3 at *
        have KF := Lib.hid (Below.refl w.heap.size w)
        rcases tw with ⟨rfl, _⟩ | ⟨rfl, _⟩
        all_goals
          go_enter Tryz.func150, Tryz.ntmps150
          go_wp2_with fail
          refine K1.out.mono ?_
          rintro e w' ⟨rfl, rfl⟩
          go_wp2_with fail
          refine K2.out.mono ?_
          rintro e w' ⟨rfl, rfl⟩
          go_wp2_with fail
          refine (HCC.out _ ((Below.refl _ _).alloc (Nat.le_refl _) _)).mono ?_
          rintro e w' ⟨rfl, rfl⟩
          go_wp2_with fail
          refine (HTA.out _ ((Below.refl _ _).alloc (Nat.le_refl _) _)).mono ?_
          rintro e w' ⟨rfl, rfl⟩
          go_wp2_with fail
          refine (HTB.out _ ((Below.refl _ _).alloc (Nat.le_refl _) _)).mono ?_
          rintro e w' ⟨rfl, rfl⟩
          cases o1
          · go_wp2_with fail
            exact bodyPost_ret (v := .tuple #[.string ⟨#[]⟩, .string ⟨#[]⟩, .string ⟨#[]⟩, .bool false]) (by simp [results, Tryz.results150, go_sem]) rfl (HN.out _ ((Below.refl _ _).alloc (Nat.le_refl _) _) (by simp))
          · cases o2
            · go_wp2_with fail
              exact bodyPost_ret (v := .tuple #[.string ⟨#[]⟩, .string ⟨#[]⟩, .string ⟨#[]⟩, .bool false]) (by simp [results, Tryz.results150, go_sem]) rfl (HN.out _ ((Below.refl _ _).alloc (Nat.le_refl _) _) (by simp))
            · cases o3
              · go_wp2_with fail
                exact bodyPost_ret (v := .tuple #[.string ⟨#[]⟩, .string ⟨#[]⟩, .string ⟨#[]⟩, .bool false]) (by simp [results, Tryz.results150, go_sem]) rfl (HN.out _ ((Below.refl _ _).alloc (Nat.le_refl _) _) (by simp))
              · go_wp2_with fail
                exact bodyPost_ret (v := .tuple #[.string ⟨s1.toArray⟩, .string ⟨s2.toArray⟩, .string ⟨s3.toArray⟩, .bool true]) (by simp [results, Tryz.results150, go_sem]) rfl (HR.out _ ((Below.refl _ _).alloc (Nat.le_refl _) _) (by simp) (by simp) (by simp))
  · have HH := Lib.hid h9
    have e1 : (t != 9) = true := by simp; omega
    have e2 : (t != 10) = true := by simp; omega
    clear hs h9
    go_enter Tryz.func150, Tryz.ntmps150
    go_wp2_with fail
    exact bodyPost_ret (v := .tuple #[.string ⟨#[]⟩, .string ⟨#[]⟩, .string ⟨#[]⟩, .bool false]) (by simp [results, Tryz.results150, go_sem]) rfl (MemberRet.no (fun x => HH.out x.1) (Below.refl _ _))
end Go.Proofs.YtclpkipaehpkdaaGreatDoor

namespace Go.Proofs.YtclpkipaehpkdaaGreatDoor
open Go.ChangeShapes Go.WideShapes Go.ChangeAt Go.RowKit
def bareV (c : KV) : KV :=
  ⟨c.tag, if c.tag = 9 ∨ c.tag = 10 ∨ c.tag = 12 ∨ c.tag = 7 ∨ c.tag = 8 then c.a else 0, if c.tag = 9 ∨ c.tag = 10 ∨ c.tag = 12 then c.b else 0, if c.tag = 3 then wrap32 c.n else if c.tag = 5 then c.n else 0, if c.tag = 1 then c.s else []⟩
def kV (c : KV) : Value := .agg #[.int .i64 c.tag, .int .i64 c.a, .int .i64 c.b, .int .i64 c.n, .string ⟨c.s.toArray⟩]
theorem infoConst : (Tryz.prog.info? 61).map (·.size) = some 5 := by kernel_rfl
theorem blk_1 (w : World) (A B C : Obj) : (((w.alloc A).alloc B).alloc C).heap[w.heap.size + 1]? = some B := by
  rw [Below.heap_alloc _ _ _ (by simp)]
  have := heap_alloc_last (w.alloc A) B
  simpa using this
theorem below_3 (w : World) (A B C : Obj) : Below w.heap.size w (((w.alloc A).alloc B).alloc C) := (((Below.refl _ _).alloc (Nat.le_refl _) _).alloc (by simp) _).alloc (by simp; omega) _
set_option maxRecDepth 100000 in
set_option maxHeartbeats 4000000 in
theorem bare_1 (w : World) (t a b n : Int) (s : List UInt8) : Calls Tryz.prog 87 #[kV ⟨1, a, b, n, s⟩] w fun e w' => e = .returned (kV (bareV ⟨1, a, b, n, s⟩)) ∧ Below w.heap.size w w' := by
  unfold kV
  go_enter Tryz.func87, Tryz.ntmps87
  go_wp2_with fail
  unfold bareV
  simp only [reduceCtorEq, if_true, if_false, or_true, true_or, or_false, false_or, Int.reduceEq, or_self]
  exact bodyPost_ret (results_cell_row rfl _ _ (w.heap.size + 1) _ _ _ _ rfl (blk_1 _ _ _ _) Tryz.underlying61 rfl infoConst) rfl ⟨rfl, below_3 _ _ _ _⟩
set_option maxRecDepth 100000 in
set_option maxHeartbeats 4000000 in
theorem bare_3 (w : World) (t a b n : Int) (s : List UInt8) : Calls Tryz.prog 87 #[kV ⟨3, a, b, n, s⟩] w fun e w' => e = .returned (kV (bareV ⟨3, a, b, n, s⟩)) ∧ Below w.heap.size w w' := by
  unfold kV
  go_enter Tryz.func87, Tryz.ntmps87
  go_wp2_with fail
  unfold bareV
  simp only [reduceCtorEq, if_true, if_false, or_true, true_or, or_false, false_or, Int.reduceEq, or_self]
  have hw : wrap64 (wrap32 n) = wrap32 n := by unfold wrap64 wrap32; omega
  rw [hw]
  exact bodyPost_ret (results_cell_row rfl _ _ (w.heap.size + 1) _ _ _ _ rfl (blk_1 _ _ _ _) Tryz.underlying61 rfl infoConst) rfl ⟨rfl, below_3 _ _ _ _⟩
set_option maxRecDepth 100000 in
set_option maxHeartbeats 4000000 in
theorem bare_5 (w : World) (t a b n : Int) (s : List UInt8) : Calls Tryz.prog 87 #[kV ⟨5, a, b, n, s⟩] w fun e w' => e = .returned (kV (bareV ⟨5, a, b, n, s⟩)) ∧ Below w.heap.size w w' := by
  unfold kV
  go_enter Tryz.func87, Tryz.ntmps87
  go_wp2_with fail
  unfold bareV
  simp only [reduceCtorEq, if_true, if_false, or_true, true_or, or_false, false_or, Int.reduceEq, or_self]
  exact bodyPost_ret (results_cell_row rfl _ _ (w.heap.size + 1) _ _ _ _ rfl (blk_1 _ _ _ _) Tryz.underlying61 rfl infoConst) rfl ⟨rfl, below_3 _ _ _ _⟩
set_option maxRecDepth 100000 in
set_option maxHeartbeats 4000000 in
theorem bare_9 (w : World) (t a b n : Int) (s : List UInt8) : Calls Tryz.prog 87 #[kV ⟨9, a, b, n, s⟩] w fun e w' => e = .returned (kV (bareV ⟨9, a, b, n, s⟩)) ∧ Below w.heap.size w w' := by
  unfold kV
  go_enter Tryz.func87, Tryz.ntmps87
  go_wp2_with fail
  unfold bareV
  simp only [reduceCtorEq, if_true, if_false, or_true, true_or, or_false, false_or, Int.reduceEq, or_self]
  exact bodyPost_ret (results_cell_row rfl _ _ (w.heap.size + 1) _ _ _ _ rfl (blk_1 _ _ _ _) Tryz.underlying61 rfl infoConst) rfl ⟨rfl, below_3 _ _ _ _⟩
set_option maxRecDepth 100000 in
set_option maxHeartbeats 4000000 in
theorem bare_10 (w : World) (t a b n : Int) (s : List UInt8) : Calls Tryz.prog 87 #[kV ⟨10, a, b, n, s⟩] w fun e w' => e = .returned (kV (bareV ⟨10, a, b, n, s⟩)) ∧ Below w.heap.size w w' := by
  unfold kV
  go_enter Tryz.func87, Tryz.ntmps87
  go_wp2_with fail
  unfold bareV
  simp only [reduceCtorEq, if_true, if_false, or_true, true_or, or_false, false_or, Int.reduceEq, or_self]
  exact bodyPost_ret (results_cell_row rfl _ _ (w.heap.size + 1) _ _ _ _ rfl (blk_1 _ _ _ _) Tryz.underlying61 rfl infoConst) rfl ⟨rfl, below_3 _ _ _ _⟩
set_option maxRecDepth 100000 in
set_option maxHeartbeats 4000000 in
theorem bare_12 (w : World) (t a b n : Int) (s : List UInt8) : Calls Tryz.prog 87 #[kV ⟨12, a, b, n, s⟩] w fun e w' => e = .returned (kV (bareV ⟨12, a, b, n, s⟩)) ∧ Below w.heap.size w w' := by
  unfold kV
  go_enter Tryz.func87, Tryz.ntmps87
  go_wp2_with fail
  unfold bareV
  simp only [reduceCtorEq, if_true, if_false, or_true, true_or, or_false, false_or, Int.reduceEq, or_self]
  exact bodyPost_ret (results_cell_row rfl _ _ (w.heap.size + 1) _ _ _ _ rfl (blk_1 _ _ _ _) Tryz.underlying61 rfl infoConst) rfl ⟨rfl, below_3 _ _ _ _⟩
set_option maxRecDepth 100000 in
set_option maxHeartbeats 4000000 in
theorem bare_7 (w : World) (t a b n : Int) (s : List UInt8) : Calls Tryz.prog 87 #[kV ⟨7, a, b, n, s⟩] w fun e w' => e = .returned (kV (bareV ⟨7, a, b, n, s⟩)) ∧ Below w.heap.size w w' := by
  unfold kV
  go_enter Tryz.func87, Tryz.ntmps87
  go_wp2_with fail
  unfold bareV
  simp only [reduceCtorEq, if_true, if_false, or_true, true_or, or_false, false_or, Int.reduceEq, or_self]
  exact bodyPost_ret (results_cell_row rfl _ _ (w.heap.size + 1) _ _ _ _ rfl (blk_1 _ _ _ _) Tryz.underlying61 rfl infoConst) rfl ⟨rfl, below_3 _ _ _ _⟩
set_option maxRecDepth 100000 in
set_option maxHeartbeats 4000000 in
theorem bare_8 (w : World) (t a b n : Int) (s : List UInt8) : Calls Tryz.prog 87 #[kV ⟨8, a, b, n, s⟩] w fun e w' => e = .returned (kV (bareV ⟨8, a, b, n, s⟩)) ∧ Below w.heap.size w w' := by
  unfold kV
  go_enter Tryz.func87, Tryz.ntmps87
  go_wp2_with fail
  unfold bareV
  simp only [reduceCtorEq, if_true, if_false, or_true, true_or, or_false, false_or, Int.reduceEq, or_self]
  exact bodyPost_ret (results_cell_row rfl _ _ (w.heap.size + 1) _ _ _ _ rfl (blk_1 _ _ _ _) Tryz.underlying61 rfl infoConst) rfl ⟨rfl, below_3 _ _ _ _⟩
set_option maxRecDepth 100000 in
set_option maxHeartbeats 4000000 in
theorem bare_else (w : World) (t a b n : Int) (s : List UInt8) (h : t ≠ 1 ∧ t ≠ 3 ∧ t ≠ 5 ∧ t ≠ 9 ∧ t ≠ 10 ∧ t ≠ 12 ∧ t ≠ 7 ∧ t ≠ 8) : Calls Tryz.prog 87 #[kV ⟨t, a, b, n, s⟩] w fun e w' => e = .returned (kV (bareV ⟨t, a, b, n, s⟩)) ∧ Below w.heap.size w w' := by
  unfold kV
  obtain ⟨h1, h3, h5, h9, h10, h12, h7, h8⟩ := h
  have HB := Lib.hid (show bareV ⟨t, a, b, n, s⟩ = ⟨t, 0, 0, 0, []⟩ by unfold bareV; simp [h1, h3, h5, h9, h10, h12, h7, h8])
  have e1 : (t == 1) = false := by simp [h1]
  have e3 : (t == 3) = false := by simp [h3]
  have e5 : (t == 5) = false := by simp [h5]
  have e9 : (t == 9) = false := by simp [h9]
  have e10 : (t == 10) = false := by simp [h10]
  have e12 : (t == 12) = false := by simp [h12]
  have e7 : (t == 7) = false := by simp [h7]
  have e8 : (t == 8) = false := by simp [h8]
  clear h1 h3 h5 h9 h10 h12 h7 h8
  go_enter Tryz.func87, Tryz.ntmps87
  go_wp2_with fail
  rw [HB.out]
  exact bodyPost_ret (results_cell_row rfl _ _ (w.heap.size + 1) _ _ _ _ rfl (blk_1 _ _ _ _) Tryz.underlying61 rfl infoConst) rfl ⟨rfl, below_3 _ _ _ _⟩
theorem bare_any (w : World) (c : KV) : Calls Tryz.prog 87 #[kV c] w fun e w' => e = .returned (kV (bareV c)) ∧ Below w.heap.size w w' := by
  obtain ⟨t, a, b, n, s⟩ := c
  by_cases h1 : t = 1
  · subst h1; exact bare_1 w 0 a b n s
  by_cases h3 : t = 3
  · subst h3; exact bare_3 w 0 a b n s
  by_cases h5 : t = 5
  · subst h5; exact bare_5 w 0 a b n s
  by_cases h9 : t = 9
  · subst h9; exact bare_9 w 0 a b n s
  by_cases h10 : t = 10
  · subst h10; exact bare_10 w 0 a b n s
  by_cases h12 : t = 12
  · subst h12; exact bare_12 w 0 a b n s
  by_cases h7 : t = 7
  · subst h7; exact bare_7 w 0 a b n s
  by_cases h8 : t = 8
  · subst h8; exact bare_8 w 0 a b n s
  exact bare_else w t a b n s ⟨h1, h3, h5, h9, h10, h12, h7, h8⟩
end Go.Proofs.YtclpkipaehpkdaaGreatDoor

