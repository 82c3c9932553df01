/- pool: Text, Class and Member, the program's and the reference's (printed by gen/pool1.py). No condition. -/
import Derived.Test.YtlfoedagcagpgaaPoolFn
namespace Go.Proofs.Ytlfoedagcagpgaa
open Go.ChangeShapes Go.WideShapes Go.ChangeAt Go.RowKit
set_option maxRecDepth 100000 in
set_option maxHeartbeats 4000000 in
theorem refis_any (w : World) (a : Option Addr) (n cap : Nat) (L : List KV) (i t : Int) (hs : Ks w a n L) (hn : n ≤ 65536) :
    Calls Try.prog 23 #[.slice a n cap, .int .i64 i, .int .i64 t] w fun e w' => e = .returned (.bool (isT L i t)) ∧ w = w' := by
  by_cases h1 : i < 1
  · rw [isT_low h1]
    have h0 : decide (1 ≤ i) = false := by simp; omega
    clear hs
    go_enter Try.func23, Try.ntmps23
    go_wp2_with fail
    go_ret
    exact ⟨rfl, rfl⟩
  · by_cases h2 : (n : Int) ≤ i
    · rw [isT_high (by rw [hs.1]; exact h2)]
      have h0 : decide (1 ≤ i) = true := by simp; omega
      have h3 : decide (i < (n : Int)) = false := by simp; omega
      clear hs
      go_enter Try.func23, Try.ntmps23
      go_wp2_with fail
      go_ret
      exact ⟨rfl, rfl⟩
    · obtain ⟨k, rfl⟩ : ∃ k : Nat, i = k := ⟨i.toNat, by omega⟩
      rw [isT_in (by omega) (by rw [hs.1]; omega)]
      obtain ⟨b, off, rfl, _, hk⟩ := hs.at k (by omega)
      have g0 := hk.c0
      have k0 : (1 : Int) ≤ k := by omega
      have k1 : k < n := by omega
      obtain ⟨t0, ht0⟩ : ∃ t0, t0 = (kAt L k).tag := ⟨_, rfl⟩
      rw [← ht0] at g0 ⊢
      clear hk hs h1 h2 ht0
      by_cases ht : t0 = t
      · subst ht
        have e1 : (t0 == t0) = true := by simp
        go_enter Try.func23, Try.ntmps23
        go_wp2_with fail
        go_ret
        exact ⟨by simp, rfl⟩
      · have e1 : (t0 == t) = false := by simp [ht]
        rw [decide_eq_false ht]
        clear ht
        go_enter Try.func23, Try.ntmps23
        go_wp2_with fail
        go_ret
        exact ⟨rfl, rfl⟩
def TextRet (L : List KV) (i : Int) (w : World) (e : Ending) (w' : World) : Prop := e = .returned (.tuple #[.string ⟨(textAt L i).toArray⟩, .bool (isT L i 1)]) ∧ w = w'
def ClassRet (L : List KV) (i : Int) (w : World) (e : Ending) (w' : World) : Prop := e = .returned (.tuple #[.string ⟨(classAt L i).1.toArray⟩, .bool (classAt L i).2]) ∧ w = w'
def MemberRet (L : List KV) (i t : Int) (w : World) (e : Ending) (w' : World) : Prop :=
  e = .returned (.tuple #[.string ⟨(memberAt L i t).1.toArray⟩, .string ⟨(memberAt L i t).2.1.toArray⟩, .string ⟨(memberAt L i t).2.2.1.toArray⟩, .bool (memberAt L i t).2.2.2]) ∧ Below w.heap.size w w'
theorem MemberRet.no {L : List KV} {i t : Int} {w w' : World} (h : ¬ ((t = 9 ∨ t = 10) ∧ isT L i t = true ∧ isT L (kAt L i).b 12 = true ∧ (classAt L (kAt L i).a).2 = true ∧ isT L (kAt L (kAt L i).b).a 1 = true ∧ isT L (kAt L (kAt L i).b).b 1 = true)) (hb : Below w.heap.size w w') :
    MemberRet L i t w (.returned (.tuple #[.string ⟨#[]⟩, .string ⟨#[]⟩, .string ⟨#[]⟩, .bool false])) w' := by
  unfold MemberRet memberAt
  rw [if_neg h]
  exact ⟨rfl, hb⟩
theorem MemberRet.yes {L : List KV} {i t : Int} {w w' : World} (h : ((t = 9 ∨ t = 10) ∧ isT L i t = true ∧ isT L (kAt L i).b 12 = true ∧ (classAt L (kAt L i).a).2 = true ∧ isT L (kAt L (kAt L i).b).a 1 = true ∧ isT L (kAt L (kAt L i).b).b 1 = true)) (hb : Below w.heap.size w w') :
    MemberRet L i t w (.returned (.tuple #[.string ⟨(classAt L (kAt L i).a).1.toArray⟩, .string ⟨(textAt L (kAt L (kAt L i).b).a).toArray⟩, .string ⟨(textAt L (kAt L (kAt L i).b).b).toArray⟩, .bool true])) w' := by
  unfold MemberRet memberAt
  rw [if_pos h]
  exact ⟨rfl, hb⟩
set_option maxRecDepth 100000 in
set_option maxHeartbeats 4000000 in
theorem Text_any (w : World) (a : Option Addr) (n cap : Nat) (L : List KV) (i : Int) (hs : Ks w a n L) (hn : n ≤ 65536) : Calls Try.prog 9 #[.slice a n cap, .int .i64 i] w (TextRet L i w) := by
  have C1 := is_any w a n cap L i 1 hs hn
  unfold TextRet textAt
  cases h : isT L i 1
  · rw [h] at C1
    have K1 := Lib.hid C1
    clear C1 hs h
    go_enter Try.func9, Try.ntmps9
    go_wp2_with fail
    refine K1.out.mono ?_
    rintro e w' ⟨rfl, rfl⟩
    go_wp2_with fail
    go_ret2
    exact ⟨rfl, rfl⟩
  · rw [h] at C1
    have K1 := Lib.hid C1
    obtain ⟨h1, h2, _⟩ := isT_true h
    rw [hs.1] at h2
    obtain ⟨k, rfl⟩ : ∃ k : Nat, i = k := ⟨i.toNat, by omega⟩
    obtain ⟨b, off, rfl, _, hk⟩ := hs.at k (by omega)
    have g4 := hk.c4
    have k0 : 0 < k := by omega
    have k1 : k < n := by omega
    rw [if_pos rfl]
    clear C1 hs h h1 h2 hk
    go_enter Try.func9, Try.ntmps9
    go_wp2_with fail
    refine K1.out.mono ?_
    rintro e w' ⟨rfl, rfl⟩
    go_wp2_with fail
    go_ret2
    exact ⟨rfl, rfl⟩
set_option maxRecDepth 100000 in
set_option maxHeartbeats 4000000 in
theorem Class_any (w : World) (a : Option Addr) (n cap : Nat) (L : List KV) (i : Int) (hs : Ks w a n L) (hn : n ≤ 65536) : Calls Try.prog 10 #[.slice a n cap, .int .i64 i] w (ClassRet L i w) := by
  have C1 := is_any w a n cap L i 7 hs hn
  unfold ClassRet classAt
  cases h : isT L i 7
  · rw [h] at C1
    have K1 := Lib.hid C1
    clear C1 hs h
    go_enter Try.func10, Try.ntmps10
    go_wp2_with fail
    refine K1.out.mono ?_
    rintro e w' ⟨rfl, rfl⟩
    go_wp2_with fail
    go_ret2
    exact ⟨rfl, rfl⟩
  · rw [h] at C1
    have K1 := Lib.hid C1
    obtain ⟨h1, h2, _⟩ := isT_true h
    rw [hs.1] at h2
    obtain ⟨k, rfl⟩ : ∃ k : Nat, i = k := ⟨i.toNat, by omega⟩
    have C2 := Text_any w a n cap L (kAt L k).a hs hn
    unfold TextRet at C2
    have K2 := Lib.hid C2
    obtain ⟨b, off, rfl, _, hk⟩ := hs.at k (by omega)
    have g1 := hk.c1
    have k0 : 0 < k := by omega
    have k1 : k < n := by omega
    rw [if_pos rfl]
    clear C1 C2 hs h h1 h2 hk
    go_enter Try.func10, Try.ntmps10
    go_wp2_with fail
    refine K1.out.mono ?_
    rintro e w' ⟨rfl, rfl⟩
    go_wp2_with fail
    refine K2.out.mono ?_
    rintro e w' ⟨rfl, rfl⟩
    go_wp2_with fail
    go_ret2
    exact ⟨rfl, rfl⟩
set_option maxRecDepth 100000 in
set_option maxHeartbeats 8000000 in
theorem Member_any (w : World) (a : Option Addr) (n cap : Nat) (L : List KV) (i t : Int) (hs : Ks w a n L) (hn : n ≤ 65536) : Calls Try.prog 13 #[.slice a n cap, .int .i64 i, .int .i64 t] w (MemberRet L i t w) := by
  by_cases h9 : t = 9 ∨ t = 10
  · have e9 : ((t != 9) && (t != 10)) = false := by rcases h9 with rfl | rfl <;> rfl
    have C1 := is_any w a n cap L i t hs hn
    have H9 := Lib.hid h9
    have tw : (t = 9 ∧ True) ∨ (t = 10 ∧ True) := by rcases h9 with rfl | rfl; exact .inl ⟨rfl, trivial⟩; exact .inr ⟨rfl, trivial⟩
    clear e9 h9
    cases h : isT L i t
    · rw [h] at C1
      have K1 := Lib.hid C1
      have HH := Lib.hid h
      clear C1 hs h
      rcases tw with ⟨rfl, _⟩ | ⟨rfl, _⟩
      all_goals
        go_enter Try.func13, Try.ntmps13
        go_wp2_with fail
        refine K1.out.mono ?_
        rintro e w' ⟨rfl, rfl⟩
        go_wp2_with fail
        refine bodyPost_ret (v := .tuple #[.string ⟨#[]⟩, .string ⟨#[]⟩, .string ⟨#[]⟩, .bool false]) (by simp [results, Try.results13, go_sem]) rfl (MemberRet.no (fun x => ?_) (Below.refl _ _))
        rw [HH.out] at x
        exact absurd x.2.1 (by decide)
    · rw [h] at C1
      have K1 := Lib.hid C1
      obtain ⟨h1, h2, _⟩ := isT_true h
      rw [hs.1] at h2
      obtain ⟨k, rfl⟩ : ∃ k : Nat, i = k := ⟨i.toNat, by omega⟩
      have HH := Lib.hid h
      have C2 := is_any w a n cap L (kAt L k).b 12 hs hn
      obtain ⟨b, off, rfl, hbl, hk⟩ := hs.at k (by omega)
      have g1 := hk.c1
      have g2 := hk.c2
      have k0 : 0 < k := by omega
      have k1 : k < n := by omega
      have HS := Lib.hid hs
      clear C1 h1 h2 hk h hs
      cases h : isT L (kAt L k).b 12
      · rw [h] at C2
        have K2 := Lib.hid C2
        have HI := Lib.hid h
        clear C2 h
        rcases tw with ⟨rfl, _⟩ | ⟨rfl, _⟩
        all_goals
          go_enter Try.func13, Try.ntmps13
          go_wp2_with fail
          refine K1.out.mono ?_
          rintro e w' ⟨rfl, rfl⟩
          go_wp2_with fail
          refine K2.out.mono ?_
          rintro e w' ⟨rfl, rfl⟩
          go_wp2_with fail
          refine bodyPost_ret (v := .tuple #[.string ⟨#[]⟩, .string ⟨#[]⟩, .string ⟨#[]⟩, .bool false]) (by simp [results, Try.results13, go_sem]) rfl (MemberRet.no (fun x => ?_) (Below.refl _ _))
          rw [HI.out] at x
          exact absurd x.2.2.1 (by decide)
      · rw [h] at C2
        have K2 := Lib.hid C2
        have HI := Lib.hid h
        obtain ⟨h1, h2, _⟩ := isT_true h
        rw [HS.out.1] at h2
        obtain ⟨m, hm⟩ : ∃ m : Nat, (kAt L k).b = m := ⟨(kAt L k).b.toNat, by omega⟩
        rw [hm] at h1 h2 g2 K2
        obtain ⟨b', off', he, _, hk⟩ := HS.out.at m (by omega)
        cases he
        have m0 : 0 < m := by omega
        have m1 : m < n := by omega
        obtain ⟨q0, q1, q2, q3, q4⟩ := hk
        have HM := Lib.hid hm
        clear C2 h h1 h2 hm
        have CC : ∀ w', Below w.heap.size w w' → Calls Try.prog 10 #[.slice (some ⟨b, off, none⟩) n cap, .int .i64 (kAt L k).a] w' (ClassRet L (kAt L k).a w') := fun w' hb => Class_any w' _ n cap L _ (HS.out.below hb) hn
        have TA : ∀ w', Below w.heap.size w w' → Calls Try.prog 9 #[.slice (some ⟨b, off, none⟩) n cap, .int .i64 (kAt L m).a] w' (TextRet L (kAt L m).a w') := fun w' hb => Text_any w' _ n cap L _ (HS.out.below hb) hn
        have TB : ∀ w', Below w.heap.size w w' → Calls Try.prog 9 #[.slice (some ⟨b, off, none⟩) n cap, .int .i64 (kAt L m).b] w' (TextRet L (kAt L m).b w') := fun w' hb => Text_any w' _ n cap L _ (HS.out.below hb) hn
        unfold ClassRet at CC
        unfold TextRet at TA TB
        have HCC := Lib.hid CC
        have HTA := Lib.hid TA
        have HTB := Lib.hid TB
        have fin : ∀ (W : World), Below w.heap.size w W → Below w.heap.size w W := fun _ h => h
        clear CC TA TB fin
        have HR := Lib.hid (show ∀ W, Below w.heap.size w W → (classAt L (kAt L k).a).2 = true → isT L (kAt L m).a 1 = true → isT L (kAt L m).b 1 = true → MemberRet L k t w (.returned (.tuple #[.string ⟨(classAt L (kAt L k).a).1.toArray⟩, .string ⟨(textAt L (kAt L m).a).toArray⟩, .string ⟨(textAt L (kAt L m).b).toArray⟩, .bool true])) W from
          fun W hW c1 c2 c3 => by
            have := MemberRet.yes (L := L) (i := k) (t := t) (w := w) (w' := W) ⟨H9.out, HH.out, HI.out, c1, by rw [HM.out]; exact c2, by rw [HM.out]; exact c3⟩ hW
            rw [HM.out] at this
            exact this)
        have HN := Lib.hid (show ∀ W, Below w.heap.size w W → ((classAt L (kAt L k).a).2 = false ∨ isT L (kAt L m).a 1 = false ∨ isT L (kAt L m).b 1 = false) → MemberRet L k t w (.returned (.tuple #[.string ⟨#[]⟩, .string ⟨#[]⟩, .string ⟨#[]⟩, .bool false])) W from
          fun W hW hx => by
            refine MemberRet.no (fun x => ?_) hW
            rw [HM.out] at x
            rcases hx with hx | hx | hx <;> simp [hx] at x)
        generalize (classAt L (kAt L k).a).1 = s1 at *
        generalize (classAt L (kAt L k).a).2 = o1 at *
        generalize isT L (kAt L m).a 1 = o2 at *
        generalize isT L (kAt L m).b 1 = o3 at *
        generalize textAt L (kAt L m).a = s2 at *
        generalize textAt L (kAt L m).b = s3 at *
        have KF := Lib.hid (Below.refl w.heap.size w)
        rcases tw with ⟨rfl, _⟩ | ⟨rfl, _⟩
        all_goals
          go_enter Try.func13, Try.ntmps13
          go_wp2_with fail
          refine K1.out.mono ?_
          rintro e w' ⟨rfl, rfl⟩
          go_wp2_with fail
          refine K2.out.mono ?_
          rintro e w' ⟨rfl, rfl⟩
          go_wp2_with fail
          refine (HCC.out _ ((Below.refl _ _).alloc (Nat.le_refl _) _)).mono ?_
          rintro e w' ⟨rfl, rfl⟩
          go_wp2_with fail
          refine (HTA.out _ ((Below.refl _ _).alloc (Nat.le_refl _) _)).mono ?_
          rintro e w' ⟨rfl, rfl⟩
          go_wp2_with fail
          refine (HTB.out _ ((Below.refl _ _).alloc (Nat.le_refl _) _)).mono ?_
          rintro e w' ⟨rfl, rfl⟩
          cases o1
          · go_wp2_with fail
            exact bodyPost_ret (v := .tuple #[.string ⟨#[]⟩, .string ⟨#[]⟩, .string ⟨#[]⟩, .bool false]) (by simp [results, Try.results13, go_sem]) rfl (HN.out _ ((Below.refl _ _).alloc (Nat.le_refl _) _) (by simp))
          · cases o2
            · go_wp2_with fail
              exact bodyPost_ret (v := .tuple #[.string ⟨#[]⟩, .string ⟨#[]⟩, .string ⟨#[]⟩, .bool false]) (by simp [results, Try.results13, go_sem]) rfl (HN.out _ ((Below.refl _ _).alloc (Nat.le_refl _) _) (by simp))
            · cases o3
              · go_wp2_with fail
                exact bodyPost_ret (v := .tuple #[.string ⟨#[]⟩, .string ⟨#[]⟩, .string ⟨#[]⟩, .bool false]) (by simp [results, Try.results13, go_sem]) rfl (HN.out _ ((Below.refl _ _).alloc (Nat.le_refl _) _) (by simp))
              · go_wp2_with fail
                exact bodyPost_ret (v := .tuple #[.string ⟨s1.toArray⟩, .string ⟨s2.toArray⟩, .string ⟨s3.toArray⟩, .bool true]) (by simp [results, Try.results13, go_sem]) rfl (HR.out _ ((Below.refl _ _).alloc (Nat.le_refl _) _) (by simp) (by simp) (by simp))
  · have HH := Lib.hid h9
    have e1 : (t != 9) = true := by simp; omega
    have e2 : (t != 10) = true := by simp; omega
    clear hs h9
    go_enter Try.func13, Try.ntmps13
    go_wp2_with fail
    exact bodyPost_ret (v := .tuple #[.string ⟨#[]⟩, .string ⟨#[]⟩, .string ⟨#[]⟩, .bool false]) (by simp [results, Try.results13, go_sem]) rfl (MemberRet.no (fun x => HH.out x.1) (Below.refl _ _))
set_option maxRecDepth 100000 in
set_option maxHeartbeats 4000000 in
theorem refText_any (w : World) (a : Option Addr) (n cap : Nat) (L : List KV) (i : Int) (hs : Ks w a n L) (hn : n ≤ 65536) : Calls Try.prog 11 #[.slice a n cap, .int .i64 i] w (TextRet L i w) := by
  have C1 := refis_any w a n cap L i 1 hs hn
  unfold TextRet textAt
  cases h : isT L i 1
  · rw [h] at C1
    have K1 := Lib.hid C1
    clear C1 hs h
    go_enter Try.func11, Try.ntmps11
    go_wp2_with fail
    refine K1.out.mono ?_
    rintro e w' ⟨rfl, rfl⟩
    go_wp2_with fail
    go_ret2
    exact ⟨rfl, rfl⟩
  · rw [h] at C1
    have K1 := Lib.hid C1
    obtain ⟨h1, h2, _⟩ := isT_true h
    rw [hs.1] at h2
    obtain ⟨k, rfl⟩ : ∃ k : Nat, i = k := ⟨i.toNat, by omega⟩
    obtain ⟨b, off, rfl, _, hk⟩ := hs.at k (by omega)
    have g4 := hk.c4
    have k0 : 0 < k := by omega
    have k1 : k < n := by omega
    rw [if_pos rfl]
    clear C1 hs h h1 h2 hk
    go_enter Try.func11, Try.ntmps11
    go_wp2_with fail
    refine K1.out.mono ?_
    rintro e w' ⟨rfl, rfl⟩
    go_wp2_with fail
    go_ret2
    exact ⟨rfl, rfl⟩
set_option maxRecDepth 100000 in
set_option maxHeartbeats 4000000 in
theorem refClass_any (w : World) (a : Option Addr) (n cap : Nat) (L : List KV) (i : Int) (hs : Ks w a n L) (hn : n ≤ 65536) : Calls Try.prog 12 #[.slice a n cap, .int .i64 i] w (ClassRet L i w) := by
  have C1 := refis_any w a n cap L i 7 hs hn
  unfold ClassRet classAt
  cases h : isT L i 7
  · rw [h] at C1
    have K1 := Lib.hid C1
    clear C1 hs h
    go_enter Try.func12, Try.ntmps12
    go_wp2_with fail
    refine K1.out.mono ?_
    rintro e w' ⟨rfl, rfl⟩
    go_wp2_with fail
    go_ret2
    exact ⟨rfl, rfl⟩
  · rw [h] at C1
    have K1 := Lib.hid C1
    obtain ⟨h1, h2, _⟩ := isT_true h
    rw [hs.1] at h2
    obtain ⟨k, rfl⟩ : ∃ k : Nat, i = k := ⟨i.toNat, by omega⟩
    have C2 := refText_any w a n cap L (kAt L k).a hs hn
    unfold TextRet at C2
    have K2 := Lib.hid C2
    obtain ⟨b, off, rfl, _, hk⟩ := hs.at k (by omega)
    have g1 := hk.c1
    have k0 : 0 < k := by omega
    have k1 : k < n := by omega
    rw [if_pos rfl]
    clear C1 C2 hs h h1 h2 hk
    go_enter Try.func12, Try.ntmps12
    go_wp2_with fail
    refine K1.out.mono ?_
    rintro e w' ⟨rfl, rfl⟩
    go_wp2_with fail
    refine K2.out.mono ?_
    rintro e w' ⟨rfl, rfl⟩
    go_wp2_with fail
    go_ret2
    exact ⟨rfl, rfl⟩
set_option maxRecDepth 100000 in
set_option maxHeartbeats 8000000 in
theorem refMember_any (w : World) (a : Option Addr) (n cap : Nat) (L : List KV) (i t : Int) (hs : Ks w a n L) (hn : n ≤ 65536) : Calls Try.prog 14 #[.slice a n cap, .int .i64 i, .int .i64 t] w (MemberRet L i t w) := by
  by_cases h9 : t = 9 ∨ t = 10
  · have e9 : ((t != 9) && (t != 10)) = false := by rcases h9 with rfl | rfl <;> rfl
    have C1 := refis_any w a n cap L i t hs hn
    have H9 := Lib.hid h9
    have tw : (t = 9 ∧ True) ∨ (t = 10 ∧ True) := by rcases h9 with rfl | rfl; exact .inl ⟨rfl, trivial⟩; exact .inr ⟨rfl, trivial⟩
    clear e9 h9
    cases h : isT L i t
    · rw [h] at C1
      have K1 := Lib.hid C1
      have HH := Lib.hid h
      clear C1 hs h
      rcases tw with ⟨rfl, _⟩ | ⟨rfl, _⟩
      all_goals
        go_enter Try.func14, Try.ntmps14
        go_wp2_with fail
        refine K1.out.mono ?_
        rintro e w' ⟨rfl, rfl⟩
        go_wp2_with fail
        refine bodyPost_ret (v := .tuple #[.string ⟨#[]⟩, .string ⟨#[]⟩, .string ⟨#[]⟩, .bool false]) (by simp [results, Try.results14, go_sem]) rfl (MemberRet.no (fun x => ?_) (Below.refl _ _))
        rw [HH.out] at x
        exact absurd x.2.1 (by decide)
    · rw [h] at C1
      have K1 := Lib.hid C1
      obtain ⟨h1, h2, _⟩ := isT_true h
      rw [hs.1] at h2
      obtain ⟨k, rfl⟩ : ∃ k : Nat, i = k := ⟨i.toNat, by omega⟩
      have HH := Lib.hid h
      have C2 := refis_any w a n cap L (kAt L k).b 12 hs hn
      obtain ⟨b, off, rfl, hbl, hk⟩ := hs.at k (by omega)
      have g1 := hk.c1
      have g2 := hk.c2
      have k0 : 0 < k := by omega
      have k1 : k < n := by omega
      have HS := Lib.hid hs
      clear C1 h1 h2 hk h hs
      cases h : isT L (kAt L k).b 12
      · rw [h] at C2
        have K2 := Lib.hid C2
        have HI := Lib.hid h
        clear C2 h
        rcases tw with ⟨rfl, _⟩ | ⟨rfl, _⟩
        all_goals
          go_enter Try.func14, Try.ntmps14
          go_wp2_with fail
          refine K1.out.mono ?_
          rintro e w' ⟨rfl, rfl⟩
          go_wp2_with fail
          refine K2.out.mono ?_
          rintro e w' ⟨rfl, rfl⟩
          go_wp2_with fail
          refine bodyPost_ret (v := .tuple #[.string ⟨#[]⟩, .string ⟨#[]⟩, .string ⟨#[]⟩, .bool false]) (by simp [results, Try.results14, go_sem]) rfl (MemberRet.no (fun x => ?_) (Below.refl _ _))
          rw [HI.out] at x
          exact absurd x.2.2.1 (by decide)
      · rw [h] at C2
        have K2 := Lib.hid C2
        have HI := Lib.hid h
        obtain ⟨h1, h2, _⟩ := isT_true h
        rw [HS.out.1] at h2
        obtain ⟨m, hm⟩ : ∃ m : Nat, (kAt L k).b = m := ⟨(kAt L k).b.toNat, by omega⟩
        rw [hm] at h1 h2 g2 K2
        obtain ⟨b', off', he, _, hk⟩ := HS.out.at m (by omega)
        cases he
        have m0 : 0 < m := by omega
        have m1 : m < n := by omega
        obtain ⟨q0, q1, q2, q3, q4⟩ := hk
        have HM := Lib.hid hm
        clear C2 h h1 h2 hm
        have CC : ∀ w', Below w.heap.size w w' → Calls Try.prog 12 #[.slice (some ⟨b, off, none⟩) n cap, .int .i64 (kAt L k).a] w' (ClassRet L (kAt L k).a w') := fun w' hb => refClass_any w' _ n cap L _ (HS.out.below hb) hn
        have TA : ∀ w', Below w.heap.size w w' → Calls Try.prog 11 #[.slice (some ⟨b, off, none⟩) n cap, .int .i64 (kAt L m).a] w' (TextRet L (kAt L m).a w') := fun w' hb => refText_any w' _ n cap L _ (HS.out.below hb) hn
        have TB : ∀ w', Below w.heap.size w w' → Calls Try.prog 11 #[.slice (some ⟨b, off, none⟩) n cap, .int .i64 (kAt L m).b] w' (TextRet L (kAt L m).b w') := fun w' hb => refText_any w' _ n cap L _ (HS.out.below hb) hn
        unfold ClassRet at CC
        unfold TextRet at TA TB
        have HCC := Lib.hid CC
        have HTA := Lib.hid TA
        have HTB := Lib.hid TB
        have fin : ∀ (W : World), Below w.heap.size w W → Below w.heap.size w W := fun _ h => h
        clear CC TA TB fin
        have HR := Lib.hid (show ∀ W, Below w.heap.size w W → (classAt L (kAt L k).a).2 = true → isT L (kAt L m).a 1 = true → isT L (kAt L m).b 1 = true → MemberRet L k t w (.returned (.tuple #[.string ⟨(classAt L (kAt L k).a).1.toArray⟩, .string ⟨(textAt L (kAt L m).a).toArray⟩, .string ⟨(textAt L (kAt L m).b).toArray⟩, .bool true])) W from
          fun W hW c1 c2 c3 => by
            have := MemberRet.yes (L := L) (i := k) (t := t) (w := w) (w' := W) ⟨H9.out, HH.out, HI.out, c1, by rw [HM.out]; exact c2, by rw [HM.out]; exact c3⟩ hW
            rw [HM.out] at this
            exact this)
        have HN := Lib.hid (show ∀ W, Below w.heap.size w W → ((classAt L (kAt L k).a).2 = false ∨ isT L (kAt L m).a 1 = false ∨ isT L (kAt L m).b 1 = false) → MemberRet L k t w (.returned (.tuple #[.string ⟨#[]⟩, .string ⟨#[]⟩, .string ⟨#[]⟩, .bool false])) W from
          fun W hW hx => by
            refine MemberRet.no (fun x => ?_) hW
            rw [HM.out] at x
            rcases hx with hx | hx | hx <;> simp [hx] at x)
        generalize (classAt L (kAt L k).a).1 = s1 at *
        generalize (classAt L (kAt L k).a).2 = o1 at *
        generalize isT L (kAt L m).a 1 = o2 at *
        generalize isT L (kAt L m).b 1 = o3 at *
        generalize textAt L (kAt L m).a = s2 at *
        generalize textAt L (kAt L m).b = s3 at *
        have KF := Lib.hid (Below.refl w.heap.size w)
        rcases tw with ⟨rfl, _⟩ | ⟨rfl, _⟩
        all_goals
          go_enter Try.func14, Try.ntmps14
          go_wp2_with fail
          refine K1.out.mono ?_
          rintro e w' ⟨rfl, rfl⟩
          go_wp2_with fail
          refine K2.out.mono ?_
          rintro e w' ⟨rfl, rfl⟩
          go_wp2_with fail
          refine (HCC.out _ ((Below.refl _ _).alloc (Nat.le_refl _) _)).mono ?_
          rintro e w' ⟨rfl, rfl⟩
          go_wp2_with fail
          refine (HTA.out _ ((Below.refl _ _).alloc (Nat.le_refl _) _)).mono ?_
          rintro e w' ⟨rfl, rfl⟩
          go_wp2_with fail
          refine (HTB.out _ ((Below.refl _ _).alloc (Nat.le_refl _) _)).mono ?_
          rintro e w' ⟨rfl, rfl⟩
          cases o1
          · go_wp2_with fail
            exact bodyPost_ret (v := .tuple #[.string ⟨#[]⟩, .string ⟨#[]⟩, .string ⟨#[]⟩, .bool false]) (by simp [results, Try.results14, go_sem]) rfl (HN.out _ ((Below.refl _ _).alloc (Nat.le_refl _) _) (by simp))
          · cases o2
            · go_wp2_with fail
              exact bodyPost_ret (v := .tuple #[.string ⟨#[]⟩, .string ⟨#[]⟩, .string ⟨#[]⟩, .bool false]) (by simp [results, Try.results14, go_sem]) rfl (HN.out _ ((Below.refl _ _).alloc (Nat.le_refl _) _) (by simp))
            · cases o3
              · go_wp2_with fail
                exact bodyPost_ret (v := .tuple #[.string ⟨#[]⟩, .string ⟨#[]⟩, .string ⟨#[]⟩, .bool false]) (by simp [results, Try.results14, go_sem]) rfl (HN.out _ ((Below.refl _ _).alloc (Nat.le_refl _) _) (by simp))
              · go_wp2_with fail
                exact bodyPost_ret (v := .tuple #[.string ⟨s1.toArray⟩, .string ⟨s2.toArray⟩, .string ⟨s3.toArray⟩, .bool true]) (by simp [results, Try.results14, go_sem]) rfl (HR.out _ ((Below.refl _ _).alloc (Nat.le_refl _) _) (by simp) (by simp) (by simp))
  · have HH := Lib.hid h9
    have e1 : (t != 9) = true := by simp; omega
    have e2 : (t != 10) = true := by simp; omega
    clear hs h9
    go_enter Try.func14, Try.ntmps14
    go_wp2_with fail
    exact bodyPost_ret (v := .tuple #[.string ⟨#[]⟩, .string ⟨#[]⟩, .string ⟨#[]⟩, .bool false]) (by simp [results, Try.results14, go_sem]) rfl (MemberRet.no (fun x => HH.out x.1) (Below.refl _ _))
end Go.Proofs.Ytlfoedagcagpgaa
