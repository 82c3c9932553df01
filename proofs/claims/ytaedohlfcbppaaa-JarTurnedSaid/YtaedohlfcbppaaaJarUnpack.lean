/- jar: Unpack. No condition. -/
import Derived.Test.YtaedohlfcbppaaaJarPlain2
import Derived.Test.YtaedohlfcbppaaaSs2
namespace Go.Proofs.Ytaedohlfcbppaaa
open Go.ChangeShapes Go.WideShapes Go.ChangeAt Go.RowKit
def finR (R : Int × List IV × List UInt8) : Int × List IV := if R.1 ≠ 0 then (R.1, []) else if 0 < R.2.2.length then (8, []) else (0, R.2.1)
theorem unpack_long {bs : List UInt8} (h : 65536 < bs.length) : unpackR bs = (9, []) := by unfold unpackR; rw [if_pos h]
/-- What stands ahead of the items. -/
theorem unpack_head {bs mg r1 r2 : List UInt8} {c : Nat} {q1 q2 q3 q4 : Int} (hl : ¬ 65536 < bs.length) (h1 : takeS bs 0 4 = (mg, r1, q1)) (h2 : q2 = failE (!decide (mg = magicB)) q1 8) (h3 : numS r1 q2 1 = (c, r2, q3)) (h4 : q4 = failE (decide (40 < c)) q3 8) :
    (q4 ≠ 0 → unpackR bs = (q4, [])) ∧ (q4 = 0 → unpackR bs = finR (itemsR c r2 []) ∧ c ≤ 40) := by
  have hu := unpackR.eq_1 bs
  rw [if_neg hl] at hu
  by_cases c1 : bs.length < 4
  · rw [if_pos c1] at hu
    rw [takeS_short c1] at h1
    cases h1
    rw [failE_bad (by decide)] at h2
    subst h2
    rw [numS_bad (by decide)] at h3
    cases h3
    rw [failE_bad (by decide)] at h4
    subst h4
    exact ⟨fun _ => hu, fun h => by cases h⟩
  rw [if_neg c1] at hu
  rw [takeS_ok (by omega)] at h1
  cases h1
  by_cases c2 : bs.take 4 ≠ magicB
  · rw [if_pos c2] at hu
    rw [show (!decide (bs.take 4 = magicB)) = true by simp [c2]] at h2
    subst h2
    rw [numS_bad (by decide)] at h3
    cases h3
    rw [show failE true 0 8 = 8 from rfl, failE_bad (by decide)] at h4
    subst h4
    exact ⟨fun _ => hu, fun h => by cases h⟩
  rw [if_neg c2] at hu
  have c2' : bs.take 4 = magicB := by simpa using c2
  rw [show (!decide (bs.take 4 = magicB)) = false by simp [c2']] at h2
  subst h2
  rw [failE_no] at h3
  by_cases c3 : bs.length < 5
  · rw [if_pos c3] at hu
    rw [numS_short (by simp; omega)] at h3
    cases h3
    rw [failE_bad (by decide)] at h4
    subst h4
    exact ⟨fun _ => hu, fun h => by cases h⟩
  rw [if_neg c3] at hu
  rw [numS_ok (by simp; omega), getN_one1 _ (by simp; omega), List.drop_drop] at h3
  cases h3
  have hg : (bs.drop 4).getD 0 0 = bs.getD 4 0 := by simp [List.getD]
  rw [hg] at h4 ⊢
  by_cases c4 : 40 < (bs.getD 4 0).toNat
  · rw [if_pos c4] at hu
    rw [decide_eq_true c4] at h4
    subst h4
    exact ⟨fun _ => hu, fun h => by cases h⟩
  · rw [if_neg c4] at hu
    rw [decide_eq_false c4] at h4
    subst h4
    exact ⟨fun h => absurd rfl h, fun _ => ⟨hu, by omega⟩⟩
/-- What Unpack answers. -/
def UnpackRet (R : Int × List IV) (w : World) (en : Ending) (w' : World) : Prop :=
  ∃ v m, ∃ F : List IW, en = .returned (.tuple #[v, .int .i64 R.1]) ∧ w'.ownsRow w.heap.size 36 2 v m (F.flatMap IW.cells) ∧ F.map IW.iv = R.2 ∧
    (∀ f ∈ F, w'.ownsRow w.heap.size 5 1 (.slice f.da f.dn f.dc) f.dn (f.data.map encB)) ∧ Below w.heap.size w w'
theorem UnpackRet.err {R : Int × List IV} {w w' : World} {e : Int} (h : R = (e, [])) (hb : Below w.heap.size w w') : UnpackRet R w (.returned (.tuple #[.slice none 0 0, .int .i64 e])) w' := by
  subst h
  exact ⟨_, 0, [], rfl, World.ownsRow_nil _ _ _ _, rfl, (fun f hf => by cases hf), hb⟩
theorem own_k2 {C : Nat} {w w' : World} {B : Nat} {e : TypeId} {size : Nat} {v : Value} {n g mb k : Nat} {xs : List Value} {bs : List UInt8} {er : Int} {L : List (List UInt8)} (ho : w.ownsRow B e size v n xs) (hr : RS C w g bs er) (hm : NamesM w mb k L) (hk : K2 g mb w w') (hne : e ≠ 46) : w'.ownsRow B e size v n xs := by
  refine ⟨ho.1, ?_⟩
  rcases ho.2 with h | ⟨x, cap, cur, hv, hb, hg, rest⟩
  · exact .inl h
  · refine .inr ⟨x, cap, cur, hv, hb, ?_, rest⟩
    rw [hk.block x (Array.getElem?_eq_some_iff.1 hg).1 ?_ ?_]
    · exact hg
    · rintro rfl
      obtain ⟨a, m, c, h1, _⟩ := hr
      unfold RdJ at h1
      rw [hg] at h1
      simp at h1
      exact hne h1.2
    · rintro rfl
      exact hm.apart hg rfl
theorem K2.below {g mb B : Nat} {w w1 w2 : World} (h : K2 g mb w1 w2) (hb : Below B w w1) (hg : B ≤ g) (hm : B ≤ mb) (hB : B ≤ w.heap.size) : Below B w w2 :=
  ⟨h.os.trans hb.os, h.tape.trans hb.tape, h.output.trans hb.output, Nat.le_trans hb.size h.size, fun k hk => (h.block k (by have := hb.size; omega) (by omega) (by omega)).trans (hb.block k hk)⟩
theorem stJ : StE 24 36 (.agg #[.string ⟨#[]⟩, .slice none 0 0]) 2 40 := ⟨Try.underlying24, by kernel_rfl, rfl⟩
/-- What lies in blocks of another type stays where items are appended. -/
theorem own_append {w w' : World} {B1 B2 : Nat} {e1 e2 : TypeId} {s1 s2 : Nat} {v1 v2 : Value} {n1 n2 : Nat} {xs1 xs2 : List Value} (h1 : w.ownsRow B1 e1 s1 v1 n1 xs1) (h2 : w.ownsRow B2 e2 s2 v2 n2 xs2) (hne : e1 ≠ e2) (hg : w.grownBy w' v2.ownBlock) : w'.ownsRow B1 e1 s1 v1 n1 xs1 := by
  rcases h2.2 with ⟨rfl, _⟩ | ⟨g, cap, cur, rfl, _, hg2, _⟩
  · exact h1.kept hg (by by_cases h : v1.ownBlock = none; exact .inl h; exact .inr h)
  · exact own_overJ h1 hg2 hne hg
theorem RS.append {B : Nat} {w w' : World} {g : Nat} {bs : List UInt8} {er : Int} {B2 : Nat} {e2 : TypeId} {s2 : Nat} {v2 : Value} {n2 : Nat} {xs2 : List Value} (h : RS B w g bs er) (h2 : w.ownsRow B2 e2 s2 v2 n2 xs2) (hne : e2 ≠ 46) (hB : B ≤ B2) (hg : w.grownBy w' v2.ownBlock) : RS B w' g bs er := by
  obtain ⟨a, n, cap, k1, k2, k3, k4⟩ := h
  have hx : ∀ x, v2.ownBlock = some x → B2 ≤ x ∧ x ≠ g := by
    intro x hx
    rcases h2.2 with ⟨rfl, _⟩ | ⟨y, c2, cur, rfl, hb, hg2, _⟩
    · cases hx
    · cases hx
      refine ⟨hb, ?_⟩
      rintro rfl
      unfold RdJ at k1
      rw [hg2] at k1
      simp at k1
      exact hne k1.2
  refine ⟨a, n, cap, ?_, ⟨k2.1, fun hn => ?_⟩, k3, k4⟩
  · unfold RdJ at k1 ⊢
    rw [hg.block g (Array.getElem?_eq_some_iff.1 k1).1 (fun e => (hx g e.symm).2 rfl)]
    exact k1
  · obtain ⟨b, off, ha, hlt, hc⟩ := k2.2 hn
    refine ⟨b, off, ha, Nat.lt_of_lt_of_le hlt hg.size, fun i hi => ?_⟩
    obtain ⟨b', off', ha', hl'⟩ := k4 hn
    rw [ha] at ha'
    cases ha'
    rw [World.cell?_of_block (hg.block b hlt (fun e => by have := (hx b e.symm).1; omega))]
    exact hc i hi
theorem NamesM.append {w w' : World} {mb k : Nat} {L : List (List UInt8)} {B2 : Nat} {e2 : TypeId} {s2 : Nat} {v2 : Value} {n2 : Nat} {xs2 : List Value} (h : NamesM w mb k L) (h2 : w.ownsRow B2 e2 s2 v2 n2 xs2) (hg : w.grownBy w' v2.ownBlock) : NamesM w' mb k L := by
  refine h.kept hg (fun e => ?_)
  rcases h2.2 with ⟨rfl, _⟩ | ⟨y, c2, cur, rfl, hb, hg2, _⟩
  · cases e
  · cases e
    exact h.apart hg2 rfl
set_option maxRecDepth 100000 in
set_option maxHeartbeats 16000000 in
theorem Unpack_any (w : World) (a : Option Addr) (n cap : Nat) (bs : List UInt8) (hs : Sl encB w a n bs) (hn : n ≤ 1048576) (hcap : n ≤ cap) : Calls Try.prog 8 #[.slice a n cap] w (UnpackRet (unpackR bs) w) := by
  have HS := Lib.hid hs
  have HLn := Lib.hid hs.1
  have HLB := Lib.hid (show LowB w.heap.size a n from fun h => by obtain ⟨b, off, ha, hlt, _⟩ := hs.2 h; exact ⟨b, off, ha, hlt⟩)
  obtain ⟨R, hR⟩ : ∃ R, R = unpackR bs := ⟨_, rfl⟩
  rw [← hR]
  have HR := Lib.hid hR
  clear hs hR
  by_cases hl : 65536 < n
  · have HQ := Lib.hid (show R = (9, []) by rw [HR.out]; exact unpack_long (by rw [HLn.out]; exact hl))
    have e1 : decide ((65536 : Int) < n) = true := by simp; omega
    clear hl
    go_enter Try.func8, Try.ntmps8
    go_wp2_with fail
    go_ret2
    exact UnpackRet.err HQ.out (Below.refl _ _)
  have e1 : decide ((65536 : Int) < n) = false := by simp; omega
  have hln : bs.length ≤ 65536 := by rw [HLn.out]; omega
  go_enter Try.func8, Try.ntmps8
  go_upto_region 4 with fail
  have hb1 : Below w.heap.size w (w.alloc (.cells #[.slice a n cap, .int .i64 0] 46)) := (Below.refl _ _).alloc (Nat.le_refl _) _
  have HR1 := Lib.hid (show RS w.heap.size (w.alloc (.cells #[.slice a n cap, .int .i64 0] 46)) w.heap.size bs 0 from ⟨a, n, cap, heap_alloc_last w _, HS.out.below hb1, hcap, HLB.out⟩)
  have HB1 := Lib.hid hb1
  clear hb1
  obtain ⟨g, hg⟩ : ∃ g, g = w.heap.size := ⟨_, rfl⟩
  have HG := Lib.hid (show w.heap.size ≤ g by omega)
  rw [← hg] at HR1 ⊢
  have HGB := Lib.hid hg
  clear hg
  generalize w.alloc (.cells #[.slice a n cap, .int .i64 0] 46) = w1 at *
  -- the magic bytes
  obtain ⟨mg, r1, q1, hT1⟩ : ∃ v r q, takeS bs 0 4 = (v, r, q) := ⟨_, _, _, rfl⟩
  have l1 := takeS_len bs 0 4
  have HC1 := Lib.hid (take_s w1 g bs 0 4 HR1.out (by omega) (by decide))
  rw [hT1] at HC1 l1
  have HT1 := Lib.hid hT1
  simp only at l1
  clear hT1
  go_wp2_with fail
  refine HC1.out.mono ?_
  rintro en w2 ⟨a1, n1, c1, rfl, hs2, hc2, hr2, hg2⟩
  have cv2 := run_conv hs2 c1
  simp only at cv2
  have HR2 := Lib.hid hr2
  have HK2 := Lib.hid (K2.ofG (mb := g) hg2)
  have HB2 := Lib.hid (HK2.out.below HB1.out HG.out HG.out (Nat.le_refl _))
  clear hr2 hg2 HC1 HR1 HB1 HK2 hs2 hc2
  obtain ⟨b2, hb2⟩ : ∃ b, (mg == [67, 74, 48, 49]) = b := ⟨_, rfl⟩
  obtain ⟨q2, hq2⟩ : ∃ q, q = failE (!decide (mg = magicB)) q1 8 := ⟨_, rfl⟩
  have HQ2 := Lib.hid hq2
  have hb2' : (!decide (mg = magicB)) = !b2 := by rw [← hb2]; unfold magicB; by_cases h : mg = [67, 74, 48, 49] <;> simp [h]
  have HFA := Lib.hid (failJ_any w2 g r1 q1 8 (!decide (mg = magicB)) HR2.out)
  rw [← hq2, hb2'] at HFA
  clear hq2 hb2'
  go_wp2_with fail
  refine HFA.out.mono ?_
  rintro en w3 ⟨rfl, hr3, hg3⟩
  have HR3 := Lib.hid hr3
  have HB3 := Lib.hid ((K2.ofG (mb := g) hg3).below HB2.out HG.out HG.out (Nat.le_refl _))
  clear hr3 hg3 HFA HR2 HB2 hb2 cv2
  -- how many
  obtain ⟨c, r2, q3, hN1⟩ : ∃ v r q, numS r1 q2 1 = (v, r, q) := ⟨_, _, _, rfl⟩
  have l2 := numS_len r1 q2 1
  have HC2 := Lib.hid (num_s w3 g r1 q2 1 HR3.out (by omega) (by decide) (by decide))
  have lc : (numS r1 q2 1).1 < 256 := by
    unfold numS
    split
    · exact Nat.zero_lt_succ _
    split
    · exact Nat.zero_lt_succ _
    · have h1 := getN_lt (r1.take 1)
      have h2 : 256 ^ (r1.take 1).length ≤ 256 ^ 1 := Nat.pow_le_pow_right (by decide) (by simp; omega)
      simp only
      omega
  rw [hN1] at HC2 l2 lc
  have HN1 := Lib.hid hN1
  simp only at l2 lc
  clear hN1
  go_wp2_with fail
  refine HC2.out.mono ?_
  rintro en w4 ⟨rfl, hr4, hg4⟩
  have HR4 := Lib.hid hr4
  have HB4 := Lib.hid ((K2.ofG (mb := g) hg4).below HB3.out HG.out HG.out (Nat.le_refl _))
  clear hr4 hg4 HC2 HR3 HB3
  simp only at HR4
  obtain ⟨b4, hb4⟩ : ∃ b, decide ((40 : Int) < (c : Int)) = b := ⟨_, rfl⟩
  obtain ⟨q4, hq4⟩ : ∃ q, q = failE (decide (40 < c)) q3 8 := ⟨_, rfl⟩
  have HHD := Lib.hid (unpack_head (bs := bs) (by omega) HT1.out HQ2.out HN1.out hq4)
  have HFB := Lib.hid (failJ_any w4 g r2 q3 8 (decide (40 < c)) HR4.out)
  rw [← hq4, show decide (40 < c) = b4 from by rw [← hb4]; exact decide_eq_decide.2 (by omega)] at HFB
  clear hq4
  rw [← HR.out] at HHD
  have hmm := @run_makeMap Try.prog
  go_wp2_with fail
  refine HFB.out.mono ?_
  rintro en w5 ⟨rfl, hr5, hg5⟩
  have HR5 := Lib.hid hr5
  have HB5 := Lib.hid ((K2.ofG (mb := g) hg5).below HB4.out HG.out HG.out (Nat.le_refl _))
  clear hr5 hg5 HFB HR4 HB4 hb4
  go_wp2_with fail
  clear hmm
  have hb6 : Below w5.heap.size w5 (w5.alloc (.map #[] 0)) := (Below.refl _ _).alloc (Nat.le_refl _) _
  have HM6 := Lib.hid (show NamesM (w5.alloc (.map #[] 0)) w5.heap.size 0 [] from World.ownsMap_made _ _ _ _)
  have HR6 := Lib.hid (HR5.out.below hb6)
  have HB6 := Lib.hid (HB5.out.trans (hb6.mono HB5.out.size))
  obtain ⟨mb, hmb⟩ : ∃ mb, mb = w5.heap.size := ⟨_, rfl⟩
  have HMB := Lib.hid (show w.heap.size ≤ mb by have := HB5.out.size; omega)
  rw [← hmb] at HM6 ⊢
  clear hb6 HR5 HB5 hmb
  generalize w5.alloc (.map #[] 0) = w6 at *
  go_loopg [28, 6] c (fun gn i v wr => ∃ j m kk : Nat, ∃ F : List IW, ∃ rest e names, j ≤ c ∧ gn = c - j ∧ i = .int .i64 j ∧ m ≤ j ∧ kk ≤ j ∧ rest.length ≤ 65536 ∧ Hid (wr.ownsRow w.heap.size 36 2 v m (F.flatMap IW.cells)) ∧
    Hid (∀ f ∈ F, wr.ownsRow w.heap.size 5 1 (.slice f.da f.dn f.dc) f.dn (f.data.map encB)) ∧ Hid (RS g wr g rest e) ∧ Hid (NamesM wr mb kk names) ∧ Hid (Below w.heap.size w wr) ∧
    Hid ((e ≠ 0 → R = (e, [])) ∧ (e = 0 → names = F.map IW.name ∧ R = finR (itemsR (c - j) rest (F.map IW.iv)))))
  case atStart => exact ⟨0, 0, 0, [], r2, q4, [], by omega, by omega, by go_num, by omega, by omega, by omega, Lib.hid (World.ownsRow_nil _ _ _ _), Lib.hid (fun f hf => by cases hf), HR6, HM6, HB6, Lib.hid ⟨HHD.out.1, fun h => ⟨rfl, (HHD.out.2 h).1⟩⟩⟩
  case round =>
    obtain ⟨j, m, kk, F, rest, e, names, hj, rfl, rfl, hm, hkk, hrl, HO, HDO, HRS, HNM, HB, HD⟩ := hrel
    obtain ⟨ra, rn, rc, hrd, hrsl, _⟩ := HRS.out
    obtain ⟨⟨g0, g1⟩, _, ggl⟩ := hrd.box
    have hrn := hrsl.1
    clear hrd hrsl
    by_cases hlt : j < c
    · have j1 : (j : Int) < c := by omega
      by_cases he : e = 0
      · subst he
        have HIT := Lib.hid (item_any wr g mb kk rest names HRS.out HNM.out hrl (by omega))
        obtain ⟨hnames, hRR⟩ := HD.out.2 rfl
        have HSM := Lib.hid (item_same rest names)
        have HNX := Lib.hid (show (itemS rest names).2.2 ≠ 0 → R = ((itemS rest names).2.2, []) from fun h => by
          rw [hRR, show c - j = (c - (j + 1)) + 1 by omega]
          unfold itemsR finR
          have h1 := (item_same rest names).1
          rw [show (F.map IW.iv).map (·.name) = names from by rw [hnames, List.map_map]; rfl, h1, if_pos h]
          simp only [ne_eq, h, not_false_eq_true, if_true])
        have HNY := Lib.hid (show (itemS rest names).2.2 = 0 → ∀ f : IW, f.iv = (itemS rest names).1 → names ++ [f.name] = (F ++ [f]).map IW.name ∧ R = finR (itemsR (c - (j + 1)) (itemS rest names).2.1 ((F ++ [f]).map IW.iv)) from fun h f hf => by
          refine ⟨by rw [hnames, List.map_append]; rfl, ?_⟩
          rw [hRR, show c - j = (c - (j + 1)) + 1 by omega, itemsR]
          have h1 := (item_same rest names).1
          have h2 := (item_same rest names).2 h
          rw [show (F.map IW.iv).map (·.name) = names from by rw [hnames, List.map_map]; rfl, h1, if_neg (by rw [h]; simp), h2, List.map_append, ← hf]
          rfl)
        have hlen : (itemS rest names).2.1.length ≤ rest.length := by
          unfold itemS
          simp only
          refine Nat.le_trans (numS_len _ _ _) (Nat.le_trans (takeS_len _ _ _).2 (Nat.le_trans (numS_len _ _ _) (Nat.le_trans (takeS_len _ _ _).2 (numS_len _ _ _))))
        clear hnames hRR HD HSM
        generalize itemS rest names = S at *
        obtain ⟨sx, sr, se⟩ := S
        simp only at HNX HNY hlen
        go_wp2_with fail
        refine HIT.out.mono ?_
        rintro en w7 ⟨f, hfi, rfl, hof, hrs7, hnm7, hk7⟩
        have HOF := Lib.hid (own_mono hof HB.out.size)
        have HO7 := Lib.hid (own_k2 HO.out HRS.out HNM.out hk7 (by decide))
        have HDO7 := Lib.hid (fun x hx => own_k2 (HDO.out x hx) HRS.out HNM.out hk7 (by decide))
        have HB7 := Lib.hid (hk7.below HB.out HG.out HMB.out (Nat.le_refl _))
        have HRS7 := Lib.hid hrs7
        have HNM7 := Lib.hid hnm7
        have HFI := Lib.hid hfi
        clear hof hrs7 hnm7 hk7 hfi HIT HO HDO HRS HNM HB g0 g1 ggl
        simp only at HRS7
        obtain ⟨fnm, fda, fdn, fdc, fdt⟩ := f
        simp only at HOF HNM7 ⊢
        go_wp2_with (at_builtin; first
          | (refine wpList_appS_lit stJ rfl _ _ rfl w.heap.size _ m _ rfl HO7.out _ 1 _ _ rfl rfl rfl rfl (by omega) (by unfold maxLen; omega) HB7.out.size ?_; intro v8 w8 hown8 hg8 hb8; have HO8 := Lib.hid hown8; have HG8 := Lib.hid hg8; have HB8 := Lib.hid (HB7.out.trans hb8); clear hown8 hg8 hb8))
        go_roundg (c - (j + 1))
        case measure => omega
        case rel =>
          have hba : Below w7.heap.size w7 (w7.alloc (.cells #[.string ⟨fnm.toArray⟩, .slice fda fdn fdc] 36)) := (Below.refl _ _).alloc (Nat.le_refl _) _
          have HOA := Lib.hid (own_below HO7.out hba)
          refine ⟨j + 1, m + 1, kk + 1, F ++ [⟨fnm, fda, fdn, fdc, fdt⟩], sr, se, names ++ [fnm], by omega, rfl, by go_num, by omega, by omega, by omega, Lib.hid ?_, Lib.hid (fun x hx => ?_), Lib.hid ((HRS7.out.below hba).append HOA.out (by decide) (by rw [HGB.out]; exact Nat.le_refl _) HG8.out), Lib.hid ((HNM7.out.below hba).append HOA.out HG8.out), HB8, Lib.hid ⟨HNX.out, fun h => HNY.out h ⟨fnm, fda, fdn, fdc, fdt⟩ HFI.out⟩⟩
          · rw [List.flatMap_append]; exact HO8.out
          · rcases List.mem_append.1 hx with h | h
            · exact own_append (own_below (HDO7.out x h) hba) HOA.out (by decide) HG8.out
            · rw [List.mem_singleton.1 h]
              exact own_append (own_below HOF.out hba) HOA.out (by decide) HG8.out
      · have ee : (e == 0) = false := by simp [he]
        have HRE := Lib.hid (HD.out.1 he)
        have HNE := Lib.hid he
        clear he
        go_wp2_with fail
        go_roundg (c - (j + 1))
        case measure => omega
        case rel => exact ⟨j + 1, m, kk, F, rest, e, names, by omega, rfl, by go_num, by omega, by omega, hrl, HO, HDO, HRS, HNM, HB, Lib.hid ⟨fun _ => HRE.out, fun h => absurd h HNE.out⟩⟩
    · obtain rfl : j = c := by omega
      have HFC := Lib.hid (failJ_any wr g rest e 8 (decide (0 < rest.length)) HRS.out)
      obtain ⟨q, hq⟩ : ∃ q, q = failE (decide (0 < rest.length)) e 8 := ⟨_, rfl⟩
      rw [← hq] at HFC
      have HE := Lib.hid (show (q ≠ 0 → R = (q, [])) ∧ (q = 0 → R = (0, F.map IW.iv)) by
        by_cases he : e = 0
        · obtain ⟨_, hRR⟩ := HD.out.2 he
          rw [Nat.sub_self] at hRR
          subst he
          unfold itemsR finR at hRR
          simp only [ne_eq, not_true_eq_false, if_false] at hRR
          by_cases hr : 0 < rest.length
          · rw [decide_eq_true hr] at hq
            rw [if_pos hr] at hRR
            subst hq
            exact ⟨fun _ => hRR, fun h => by cases h⟩
          · rw [decide_eq_false hr] at hq
            rw [if_neg hr] at hRR
            subst hq
            exact ⟨fun h => absurd rfl h, fun _ => hRR⟩
        · rw [failE_bad he] at hq
          subst hq
          exact ⟨HD.out.1, fun h => absurd h he⟩)
      obtain ⟨b9, hb9⟩ : ∃ b, decide (0 < rn) = b := ⟨_, rfl⟩
      rw [hrn, hb9] at HFC
      clear hq
      go_wp2_with fail
      refine HFC.out.mono ?_
      rintro en w7 ⟨rfl, hr7, hg7⟩
      have HO7 := Lib.hid (own_overR HO.out HRS.out (by decide) hg7)
      have HDO7 := Lib.hid (fun x hx => own_overR (HDO.out x hx) HRS.out (by decide) hg7)
      have HB7 := Lib.hid ((K2.ofG (mb := g) hg7).below HB.out HG.out HG.out (Nat.le_refl _))
      have HRS7 := Lib.hid hr7
      clear hr7 hg7 HFC g0 g1 ggl HO HDO HRS HB HNM hb9
      obtain ⟨ra7, rn7, rc7, hrd7, _, _⟩ := HRS7.out
      obtain ⟨⟨g0, g1⟩, _, ggl⟩ := hrd7.box
      clear hrd7
      obtain ⟨va, vc, rfl, _, _⟩ := Ss.ofOwn IW.cells_length (by decide) HO7.out
      by_cases hq0 : q = 0
      · subst hq0
        have HRR := Lib.hid (HE.out.2 rfl)
        go_wp2_with fail
        go_ret2
        exact ⟨_, m, F, by rw [HRR.out]; rfl, HO7.out, by rw [HRR.out], HDO7.out, HB7.out⟩
      · have eq0 : (q != 0) = true := by simp [hq0]
        have HRR := Lib.hid (HE.out.1 hq0)
        clear hq0
        go_wp2_with fail
        go_quiet (fail)
        go_wp2_with fail
        go_ret2
        exact UnpackRet.err HRR.out (bdrewN HB7.out _)
end Go.Proofs.Ytaedohlfcbppaaa
