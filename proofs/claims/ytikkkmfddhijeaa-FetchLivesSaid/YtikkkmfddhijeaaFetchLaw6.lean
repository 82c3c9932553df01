/- fetch: the walk of FetchLives. No condition. -/
import Derived.Test.YtikkkmfddhijeaaFetchPlain2
import Derived.Test.YtikkkmfddhijeaaRegionS
import Derived.Deep.LoopGhost
import Derived.Deep.DeepCutAuto
namespace Go.Proofs.Ytikkkmfddhijeaa
open Go.ChangeShapes Go.WideShapes Go.ChangeAt Go.RowKit
/-- The slice at x (of n elements) doesn't lie in block g. -/
def NotIn (x : Option Addr) (n g : Nat) : Prop := 0 < n → ∀ b off, x = some ⟨b, off, none⟩ → b ≠ g
theorem Sl.notIn {α : Type} {enc : α → Value} {w : World} {x : Option Addr} {n g : Nat} {xs : List α} (h : Sl enc w x n xs) (hg : w.heap.size ≤ g) : NotIn x n g := by
  intro hn b off hx
  obtain ⟨b', off', hx', hlt, _⟩ := h.2 hn
  rw [hx'] at hx
  cases hx
  omega
theorem eqi_yes {a b : Int} (h : a = b) : (a == b) = true := by simp [h]
theorem cell_other {w : World} {g o : Nat} {v : Value} {b off : Nat} (h : b ≠ g) : (w.setCell ⟨g, o, none⟩ v).cell? ⟨b, off, none⟩ = w.cell? ⟨b, off, none⟩ :=
  by rw [World.cell?_setCell_other]; intro e; cases e; exact h rfl
theorem Sl.set3 {α : Type} {enc : α → Value} {w : World} {x : Option Addr} {n g : Nat} {xs : List α} (h : Sl enc w x n xs) (hx : NotIn x n g) {u v y : Value} :
    Sl enc (((w.setCell ⟨g, 0, none⟩ u).setCell ⟨g, 1, none⟩ v).setCell ⟨g, 2, none⟩ y) x n xs := by
  refine ⟨h.1, fun hn => ?_⟩
  obtain ⟨b, off, ha, hlt, hc⟩ := h.2 hn
  have hne := hx hn b off ha
  refine ⟨b, off, ha, by simpa using hlt, fun i hi => ?_⟩
  rw [cell_other hne, cell_other hne, cell_other hne]
  exact hc i hi
def SomeReply (w : World) (e : Ending) (w' : World) : Prop :=
  ∃ (f : Int) (x : Option Addr) (m cm : Nat) (sum : Int) (ds : List UInt8) (ok : Bool), e = .returned (.tuple #[replyV f x m cm sum, .bool ok]) ∧ Sl encB w' x m ds ∧ (∀ g, g < w.heap.size → NotIn x m g) ∧ Below w.heap.size w w'
theorem Serve_some (w : World) (a : Option Addr) (len cap : Nat) (bs : List UInt8) (f n : Int) (hs : Sl encB w a len bs) (hcap : len ≤ cap) (hl : len ≤ 65536) (hf : IntR f) (hn : IntR n) :
    Calls Try.prog 19 #[.slice a len cap, .int .i64 f, .int .i64 n] w (SomeReply w) := by
  by_cases h : partOk len f n
  · refine (Serve_any w a len cap bs f n hs hcap hl h).mono ?_
    rintro e w' ⟨a', n', cap', rfl, hown, hb⟩
    exact ⟨_, a', n', cap', _, _, _, rfl, (Sl.ofOwnS hown).1, fun g hg hn b off hx => by obtain ⟨g', e1, e2, _⟩ := own_addr hown hn; rw [e1] at hx; cases hx; omega, hb⟩
  · refine (Serve_no w a len cap f n hl hf hn h).mono ?_
    rintro e w' ⟨rfl, hb⟩
    exact ⟨0, none, 0, 0, 0, [], false, rfl, Sl.nil _ _, fun g _ hn => absurd hn (by omega), hb⟩
/-- The job at block g is one of the bytes b. -/
def Live (g : Nat) (s c lo : Int) (b : List UInt8) (w : World) : Prop :=
  ∃ (aj : Option Addr) (nj cj : Nat), LiveOk s c lo nj ∧ nj ≤ b.length ∧ Blk3 w g (.int .i64 s) (.int .i64 c) (.slice aj nj cj) 24 ∧ w.ownsRow (g + 1) 5 1 (.slice aj nj cj) nj ((b.take nj).map encB)
theorem Live.below {g : Nat} {s c lo : Int} {b : List UInt8} {w w' : World} (h : Live g s c lo b w) (hb : Below w.heap.size w w') : Live g s c lo b w' := by
  obtain ⟨aj, nj, cj, l1, l2, l3, l4⟩ := h
  exact ⟨aj, nj, cj, l1, l2, l3.below hb, own_below l4 hb⟩
/-- A reply lies in a block behind those of W. -/
def ReplyAt (W : World) (v : Value) (w : World) : Prop :=
  ∃ (g : Nat) (f : Int) (x : Option Addr) (m cm : Nat) (sum : Int) (ds : List UInt8), v = .pointer (some ⟨g, 0, none⟩) ∧ W.heap.size ≤ g ∧ Blk3 w g (.int .i64 f) (.slice x m cm) (.int .u32 sum) 27 ∧ Sl encB w x m ds ∧ Below W.heap.size W w
set_option maxRecDepth 100000 in
set_option maxHeartbeats 8000000 in
theorem walk_FetchLives (a : Option Addr) (n cap : Nat) (z : List Int) (ch : Int) (a1 : Option Addr) (n1 cap1 : Nat) (a2 : Option Addr) (n2 cap2 : Nat) (z2 : List Int) (w : World)
    (h0 : IsRow .u8 w a n cap z) (hch : (Lit.int .u8 ch).wf = true) (h1 : IsReplies w a1 n1 cap1) (h2 : IsRow .u8 w a2 n2 cap2 z2) :
    Calls Try.prog 6 #[.slice a n cap, .int .u8 ch, .slice a1 n1 cap1, .slice a2 n2 cap2] w fun e w' => e = .returned (.bool true) ∧ Below w.heap.size w w' := by
  obtain ⟨c1, c2⟩ := bounds_u8 hch
  have hcap := Row.cap h0
  have hcap2 := Row.cap h2
  obtain ⟨b, hb0, hn⟩ := Bs.ofRow h0
  obtain ⟨xs, hx0, hn2⟩ := Bs.ofRow h2
  have hm1 := h1.2.1
  unfold maxLen at hn hn2 hm1
  have SB := Lib.hid hb0.sl
  have SX := Lib.hid hx0.sl
  have SR := Lib.hid h1
  have hbl := Lib.hid hb0.1
  have hxl := Lib.hid hx0.1
  clear h0 h1 h2 hb0 hx0 hch
  go_enter Try.func6, Try.ntmps6
  go_wp2_with fail
  refine (fixed30_any _).mono ?_
  rintro e w1 ⟨rfl, hb⟩
  have H := Lib.hid hb
  clear hb
  obtain ⟨c, hc, hcb⟩ : ∃ c : Int, ch % 60 = c ∧ 0 ≤ c ∧ c < 60 := ⟨_, rfl, by omega⟩
  obtain ⟨cc, hcc⟩ : ∃ cc : Int, 1 + c = cc := ⟨_, rfl⟩
  go_wp2_with fail
  have h2 := New_any w1 n cc (by unfold IntR; omega) (by unfold IntR; omega)
  by_cases hj : jobOk n cc 0 = true
  case neg =>
    rw [if_neg hj, if_neg hj] at h2
    refine h2.mono ?_
    clear h2
    rintro e w2 ⟨rfl, hb⟩
    have hbK : Below w1.heap.size w1 w2 := by first | exact hb | exact (Below.refl _ _).drew.trans (hb.mono (by simp)) | exact ((Below.refl _ _).alloc (Nat.le_refl _) _).trans (hb.mono (by simp)) | exact (((Below.refl _ _).alloc (Nat.le_refl _) _).alloc (by simp) _).trans (hb.mono (by simp; omega)) | exact ((((Below.refl _ _).alloc (Nat.le_refl _) _).alloc (by simp) _).alloc (by simp; omega) _).trans (hb.mono (by simp; omega))
    replace H := Lib.hid (H.out.trans (hbK.mono H.out.size))
    clear hbK
    clear hb
    go_wp2_with fail
    go_ret
    exact ⟨rfl, H.out.alloc H.out.size _⟩
  rw [if_pos hj, if_pos hj] at h2
  refine h2.mono ?_
  clear h2
  rintro e w2 ⟨rfl, hb⟩
  have hbK : Below w1.heap.size w1 w2 := by first | exact hb | exact (Below.refl _ _).drew.trans (hb.mono (by simp)) | exact ((Below.refl _ _).alloc (Nat.le_refl _) _).trans (hb.mono (by simp)) | exact (((Below.refl _ _).alloc (Nat.le_refl _) _).alloc (by simp) _).trans (hb.mono (by simp; omega)) | exact ((((Below.refl _ _).alloc (Nat.le_refl _) _).alloc (by simp) _).alloc (by simp; omega) _).trans (hb.mono (by simp; omega))
  replace H := Lib.hid (H.out.trans (hbK.mono H.out.size))
  clear hbK
  have HJ := Lib.hid hj
  obtain ⟨j0, j1, j2, j3, j4⟩ := jobOk_bounds hj
  clear hb hj
  by_cases g1 : 900 < n
  · go_wp2_with fail
    go_ret
    exact ⟨rfl, H.out.alloc H.out.size _⟩
  by_cases g2 : 20 < n1
  · go_wp2_with fail
    go_ret
    exact ⟨rfl, H.out.alloc H.out.size _⟩
  by_cases g3 : 40 < n2
  · go_wp2_with fail
    go_ret
    exact ⟨rfl, H.out.alloc H.out.size _⟩
  have e1 : decide ((900 : Int) < (n : Int)) = false := decide_eq_false (by omega)
  have e2 : decide ((20 : Int) < (n1 : Int)) = false := decide_eq_false (by omega)
  have e3 : decide ((40 : Int) < (n2 : Int)) = false := decide_eq_false (by omega)
  have hL : Live w2.heap.size n cc 0 b (w2.alloc (.cells #[.int .i64 n, .int .i64 cc, .slice none 0 0] 24)) :=
    ⟨none, 0, 0, ⟨HJ.out, by omega⟩, by omega, heap_alloc_last w2 _, World.ownsRow_nil _ _ _ _⟩
  have L := Lib.hid hL
  obtain ⟨k0, k1, k2⟩ := chunks_all HJ.out
  have hC := Chunks_any (w2.alloc (.cells #[.int .i64 n, .int .i64 cc, .slice none 0 0] 24)) n cc none 0 0 (by unfold IntR; omega) (by unfold IntR; omega) (by unfold maxLen; omega)
  generalize chunksR (n : Int) cc 0 = KK at k0 k1 k2 hC
  clear hL
  obtain ⟨KK, rfl⟩ : ∃ k : Nat, KK = k := ⟨KK.toNat, by omega⟩
  have HK2 := Lib.hid k2
  have hb : Below w2.heap.size w2 (w2.alloc (.cells #[.int .i64 n, .int .i64 cc, .slice none 0 0] 24)) := (Below.refl _ _).alloc (Nat.le_refl _) _
  have sz2 := H.out.size
  have HC := Lib.hid hC
  replace H := Lib.hid (H.out.trans (hb.mono H.out.size))
  clear k2 hb hC HJ
  replace hcc := Lib.hid hcc
  replace hc := Lib.hid hc
  go_wp2_with fail
  refine HC.out.mono ?_
  rintro e w3 ⟨rfl, hb⟩
  obtain ⟨aj, nj, cj, l1, l2, l3, l4⟩ := L.out
  have hb' := hb
  rw [show (w2.alloc (.cells #[.int .i64 n, .int .i64 cc, .slice none 0 0] 24)).heap.size = w2.heap.size + 1 by simp] at hb'
  have L3 := Lib.hid (show Live w2.heap.size n cc 0 b w3 from ⟨aj, nj, cj, l1, l2, l3.below hb, own_below l4 hb⟩)
  replace H := Lib.hid (H.out.trans (hb.mono H.out.size))
  clear l1 l2 l3 l4 hb L HC aj nj cj
  go_wp2_with fail
  go_loopg [59] KK (fun g i wr => ∃ k : Nat, k ≤ KK ∧ g = KK - k ∧ i = .int .i64 k ∧ Hid (Live w2.heap.size n cc (min (k * cc) n) b wr) ∧ Hid (Below w.heap.size w wr))
  case atStart => exact ⟨0, by omega, by omega, by go_num, (by rw [show min (((0 : Nat) : Int) * cc) (n : Int) = 0 by simp; omega]; exact L3), H⟩
  case round =>
    obtain ⟨k, hk, rfl, rfl, HL, HW⟩ := hrel
    clear L3 H
    by_cases hlt : k < KK
    · obtain ⟨wo, rfl⟩ : ∃ wo, wo = wr := ⟨_, rfl⟩
      go_wp2_with fail
      go_loopg [64] n2 (fun g i wr => ∃ j : Nat, j ≤ n2 ∧ g = n2 - j ∧ i = .int .i64 j ∧ Hid (Live w2.heap.size n cc (min (k * cc) n) b wr) ∧ Hid (Below w.heap.size w wr))
      case atStart => exact ⟨0, by omega, by omega, by go_num, HL, HW⟩
      case round =>
        obtain ⟨j, hjn, rfl, rfl, HL, HW⟩ := hrel
        by_cases hlj : j < n2
        · obtain ⟨x, hx⟩ : ∃ x : UInt8, xs.getD j 0 = x := ⟨_, rfl⟩
          obtain ⟨bx, ox, ha2, hbx, hcx⟩ := (SX.out.below HW.out).2 (by omega)
          subst ha2
          have hx' : xs[j]'(by rw [hxl.out]; exact hlj) = x := by rw [← hx]; simp [List.getD, hxl.out, hlj]
          have c0 : wr.cell? ⟨bx, ox + j, none⟩ = some (.int .u8 (x.toNat : Int)) := by rw [hcx j (by rw [hxl.out]; exact hlj), hx']; rfl
          have hxb := u8_lt x
          clear hcx hx hx' hbx
          go_upto_region 13 with fail
          go_cut [15, 16] (fun s15 s16 wx => ReplyAt wr s15 wx)
          case first =>
            obtain ⟨q, hq, q0, q1⟩ : ∃ q : Int, (x.toNat : Int) * cc = q ∧ 0 ≤ q ∧ q ≤ 1000000 := ⟨_, rfl, Int.mul_nonneg (by omega) (by omega), by have := Int.mul_le_mul (show (x.toNat : Int) ≤ 255 by omega) j3 (by omega) (by omega); omega⟩
            obtain ⟨r, hr, r0, r1⟩ : ∃ r : Int, q % (n : Int) = r ∧ 0 ≤ r ∧ r < n := ⟨_, rfl, Int.emod_nonneg _ (by omega), Int.emod_lt_of_pos _ (by omega)⟩
            obtain ⟨mn, hmn, mn0, mn1⟩ : ∃ mn : Int, (if (n : Int) < cc then (n : Int) else cc) = mn ∧ 0 ≤ mn ∧ mn ≤ n := ⟨_, rfl, by split <;> omega, by split <;> omega⟩
            have nz : ¬ n = 0 := by omega
            have ldj : ∀ w', Below wr.heap.size wr w' → w'.cell? ⟨w2.heap.size, 1, none⟩ = some (.int .i64 cc) := fun w' h => by
              obtain ⟨_, _, _, _, _, l3, _⟩ := HL.out.below h
              exact l3.box.c1
            have hSw : Below wr.heap.size wr wr.drew := (Below.refl _ _).drew
            refine wp_region_lexS (Below wr.heap.size wr) (.of [(0, true), (1, true), (2, true), (3, true), (4, true), (5, true), (6, true), (7, true), (8, true), (9, true), (10, true), (11, true), (12, true), (13, true)] (.fork 14 (.of [(15, true), (16, true), (17, true), (18, false), (19, false)] (.stir [(20, true)])) 18 (.of [(14, false), (15, true), (16, true), (17, true), (19, false)] (.stir [(20, true)])))) (by kernel_rfl) (by kernel_rfl) (fun c a d v w h => by cases d <;> exact h) ?_
            iterate 14
              refine lexS_step (fun K hK => ?_)
              simp only [lexOp, List.getElem?_toArray, List.getElem?_cons_succ, List.getElem?_cons_zero]
              rw [if_pos (by rfl)]
              apply Exists.intro
              refine ⟨fun w' hS' => ?_, hSw, ?_⟩
              · first | (go_simp <;> with_reducible rfl) | (go_simp; go_bits; with_reducible rfl)
              go_simp
              try go_bits
              refine hK _ _ ?_
              clear hK K
            refine lexS_fork ?_ ?_
            · intro K hK
              simp only [lexOp, List.getElem?_toArray, List.getElem?_cons_succ, List.getElem?_cons_zero]
              rw [if_pos (by rfl)]
              go_step
              with_reducible refine (Serve_some wr.drew a n cap b r mn (SB.out.below (HW.out.trans (hSw.mono HW.out.size))) hcap (by omega) (by unfold IntR; omega) (by unfold IntR; omega)).mono ?_
              rintro e w4 ⟨f, x4, m4, cm4, sum4, ds, ok, rfl, hs4, _, hb4⟩
              replace hSw : Below wr.heap.size wr w4 := hSw.trans (hb4.mono (by simp))
              refine ⟨hSw, ?_⟩
              have S4 := Lib.hid hs4
              clear hb4 hs4
              go_simp
              refine hK _ _ ?_
              clear hK K
              iterate 3
                refine lexS_step (fun K hK => ?_)
                simp only [lexOp, List.getElem?_toArray, List.getElem?_cons_succ, List.getElem?_cons_zero]
                rw [if_pos (by rfl)]
                apply Exists.intro
                refine ⟨fun w' hS' => ?_, hSw, ?_⟩
                · first | (go_simp <;> with_reducible rfl) | (go_simp; go_bits; with_reducible rfl)
                go_simp
                try go_bits
                refine hK _ _ ?_
                clear hK K
              refine lexS_step (fun K hK => ?_)
              simp only [lexOp, List.getElem?_toArray, List.getElem?_cons_succ, List.getElem?_cons_zero]
              rw [if_pos (by rfl)]
              go_step
              have hb5 : Below w4.heap.size w4 (w4.alloc (.cells #[.int .i64 0, .slice none 0 0, .int .u32 0] 27)) := (Below.refl _ _).alloc (Nat.le_refl _) _
              have KR := Lib.hid (show Blk3 (w4.alloc (.cells #[.int .i64 0, .slice none 0 0, .int .u32 0] 27)) w4.heap.size (.int .i64 0) (.slice none 0 0) (.int .u32 0) 27 from heap_alloc_last w4 _)
              have hgl : wr.heap.size ≤ w4.heap.size := hSw.size
              have hxG : NotIn x4 m4 w4.heap.size := S4.out.notIn (Nat.le_refl _)
              replace S4 := Lib.hid (S4.out.below hb5)
              replace hSw := hSw.trans (hb5.mono hSw.size)
              clear hb5
              generalize w4.alloc (.cells #[.int .i64 0, .slice none 0 0, .int .u32 0] 27) = W at *
              generalize w4.heap.size = G at *
              refine ⟨hSw, hK _ _ ?_⟩
              clear hK K
              obtain ⟨p0, p1, p2, q0, q1, q2, ltg⟩ := KR.out.box
              refine lexS_step (fun K hK => ?_)
              simp only [lexOp, List.getElem?_toArray, List.getElem?_cons_succ, List.getElem?_cons_zero]
              rw [if_pos (by rfl)]
              go_step
              have hb6 : Below wr.heap.size wr (((W.setCell ⟨G, 0, none⟩ (.int .i64 f)).setCell ⟨G, 1, none⟩ (.slice x4 m4 cm4)).setCell ⟨G, 2, none⟩ (.int .u32 sum4)) := hSw.trans ((keep33 G W _ _ _).mono hgl)
              refine ⟨hb6, hK _ _ ?_⟩
              clear hK K
              refine lexS_stir (fun y => y = ((W.setCell ⟨G, 0, none⟩ (.int .i64 f)).setCell ⟨G, 1, none⟩ (.slice x4 m4 cm4)).setCell ⟨G, 2, none⟩ (.int .u32 sum4)) (fun y hy => hy ▸ hb6) rfl ?_
              have KS := Lib.hid (KR.out.set (x' := .int .i64 f) (y' := .slice x4 m4 cm4) (z' := .int .u32 sum4))
              have HR := Lib.hid (show ReplyAt wr (.pointer (some ⟨G, 0, none⟩)) (((W.setCell ⟨G, 0, none⟩ (.int .i64 f)).setCell ⟨G, 1, none⟩ (.slice x4 m4 cm4)).setCell ⟨G, 2, none⟩ (.int .u32 sum4)) from ⟨G, f, x4, m4, cm4, sum4, ds, rfl, hgl, KS.out, S4.out.set3 hxG, hb6⟩)
              clear hb6 KS p0 p1 p2 q0 q1 q2
              iterate 1
                refine stir_step (fun K hK => ?_)
                simp only [stirOp, List.getElem?_toArray, List.getElem?_cons_succ, List.getElem?_cons_zero]
                rw [if_pos (by rfl)]
                apply Exists.intro
                refine ⟨fun w' hS' => ?_, ?_⟩
                · first | (go_simp <;> with_reducible rfl) | (go_simp; go_bits; with_reducible rfl)
                go_simp
                try go_bits
                refine hK _ ?_
                clear hK K
              refine stir_nil (fun y hy => ?_)
              subst hy
              go_wp2_with fail
              go_meet
              exact HR.out
            · intro K hK
              simp only [lexOp, List.getElem?_toArray, List.getElem?_cons_succ, List.getElem?_cons_zero]
              rw [if_pos (by rfl)]
              go_step
              have hb5 : Below wr.heap.size wr (wr.alloc (.cells #[.int .i64 0, .slice none 0 0, .int .u32 0] 27)).drew := ((Below.refl _ _).alloc (Nat.le_refl _) _).drew
              have KR := Lib.hid (show Blk3 (wr.alloc (.cells #[.int .i64 0, .slice none 0 0, .int .u32 0] 27)).drew wr.heap.size (.int .i64 0) (.slice none 0 0) (.int .u32 0) 27 from heap_alloc_last wr _)
              replace hSw := hb5
              clear hb5
              have SB5 := Lib.hid (SB.out.below (HW.out.trans (hSw.mono HW.out.size)))
              have hlt0 : wr.heap.size < (wr.alloc (.cells #[.int .i64 0, .slice none 0 0, .int .u32 0] 27)).drew.heap.size := KR.out.box.lt
              generalize (wr.alloc (.cells #[.int .i64 0, .slice none 0 0, .int .u32 0] 27)).drew = W0 at *
              refine ⟨hSw, hK _ _ ?_⟩
              clear hK K
              refine lexS_step (fun K hK => ?_)
              simp only [lexOp, List.getElem?_toArray, List.getElem?_cons_succ, List.getElem?_cons_zero]
              rw [if_pos (by rfl)]
              go_step
              with_reducible refine (Serve_some W0 a n cap b r mn SB5.out hcap (by omega) (by unfold IntR; omega) (by unfold IntR; omega)).mono ?_
              rintro e W ⟨f, x4, m4, cm4, sum4, ds, ok, rfl, hs4, hni, hb4⟩
              have hxG := hni _ hlt0
              have S4 := Lib.hid hs4
              replace KR := Lib.hid (KR.out.below hb4)
              have hgl : wr.heap.size ≤ wr.heap.size := Nat.le_refl _
              replace hSw := hSw.trans (hb4.mono hSw.size)
              clear hb4 hs4 hni hlt0 SB5
              refine ⟨hSw, ?_⟩
              go_simp
              refine hK _ _ ?_
              clear hK K
              iterate 3
                refine lexS_step (fun K hK => ?_)
                simp only [lexOp, List.getElem?_toArray, List.getElem?_cons_succ, List.getElem?_cons_zero]
                rw [if_pos (by rfl)]
                apply Exists.intro
                refine ⟨fun w' hS' => ?_, hSw, ?_⟩
                · first | (go_simp <;> with_reducible rfl) | (go_simp; go_bits; with_reducible rfl)
                go_simp
                try go_bits
                refine hK _ _ ?_
                clear hK K
              obtain ⟨p0, p1, p2, q0, q1, q2, ltg⟩ := KR.out.box
              refine lexS_step (fun K hK => ?_)
              simp only [lexOp, List.getElem?_toArray, List.getElem?_cons_succ, List.getElem?_cons_zero]
              rw [if_pos (by rfl)]
              go_step
              have hb6 : Below wr.heap.size wr (((W.setCell ⟨wr.heap.size, 0, none⟩ (.int .i64 f)).setCell ⟨wr.heap.size, 1, none⟩ (.slice x4 m4 cm4)).setCell ⟨wr.heap.size, 2, none⟩ (.int .u32 sum4)) := hSw.trans ((keep33 wr.heap.size W _ _ _).mono hgl)
              refine ⟨hb6, hK _ _ ?_⟩
              clear hK K
              refine lexS_stir (fun y => y = ((W.setCell ⟨wr.heap.size, 0, none⟩ (.int .i64 f)).setCell ⟨wr.heap.size, 1, none⟩ (.slice x4 m4 cm4)).setCell ⟨wr.heap.size, 2, none⟩ (.int .u32 sum4)) (fun y hy => hy ▸ hb6) rfl ?_
              have KS := Lib.hid (KR.out.set (x' := .int .i64 f) (y' := .slice x4 m4 cm4) (z' := .int .u32 sum4))
              have HR := Lib.hid (show ReplyAt wr (.pointer (some ⟨wr.heap.size, 0, none⟩)) (((W.setCell ⟨wr.heap.size, 0, none⟩ (.int .i64 f)).setCell ⟨wr.heap.size, 1, none⟩ (.slice x4 m4 cm4)).setCell ⟨wr.heap.size, 2, none⟩ (.int .u32 sum4)) from ⟨wr.heap.size, f, x4, m4, cm4, sum4, ds, rfl, hgl, KS.out, S4.out.set3 hxG, hb6⟩)
              clear hb6 KS p0 p1 p2 q0 q1 q2
              iterate 1
                refine stir_step (fun K hK => ?_)
                simp only [stirOp, List.getElem?_toArray, List.getElem?_cons_succ, List.getElem?_cons_zero]
                rw [if_pos (by rfl)]
                apply Exists.intro
                refine ⟨fun w' hS' => ?_, ?_⟩
                · first | (go_simp <;> with_reducible rfl) | (go_simp; go_bits; with_reducible rfl)
                go_simp
                try go_bits
                refine hK _ ?_
                clear hK K
              refine stir_nil (fun y hy => ?_)
              subst hy
              go_wp2_with fail
              go_meet
              exact HR.out
          case rest =>
            have HR := Lib.hid hcut
            clear hcut
            obtain ⟨W, rfl⟩ : ∃ W, W = wc := ⟨_, rfl⟩
            go_upto_region 14 with fail
            go_cut [94] (fun s94 wx => wx = W ∧ s94 = .bool (decide (0 < n1 ∧ j % 2 = 0)))
            case first =>
              by_cases ho1 : 0 < n1
              · have z1 : decide ((0 : Int) < (n1 : Int)) = true := decide_eq_true (by omega)
                by_cases ho2 : j % 2 = 0
                · have z2 : ((j : Int) % 2 == 0) = true := eqi_yes (by omega)
                  have z3 : decide (0 < n1 ∧ j % 2 = 0) = true := decide_eq_true ⟨ho1, ho2⟩
                  clear ho2
                  go_wp2_with fail
                  go_meet
                  exact ⟨rfl, by rw [z3]⟩
                · have z2 : ((j : Int) % 2 == 0) = false := eq_no5 (by omega)
                  have z3 : decide (0 < n1 ∧ j % 2 = 0) = false := decide_eq_false (fun h => ho2 h.2)
                  clear ho2
                  go_wp2_with fail
                  go_meet
                  exact ⟨rfl, by rw [z3]⟩
              · have z1 : decide ((0 : Int) < (n1 : Int)) = false := decide_eq_false (by omega)
                have z3 : decide (0 < n1 ∧ j % 2 = 0) = false := decide_eq_false (fun h => ho1 h.1)
                go_wp2_with fail
                go_meet
                exact ⟨rfl, by rw [z3]⟩
            case rest =>
            obtain ⟨rfl, rfl⟩ := hcut
            generalize hov : decide (0 < n1 ∧ j % 2 = 0) = ov
            have HOV := Lib.hid hov
            clear hov
            go_upto_if 94 with fail
            go_cut [15] (fun s15 wx => ReplyAt wr s15 wx)
            case first =>
              cases ov with
              | false =>
                go_wp2_with fail
                go_meet
                exact HR.out
              | true =>
                obtain ⟨ho1, ho2⟩ := of_decide_eq_true HOV.out
                obtain ⟨g, f, x4, m4, cm4, sum4, ds, rfl, hgl, hK4, hS4, hB4⟩ := HR.out
                obtain ⟨rx, hrx, hrl⟩ : ∃ rx : Nat, (x.toNat : Int) % (n1 : Int) = rx ∧ rx < n1 := ⟨x.toNat % n1, by omega, Nat.mod_lt _ ho1⟩
                obtain ⟨b1, o1, ha1, hb1, hrep⟩ := SR.out.2.2 ho1
                obtain ⟨f5, x5, m5, cm5, sum5, ds5, hRA⟩ := hrep rx hrl
                have hS5 := hRA.2.2.2.1
                have hWW := HW.out.trans (hB4.mono HW.out.size)
                have sW := HW.out.size
                have hni := hS5.notIn (g := g) (by omega)
                obtain ⟨q0, q1, q2, hS6, _, _⟩ := hRA.below hb1 hWW
                obtain ⟨p0, p1, p2, q3, q4, q5, ltg⟩ := hK4.box
                have hB6 : Below wr.heap.size wr (((wc.setCell ⟨g, 0, none⟩ (.int .i64 f5)).setCell ⟨g, 1, none⟩ (.slice x5 m5 cm5)).setCell ⟨g, 2, none⟩ (.int .u32 sum5)) := hB4.trans ((keep33 g wc _ _ _).mono hgl)
                have HR2 := Lib.hid (show ReplyAt wr (.pointer (some ⟨g, 0, none⟩)) (((wc.setCell ⟨g, 0, none⟩ (.int .i64 f5)).setCell ⟨g, 1, none⟩ (.slice x5 m5 cm5)).setCell ⟨g, 2, none⟩ (.int .u32 sum5)) from ⟨g, f5, x5, m5, cm5, sum5, ds5, rfl, hgl, hK4.set, hS6.set3 hni, hB6⟩)
                have nz1 : ¬ n1 = 0 := by omega
                have hbg : ¬ g = b1 := by omega
                clear hS5 hWW hni hS6 hB6 hK4 hS4 hB4 hrep hRA HR
                subst ha1
                go_wp2_with fail
                go_meet
                exact HR2.out
            case rest =>
              clear HR HOV
              obtain ⟨g, f, x4, m4, cm4, sum4, ds, rfl, hgl, hK4, hS4, hB4⟩ := hcut
              obtain ⟨W1, rfl⟩ : ∃ W1, W1 = wc := ⟨_, rfl⟩
              obtain ⟨aj, nj, cj, hl1, hl2, hl3, hl4⟩ := HL.out
              have hjlt : w2.heap.size < wr.heap.size := hl3.box.lt
              have HLO := Lib.hid hl1
              have KJ := Lib.hid (hl3.below hB4)
              have OJ := Lib.hid (own_below hl4 hB4)
              have KR := Lib.hid hK4
              have S4 := Lib.hid hS4
              have HB := Lib.hid hB4
              have HN := Lib.hid hl2
              have hjn1 : nj ≤ 900 := by have := hbl.out; omega
              clear hl1 hl2 hl3 hl4 hK4 hS4 hB4
              obtain ⟨p0, p1, p2, q0, q1, q2, ltj⟩ := KJ.out.box
              obtain ⟨p3, p4, p5, q3, q4, q5, ltg⟩ := KR.out.box
              have hW := Want_any W1 n cc aj nj cj (by unfold IntR; omega) (by unfold IntR; omega) (by unfold maxLen; omega)
              obtain ⟨b1, b2, b3, b4⟩ := wantR_bounds n cc nj
              obtain ⟨fr, hfr⟩ : ∃ fr, (wantR (n : Int) cc nj).1 = fr := ⟨_, rfl⟩
              obtain ⟨wt, hwt⟩ : ∃ wt, (wantR (n : Int) cc nj).2 = wt := ⟨_, rfl⟩
              rw [hfr, hwt] at hW
              rw [hfr] at b3 b4
              rw [hwt] at b1 b2
              have HF := Lib.hid hfr
              have HWT := Lib.hid hwt
              have HWA := Lib.hid hW
              clear hfr hwt hW
              go_wp2_with fail
              with_reducible refine HWA.out.mono ?_
              rintro e W2 ⟨rfl, hb⟩
              have hbK : Below W1.heap.size W1 W2 := by first | exact hb | exact (Below.refl _ _).drew.trans (hb.mono (by simp)) | exact ((Below.refl _ _).alloc (Nat.le_refl _) _).trans (hb.mono (by simp)) | exact (((Below.refl _ _).alloc (Nat.le_refl _) _).alloc (by simp) _).trans (hb.mono (by simp; omega)) | exact ((((Below.refl _ _).alloc (Nat.le_refl _) _).alloc (by simp) _).alloc (by simp; omega) _).trans (hb.mono (by simp; omega))
              replace KJ := Lib.hid (KJ.out.below hbK)
              replace OJ := Lib.hid (own_below OJ.out hbK)
              replace KR := Lib.hid (KR.out.below hbK)
              replace S4 := Lib.hid (S4.out.below hbK)
              clear hbK
              replace HB := Lib.hid (HB.out.trans (hb.mono HB.out.size))
              clear hb HWA p0 p1 p2 q0 q1 q2 ltj p3 p4 p5 q3 q4 q5 ltg
              obtain ⟨p0, p1, p2, q0, q1, q2, ltj⟩ := KJ.out.box
              obtain ⟨p3, p4, p5, q3, q4, q5, ltg⟩ := KR.out.box
              have hT := refTakes_all W2 n cc aj nj cj f sum4 x4 m4 cm4 ds (by unfold IntR; omega) (by unfold IntR; omega) (by unfold maxLen; omega) S4.out
              obtain ⟨T, hTT⟩ : ∃ T, takesR (n : Int) cc nj f ds sum4 = T := ⟨_, rfl⟩
              rw [hTT] at hT
              have HTT := Lib.hid hTT
              have HTA := Lib.hid hT
              clear hT hTT
              go_wp2_with fail
              with_reducible refine HTA.out.mono ?_
              rintro e W3 ⟨rfl, hb⟩
              have hbK : Below W2.heap.size W2 W3 := by first | exact hb | exact (Below.refl _ _).drew.trans (hb.mono (by simp)) | exact ((Below.refl _ _).alloc (Nat.le_refl _) _).trans (hb.mono (by simp)) | exact (((Below.refl _ _).alloc (Nat.le_refl _) _).alloc (by simp) _).trans (hb.mono (by simp; omega)) | exact ((((Below.refl _ _).alloc (Nat.le_refl _) _).alloc (by simp) _).alloc (by simp; omega) _).trans (hb.mono (by simp; omega))
              replace KJ := Lib.hid (KJ.out.below hbK)
              replace OJ := Lib.hid (own_below OJ.out hbK)
              replace KR := Lib.hid (KR.out.below hbK)
              replace S4 := Lib.hid (S4.out.below hbK)
              clear hbK
              replace HB := Lib.hid (HB.out.trans (hb.mono HB.out.size))
              clear hb HTA p0 p1 p2 q0 q1 q2 ltj p3 p4 p5 q3 q4 q5 ltg
              go_upto_if 110 with fail
              go_cut [19, 20] (fun s19 s20 wx => (T = true → ds = partL b nj wt) ∧ Below W3.heap.size W3 wx)
              case first =>
                cases T with
                | false =>
                  go_wp2_with fail
                  go_meet
                  exact ⟨(fun h => by cases h), Below.refl _ _⟩
                | true =>
                  have hwp : 0 < wt := by have h := (of_decide_eq_true HTT.out).1; rw [HWT.out] at h; exact h
                  obtain ⟨hwe, hwl⟩ := want_some HLO.out.1 (by rw [HWT.out]; omega)
                  obtain rfl : fr = (nj : Int) := by have h := HF.out; rw [hwe] at h; exact h.symm
                  have hwe2 : min cc ((n : Int) - nj) = wt := by have h := HWT.out; rw [hwe] at h; exact h
                  have hV := Serve_any W3 a n cap b nj wt (SB.out.below (HW.out.trans (HB.out.mono HW.out.size))) hcap (by omega) (by unfold partOk; omega)
                  obtain ⟨D, hD⟩ : ∃ D, partL b (nj : Int) wt = D := ⟨_, rfl⟩
                  rw [hD] at hV
                  have HD := Lib.hid hD
                  have HV := Lib.hid hV
                  clear hV hwe hwe2 hwl hD
                  go_wp2_with fail
                  with_reducible refine HV.out.mono ?_
                  rintro e W4 ⟨a7, m7, c7, rfl, hown7, hb⟩
                  have S7 := Lib.hid (Sl.ofOwnS hown7).1
                  have hbK : Below W3.heap.size W3 W4 := by first | exact hb | exact (Below.refl _ _).drew.trans (hb.mono (by simp)) | exact ((Below.refl _ _).alloc (Nat.le_refl _) _).trans (hb.mono (by simp)) | exact (((Below.refl _ _).alloc (Nat.le_refl _) _).alloc (by simp) _).trans (hb.mono (by simp; omega)) | exact ((((Below.refl _ _).alloc (Nat.le_refl _) _).alloc (by simp) _).alloc (by simp; omega) _).trans (hb.mono (by simp; omega))
                  replace KJ := Lib.hid (KJ.out.below hbK)
                  replace OJ := Lib.hid (own_below OJ.out hbK)
                  replace KR := Lib.hid (KR.out.below hbK)
                  replace S4 := Lib.hid (S4.out.below hbK)
                  clear hbK
                  replace HB := Lib.hid (HB.out.trans (hb.mono HB.out.size))
                  have HX := Lib.hid hb
                  have hb5 : Below W4.heap.size W4 (W4.alloc (.cells #[.int .i64 nj, .slice a7 m7 c7, .int .u32 (S32 D)] 27)) := (Below.refl _ _).alloc (Nat.le_refl _) _
                  have cvA := run_conv (S7.out.below hb5) c7
                  have cvB := run_conv (S4.out.below hb5) cm4
                  have HX5 := Lib.hid (HX.out.trans (hb5.mono HX.out.size))
                  have HB5 := Lib.hid (HB.out.trans (hb5.mono HB.out.size))
                  clear hb hown7 hb5 HX HV
                  obtain ⟨p3, p4, p5, q3, q4, q5, ltg⟩ := KR.out.box
                  by_cases hd : ds = D
                  · rw [hd] at cvB
                    go_wp2_with fail
                    go_meet
                    exact ⟨(fun _ => hd.trans HD.out.symm), HX5.out⟩
                  · have z1 : (D == ds) = false := by simp [Ne.symm hd]
                    have z2 : (D != ds) = true := by simp [Ne.symm hd]
                    have HJ5 := Lib.hid (HL.out.below (w' := W4.alloc (.cells #[.int .i64 nj, .slice a7 m7 c7, .int .u32 (S32 D)] 27)) HB5.out)
                    have HW5 := Lib.hid (HW.out.trans (HB5.out.mono HW.out.size))
                    clear hd
                    go_wp2_with fail
                    go_roundg (n2 - (j + 1))
                    case measure => omega
                    case rel => exact ⟨j + 1, by omega, rfl, by go_num, HJ5, HW5⟩
              case rest =>
                obtain ⟨hTd, hb⟩ := hcut
                have HTD := Lib.hid hTd
                obtain ⟨W4, rfl⟩ : ∃ W4, W4 = wc := ⟨_, rfl⟩
                have hbK : Below W3.heap.size W3 W4 := by first | exact hb | exact (Below.refl _ _).drew.trans (hb.mono (by simp)) | exact ((Below.refl _ _).alloc (Nat.le_refl _) _).trans (hb.mono (by simp)) | exact (((Below.refl _ _).alloc (Nat.le_refl _) _).alloc (by simp) _).trans (hb.mono (by simp; omega)) | exact ((((Below.refl _ _).alloc (Nat.le_refl _) _).alloc (by simp) _).alloc (by simp; omega) _).trans (hb.mono (by simp; omega))
                replace KJ := Lib.hid (KJ.out.below hbK)
                replace OJ := Lib.hid (own_below OJ.out hbK)
                replace KR := Lib.hid (KR.out.below hbK)
                replace S4 := Lib.hid (S4.out.below hbK)
                clear hbK
                replace HB := Lib.hid (HB.out.trans (hb.mono HB.out.size))
                have HWTK := HWT
                clear hb hTd HF HWT
                obtain ⟨p0, p1, p2, q0, q1, q2, ltj⟩ := KJ.out.box
                obtain ⟨p3, p4, p5, q3, q4, q5, ltg⟩ := KR.out.box
                have hbt : (b.take nj).length = nj := by have := hbl.out; have := HN.out; simp; omega
                have hTk := Take_all W4 n cc aj nj cj (b.take nj) f sum4 x4 m4 cm4 ds (by unfold IntR; omega) (by unfold IntR; omega) (by omega) (Sl.ofOwnS OJ.out).1 S4.out
                rw [HTT.out] at hTk
                have HTk := Lib.hid hTk
                clear hTk hbt
                go_wp2_with fail
                with_reducible refine HTk.out.mono ?_
                rintro e W5 ⟨a8, n8, c8, rfl, hown8, hb⟩
                have O8 := Lib.hid hown8
                have hbK : Below W4.heap.size W4 W5 := by first | exact hb | exact (Below.refl _ _).drew.trans (hb.mono (by simp)) | exact ((Below.refl _ _).alloc (Nat.le_refl _) _).trans (hb.mono (by simp)) | exact (((Below.refl _ _).alloc (Nat.le_refl _) _).alloc (by simp) _).trans (hb.mono (by simp; omega)) | exact ((((Below.refl _ _).alloc (Nat.le_refl _) _).alloc (by simp) _).alloc (by simp; omega) _).trans (hb.mono (by simp; omega))
                replace KJ := Lib.hid (KJ.out.below hbK)
                clear hbK
                replace HB := Lib.hid (HB.out.trans (hb.mono HB.out.size))
                have sz4 := HB.out.size
                clear hb hown8 HTk OJ KR S4 p0 p1 p2 q0 q1 q2 p3 p4 p5 q3 q4 q5 ltg
                obtain ⟨p0, p1, p2, q0, q1, q2, ltj⟩ := KJ.out.box
                have hTD' : takesR (n : Int) cc nj f ds sum4 = true → ds = partL b nj (wantR (n : Int) cc nj).2 := fun h => by rw [HWTK.out]; exact HTD.out (HTT.out ▸ h)
                obtain ⟨nj', e1, l1, l2, _⟩ := live_step (b := b) (by have := hbl.out; omega) HLO.out hTD'
                rw [HTT.out] at e1
                have O8' := O8.out
                rw [e1] at O8'
                obtain rfl : n8 = nj' := by have h := O8'.1; simp at h; omega
                have HLv := Lib.hid (show Live w2.heap.size n cc (min (k * cc) n) b (((W5.setCell ⟨w2.heap.size, 0, none⟩ (.int .i64 n)).setCell ⟨w2.heap.size, 1, none⟩ (.int .i64 cc)).setCell ⟨w2.heap.size, 2, none⟩ (.slice a8 n8 c8)) from
                  ⟨a8, n8, c8, l1, l2, KJ.out.set, own_keep3 (own_mono O8' (by omega)) (by omega) _ _ _⟩)
                have HWv := Lib.hid (show Below w.heap.size w (((W5.setCell ⟨w2.heap.size, 0, none⟩ (.int .i64 n)).setCell ⟨w2.heap.size, 1, none⟩ (.int .i64 cc)).setCell ⟨w2.heap.size, 2, none⟩ (.slice a8 n8 c8)) from
                  HW.out.trans ((HB.out.mono HW.out.size).trans ((keep33 w2.heap.size W5 _ _ _).mono sz2)))
                clear e1 l1 l2 O8' O8 hTD' HTD
                go_wp2_with fail
                go_roundg (n2 - (j + 1))
                case measure => omega
                case rel => exact ⟨j + 1, by omega, rfl, by go_num, HLv, HWv⟩
        · obtain rfl : j = n2 := by omega
          obtain ⟨W1, rfl⟩ : ∃ W1, W1 = wr := ⟨_, rfl⟩
          obtain ⟨aj, nj, cj, hl1, hl2, hl3, hl4⟩ := HL.out
          have HLO := Lib.hid hl1
          have KJ := Lib.hid hl3
          have OJ := Lib.hid hl4
          have HN := Lib.hid hl2
          have hjn1 : nj ≤ 900 := by have := hbl.out; omega
          clear hl1 hl2 hl3 hl4
          obtain ⟨p0, p1, p2, q0, q1, q2, ltj⟩ := KJ.out.box
          have hW := Want_any W1 n cc aj nj cj (by unfold IntR; omega) (by unfold IntR; omega) (by unfold maxLen; omega)
          obtain ⟨b1, b2, b3, b4⟩ := wantR_bounds n cc nj
          obtain ⟨fr, hfr⟩ : ∃ fr, (wantR (n : Int) cc nj).1 = fr := ⟨_, rfl⟩
          obtain ⟨wt, hwt⟩ : ∃ wt, (wantR (n : Int) cc nj).2 = wt := ⟨_, rfl⟩
          rw [hfr, hwt] at hW
          rw [hfr] at b3 b4
          rw [hwt] at b1 b2
          have HF := Lib.hid hfr
          have HWT := Lib.hid hwt
          have HWA := Lib.hid hW
          clear hfr hwt hW
          go_wp2_with fail
          with_reducible refine HWA.out.mono ?_
          rintro e W2 ⟨rfl, hb⟩
          have HB := Lib.hid hb
          have hbK : Below W1.heap.size W1 W2 := by first | exact hb | exact (Below.refl _ _).drew.trans (hb.mono (by simp)) | exact ((Below.refl _ _).alloc (Nat.le_refl _) _).trans (hb.mono (by simp)) | exact (((Below.refl _ _).alloc (Nat.le_refl _) _).alloc (by simp) _).trans (hb.mono (by simp; omega)) | exact ((((Below.refl _ _).alloc (Nat.le_refl _) _).alloc (by simp) _).alloc (by simp; omega) _).trans (hb.mono (by simp; omega))
          replace KJ := Lib.hid (KJ.out.below hbK)
          replace OJ := Lib.hid (own_below OJ.out hbK)
          clear hbK
          clear hb HWA p0 p1 p2 q0 q1 q2 ltj
          obtain ⟨p0, p1, p2, q0, q1, q2, ltj⟩ := KJ.out.box
          by_cases hw0 : wt = 0
          · have z1 : (wt == 0) = true := eqi_yes hw0
            have hfull := want_full HLO.out.1 (by rw [HWT.out]; exact hw0)
            have hbt : b.take nj = b := List.take_of_length_le (by have := hbl.out; omega)
            have cvA := run_conv (Sl.ofOwnS OJ.out).1 cj
            rw [hbt] at cvA
            have cvB := run_conv (SB.out.below (HW.out.trans (HB.out.mono HW.out.size))) cap
            have HE := Lib.hid (HW.out.trans (HB.out.mono HW.out.size))
            clear hw0 hfull hbt b1 b2
            go_wp2_with fail
            go_ret
            exact ⟨rfl, HE.out⟩
          · have z1 : (wt == 0) = false := eq_no5 hw0
            obtain ⟨hwe, hwl⟩ := want_some HLO.out.1 (by rw [HWT.out]; exact hw0)
            obtain rfl : fr = (nj : Int) := by have h := HF.out; rw [hwe] at h; exact h.symm
            have hwe2 : min cc ((n : Int) - nj) = wt := by have h := HWT.out; rw [hwe] at h; exact h
            obtain ⟨q, hq, hq0, hq1⟩ : ∃ q : Int, (k : Int) * cc = q ∧ 0 ≤ q ∧ q ≤ 100000000 := ⟨_, rfl, Int.mul_nonneg (by omega) (by omega), by have := Int.mul_le_mul (show (k : Int) ≤ 65536 by omega) j3 (by omega) (by omega); omega⟩
            have hlo := HLO.out.2
            rw [hq] at hlo
            have z2 : decide ((nj : Int) < q) = false := decide_eq_false (by omega)
            have hrl := round_low (i := k) (c := cc) (s := n) (n := nj) (by rw [hq]; exact hlo) (show ((nj + wt.toNat : Nat) : Int) = nj + min cc ((n : Int) - nj) by omega) hwl (by omega) (by omega)
            have HRL := Lib.hid hrl
            have hTT := takes_right (b := b) (by have := hbl.out; omega) HLO.out.1 (by rw [HWT.out]; exact hw0)
            rw [HWT.out] at hTT
            have hpl := partL_length b nj wt (by omega) (by have := hbl.out; omega)
            have hV := Serve_any W2 a n cap b nj wt (SB.out.below (HW.out.trans (HB.out.mono HW.out.size))) hcap (by omega) (by unfold partOk; omega)
            have hD2 : partL b (nj : Int) wt = partL b nj (wantR (n : Int) cc nj).2 := by rw [HWT.out]
            obtain ⟨D, hD⟩ : ∃ D, partL b (nj : Int) wt = D := ⟨_, rfl⟩
            rw [hD] at hV hTT hpl hD2
            have HV := Lib.hid hV
            have HTT := Lib.hid hTT
            have HD2 := Lib.hid hD2
            clear hV hTT hD hD2 hrl hwe hwe2 hlo
            replace hpl := Lib.hid hpl
            go_wp2_with fail
            with_reducible refine HV.out.mono ?_
            rintro e W3 ⟨a7, m7, c7, rfl, hown7, hb⟩
            have S7 := Lib.hid (Sl.ofOwnS hown7).1
            have hbK : Below W2.heap.size W2 W3 := by first | exact hb | exact (Below.refl _ _).drew.trans (hb.mono (by simp)) | exact ((Below.refl _ _).alloc (Nat.le_refl _) _).trans (hb.mono (by simp)) | exact (((Below.refl _ _).alloc (Nat.le_refl _) _).alloc (by simp) _).trans (hb.mono (by simp; omega)) | exact ((((Below.refl _ _).alloc (Nat.le_refl _) _).alloc (by simp) _).alloc (by simp; omega) _).trans (hb.mono (by simp; omega))
            replace KJ := Lib.hid (KJ.out.below hbK)
            replace OJ := Lib.hid (own_below OJ.out hbK)
            clear hbK
            replace HB := Lib.hid (HB.out.trans (hb.mono HB.out.size))
            have hb5 : Below W3.heap.size W3 (W3.alloc (.cells #[.int .i64 nj, .slice a7 m7 c7, .int .u32 (S32 D)] 27)) := (Below.refl _ _).alloc (Nat.le_refl _) _
            replace KJ := Lib.hid (KJ.out.below hb5)
            replace OJ := Lib.hid (own_below OJ.out hb5)
            replace S7 := Lib.hid (S7.out.below hb5)
            replace HB := Lib.hid (HB.out.trans (hb5.mono HB.out.size))
            have KR := Lib.hid (show Blk3 (W3.alloc (.cells #[.int .i64 nj, .slice a7 m7 c7, .int .u32 (S32 D)] 27)) W3.heap.size (.int .i64 nj) (.slice a7 m7 c7) (.int .u32 (S32 D)) 27 from heap_alloc_last W3 _)
            obtain ⟨p0, p1, p2, q0, q1, q2, ltj⟩ := KJ.out.box
            have hbt : (b.take nj).length = nj := by have := hbl.out; simp; omega
            have hTk := Take_all (W3.alloc (.cells #[.int .i64 nj, .slice a7 m7 c7, .int .u32 (S32 D)] 27)) n cc aj nj cj (b.take nj) nj (S32 D) a7 m7 c7 D (by unfold IntR; omega) (by unfold IntR; omega) (by omega) (Sl.ofOwnS OJ.out).1 S7.out
            rw [HTT.out] at hTk
            have HTk := Lib.hid hTk
            clear hb hown7 hb5 HV hTk hbt
            go_wp2_with fail
            with_reducible refine HTk.out.mono ?_
            rintro e W5 ⟨a8, n8, c8, rfl, hown8, hb⟩
            have O8 := Lib.hid hown8
            replace KJ := Lib.hid (KJ.out.below hb)
            replace HB := Lib.hid (HB.out.trans (hb.mono HB.out.size))
            have szW : w2.heap.size + 1 ≤ (W3.alloc (.cells #[.int .i64 nj, .slice a7 m7 c7, .int .u32 (S32 D)] 27)).heap.size := ltj
            have hb6 : Below W5.heap.size W5 (W5.alloc (.cells #[.int .i64 n, .int .i64 cc, .slice a8 n8 c8] 24)) := (Below.refl _ _).alloc (Nat.le_refl _) _
            clear hb hown8 HTk p0 p1 p2 q0 q1 q2
            replace KJ := Lib.hid (KJ.out.below hb6)
            replace HB := Lib.hid (HB.out.trans (hb6.mono HB.out.size))
            obtain ⟨p0, p1, p2, q0, q1, q2, ltk⟩ := KJ.out.box
            obtain ⟨nj', e1, l1, l2, l3⟩ := live_step (ds := D) (f := nj) (sum := S32 D) (b := b) (by have := hbl.out; omega) HLO.out (fun _ => HD2.out)
            rw [HTT.out] at e1
            have O8' := O8.out
            rw [e1] at O8'
            obtain rfl : n8 = nj' := by have h := O8'.1; simp at h; omega
            have hn8 := l3 HTT.out
            rw [HWT.out] at hn8
            have hlow : min (((k + 1 : Nat) : Int) * cc) n ≤ n8 := by
              have h := HRL.out
              rw [show ((k + 1 : Nat) : Int) = (k : Int) + 1 by omega]
              omega
            have hO9 := own_below O8' hb6
            have HLv := Lib.hid (show Live w2.heap.size n cc (min ((k + 1 : Nat) * cc) n) b ((((W5.alloc (.cells #[.int .i64 n, .int .i64 cc, .slice a8 n8 c8] 24)).setCell ⟨w2.heap.size, 0, none⟩ (.int .i64 n)).setCell ⟨w2.heap.size, 1, none⟩ (.int .i64 cc)).setCell ⟨w2.heap.size, 2, none⟩ (.slice a8 n8 c8)) from
              ⟨a8, n8, c8, ⟨l1.1, hlow⟩, l2, KJ.out.set, own_keep3 (own_mono hO9 szW) (by omega) _ _ _⟩)
            have HWv := Lib.hid (show Below w.heap.size w ((((W5.alloc (.cells #[.int .i64 n, .int .i64 cc, .slice a8 n8 c8] 24)).setCell ⟨w2.heap.size, 0, none⟩ (.int .i64 n)).setCell ⟨w2.heap.size, 1, none⟩ (.int .i64 cc)).setCell ⟨w2.heap.size, 2, none⟩ (.slice a8 n8 c8)) from
              HW.out.trans ((HB.out.mono HW.out.size).trans ((keep33 w2.heap.size _ _ _ _).mono sz2)))
            clear e1 l1 l2 l3 O8' O8 hO9 hlow hn8 hb6 HRL
            go_upto_region 28 with fail
            have KX := Lib.hid (show Blk3 (W5.alloc (.cells #[.int .i64 n, .int .i64 cc, .slice a8 n8 c8] 24)) W5.heap.size (.int .i64 n) (.int .i64 cc) (.slice a8 n8 c8) 24 from heap_alloc_last W5 _)
            obtain ⟨r0, r1, r2, _, _, _, _⟩ := KX.out.box
            generalize W5.alloc (.cells #[.int .i64 n, .int .i64 cc, .slice a8 n8 c8] 24) = W6 at *
            go_wp2_with fail
            go_roundg (KK - (k + 1))
            case measure => omega
            case rel => exact ⟨k + 1, by omega, rfl, by go_num, HLv, HWv⟩
    · obtain rfl : k = KK := by omega
      obtain ⟨aj, nj, cj, hl1, hl2, hl3, hl4⟩ := HL.out
      have hnj : nj = n := by
        have h1 := hl1.2
        have h2 := HK2.out
        have h3 := hbl.out
        omega
      have hbt : b.take nj = b := List.take_of_length_le (by have := hbl.out; omega)
      have cvA := run_conv (Sl.ofOwnS hl4).1 cj
      rw [hbt] at cvA
      have cvB := run_conv (SB.out.below HW.out) cap
      obtain ⟨p0, p1, p2, q0, q1, q2, ltj⟩ := hl3.box
      have HNJ := Lib.hid hnj
      clear hl1 hl2 hl3 hl4 hnj hbt
      go_wp2_with fail
      go_ret
      exact ⟨rfl, HW.out⟩
section
variable {H : Type} {enc : TypeId × Value → H} {w : World} {r : Reach} {b0 : Nat} {v : Value} {d : DataW H} {p : List MemPlace}
theorem open_bytes (hv : Value.okWide Try.prog w r b0 22 v) (h : DataW.Trod enc Try.prog w 0 (fun _ => true) true 22 v d p) : ∃ a n cap z, v = .slice a n cap ∧ IsRow .u8 w a n cap z := by
  obtain ⟨a, n, cap, rfl⟩ := okWide_slice Try.underlying22 hv
  obtain ⟨fuel, hf⟩ := h
  exact row_of (by simpa [Value.cells] using hf)
end
end Go.Proofs.Ytikkkmfddhijeaa
