/- scan: the reference's Right, of any record. No condition. (recOk_nums is XRecLaw2's, refRight5_all XRecLaw3's.) -/
import Derived.Test.YtechkdnoekffmaaQ09ScanTorn
namespace Go.Proofs.Ytechkdnoekffmaa
open Go.ChangeShapes Go.WideShapes Go.ChangeAt Go.RowKit
theorem recOk_nums {k t : Int} {key blob : Nat} {c : Int} (h : recOk k t key blob c = true) (ht : t < 4294967296) : ∃ (u : UInt8) (t' c' : Nat), k = u.toNat ∧ t = t' ∧ c = c' ∧ t' < 4294967296 ∧ key ≤ 64 ∧ blob ≤ 4096 := by
  have hd := of_decide_eq_true h
  have hk : 0 ≤ k ∧ k < 256 := by omega
  refine ⟨UInt8.ofNat k.toNat, t.toNat, c.toNat, ?_, by omega, by omega, by omega, by omega, by omega⟩
  rw [UInt8.toNat_ofNat_of_lt' (by show _ < 256; omega)]; omega
set_option maxRecDepth 100000 in
set_option maxHeartbeats 4000000 in
theorem refRight5_all (w : World) (k t : Int) (kb : List UInt8) (a : Option Addr) (n cap : Nat) (c : Int) (hk : IntR k) (ht : 0 ≤ t) (hc : IntR c) :
    Calls Try.prog 6 #[recL k t kb a n cap c] w fun e w' => e = .returned (.bool (recOk k t kb.length n c)) ∧ Below w.heap.size w w' := by
  obtain ⟨k1, k2⟩ := hk
  obtain ⟨c1, c2⟩ := hc
  by_cases k0 : t < 1
  · rw [show recOk k t kb.length n c = false from decide_eq_false (by omega)]
    go_enter Try.func6, Try.ntmps6
    go_wp2_with fail
    all_goals (go_ret; first | exact ⟨rfl, (Below.refl _ _).alloc (Nat.le_refl _) _⟩ | exact ⟨ret_no (by omega), (Below.refl _ _).alloc (Nat.le_refl _) _⟩ | exact ⟨ret_yes (by omega), (Below.refl _ _).alloc (Nat.le_refl _) _⟩)
  by_cases d1 : k = 1
  · subst d1
    by_cases q1 : kb.length < 1
    · rw [show recOk 1 t kb.length n c = false from decide_eq_false (by omega)]
      go_enter Try.func6, Try.ntmps6
      go_wp2_with fail
      all_goals (go_ret; first | exact ⟨rfl, (Below.refl _ _).alloc (Nat.le_refl _) _⟩ | exact ⟨ret_no (by omega), (Below.refl _ _).alloc (Nat.le_refl _) _⟩ | exact ⟨ret_yes (by omega), (Below.refl _ _).alloc (Nat.le_refl _) _⟩)
    by_cases q2 : 64 < kb.length
    · rw [show recOk 1 t kb.length n c = false from decide_eq_false (by omega)]
      go_enter Try.func6, Try.ntmps6
      go_wp2_with fail
      all_goals (go_ret; first | exact ⟨rfl, (Below.refl _ _).alloc (Nat.le_refl _) _⟩ | exact ⟨ret_no (by omega), (Below.refl _ _).alloc (Nat.le_refl _) _⟩ | exact ⟨ret_yes (by omega), (Below.refl _ _).alloc (Nat.le_refl _) _⟩)
    by_cases q3 : 4096 < n
    · rw [show recOk 1 t kb.length n c = false from decide_eq_false (by omega)]
      go_enter Try.func6, Try.ntmps6
      go_wp2_with fail
      all_goals (go_ret; first | exact ⟨rfl, (Below.refl _ _).alloc (Nat.le_refl _) _⟩ | exact ⟨ret_no (by omega), (Below.refl _ _).alloc (Nat.le_refl _) _⟩ | exact ⟨ret_yes (by omega), (Below.refl _ _).alloc (Nat.le_refl _) _⟩)
    by_cases q4 : ¬ c = 0
    · rw [show recOk 1 t kb.length n c = false from decide_eq_false (by omega)]
      have e4 : (c == 0) = false := eqi_no q4
      go_enter Try.func6, Try.ntmps6
      go_wp2_with fail
      all_goals (go_ret; first | exact ⟨rfl, (Below.refl _ _).alloc (Nat.le_refl _) _⟩ | exact ⟨ret_no (by omega), (Below.refl _ _).alloc (Nat.le_refl _) _⟩ | exact ⟨ret_yes (by omega), (Below.refl _ _).alloc (Nat.le_refl _) _⟩)
    obtain rfl : c = 0 := by omega
    rw [show recOk 1 t kb.length n 0 = true from decide_eq_true (by omega)]
    go_enter Try.func6, Try.ntmps6
    go_wp2_with fail
    all_goals (go_ret; first | exact ⟨rfl, (Below.refl _ _).alloc (Nat.le_refl _) _⟩ | exact ⟨ret_no (by omega), (Below.refl _ _).alloc (Nat.le_refl _) _⟩ | exact ⟨ret_yes (by omega), (Below.refl _ _).alloc (Nat.le_refl _) _⟩)
  by_cases d2 : k = 2
  · subst d2
    by_cases q1 : kb.length < 1
    · rw [show recOk 2 t kb.length n c = false from decide_eq_false (by omega)]
      go_enter Try.func6, Try.ntmps6
      go_wp2_with fail
      all_goals (go_ret; first | exact ⟨rfl, (Below.refl _ _).alloc (Nat.le_refl _) _⟩ | exact ⟨ret_no (by omega), (Below.refl _ _).alloc (Nat.le_refl _) _⟩ | exact ⟨ret_yes (by omega), (Below.refl _ _).alloc (Nat.le_refl _) _⟩)
    by_cases q2 : 64 < kb.length
    · rw [show recOk 2 t kb.length n c = false from decide_eq_false (by omega)]
      go_enter Try.func6, Try.ntmps6
      go_wp2_with fail
      all_goals (go_ret; first | exact ⟨rfl, (Below.refl _ _).alloc (Nat.le_refl _) _⟩ | exact ⟨ret_no (by omega), (Below.refl _ _).alloc (Nat.le_refl _) _⟩ | exact ⟨ret_yes (by omega), (Below.refl _ _).alloc (Nat.le_refl _) _⟩)
    by_cases q3 : ¬ n = 0
    · rw [show recOk 2 t kb.length n c = false from decide_eq_false (by omega)]
      have e3 : ((n : Int) == 0) = false := eqi_no (by omega)
      go_enter Try.func6, Try.ntmps6
      go_wp2_with fail
      all_goals (go_ret; first | exact ⟨rfl, (Below.refl _ _).alloc (Nat.le_refl _) _⟩ | exact ⟨ret_no (by omega), (Below.refl _ _).alloc (Nat.le_refl _) _⟩ | exact ⟨ret_yes (by omega), (Below.refl _ _).alloc (Nat.le_refl _) _⟩)
    by_cases q4 : ¬ c = 0
    · rw [show recOk 2 t kb.length n c = false from decide_eq_false (by omega)]
      have e4 : (c == 0) = false := eqi_no q4
      go_enter Try.func6, Try.ntmps6
      go_wp2_with fail
      all_goals (go_ret; first | exact ⟨rfl, (Below.refl _ _).alloc (Nat.le_refl _) _⟩ | exact ⟨ret_no (by omega), (Below.refl _ _).alloc (Nat.le_refl _) _⟩ | exact ⟨ret_yes (by omega), (Below.refl _ _).alloc (Nat.le_refl _) _⟩)
    obtain rfl : c = 0 := by omega
    obtain rfl : n = 0 := by omega
    rw [show recOk 2 t kb.length 0 0 = true from decide_eq_true (by omega)]
    go_enter Try.func6, Try.ntmps6
    go_wp2_with fail
    all_goals (go_ret; first | exact ⟨rfl, (Below.refl _ _).alloc (Nat.le_refl _) _⟩ | exact ⟨ret_no (by omega), (Below.refl _ _).alloc (Nat.le_refl _) _⟩ | exact ⟨ret_yes (by omega), (Below.refl _ _).alloc (Nat.le_refl _) _⟩)
  by_cases d3 : k = 3
  · subst d3
    by_cases q1 : ¬ kb = []
    · have hl : kb.length ≠ 0 := fun h => q1 (List.eq_nil_of_length_eq_zero h)
      have e1 : (kb == []) = false := by simpa using q1
      rw [show recOk 3 t kb.length n c = false from decide_eq_false (by omega)]
      go_enter Try.func6, Try.ntmps6
      go_wp2_with fail
      all_goals (go_ret; first | exact ⟨rfl, (Below.refl _ _).alloc (Nat.le_refl _) _⟩ | exact ⟨ret_no (by omega), (Below.refl _ _).alloc (Nat.le_refl _) _⟩ | exact ⟨ret_yes (by omega), (Below.refl _ _).alloc (Nat.le_refl _) _⟩)
    obtain rfl : kb = [] := Classical.not_not.1 q1
    by_cases q2 : ¬ n = 0
    · rw [show recOk 3 t ([] : List UInt8).length n c = false from decide_eq_false (by have hz : ([] : List UInt8).length = 0 := rfl; omega)]
      have e2 : ((n : Int) == 0) = false := eqi_no (by omega)
      go_enter Try.func6, Try.ntmps6
      go_wp2_with fail
      all_goals (go_ret; first | exact ⟨rfl, (Below.refl _ _).alloc (Nat.le_refl _) _⟩ | exact ⟨ret_no (by omega), (Below.refl _ _).alloc (Nat.le_refl _) _⟩ | exact ⟨ret_yes (by omega), (Below.refl _ _).alloc (Nat.le_refl _) _⟩)
    by_cases q3 : c < 0
    · rw [show recOk 3 t ([] : List UInt8).length n c = false from decide_eq_false (by have hz : ([] : List UInt8).length = 0 := rfl; omega)]
      go_enter Try.func6, Try.ntmps6
      go_wp2_with fail
      all_goals (go_ret; first | exact ⟨rfl, (Below.refl _ _).alloc (Nat.le_refl _) _⟩ | exact ⟨ret_no (by omega), (Below.refl _ _).alloc (Nat.le_refl _) _⟩ | exact ⟨ret_yes (by omega), (Below.refl _ _).alloc (Nat.le_refl _) _⟩)
    by_cases q4 : 16 < c
    · rw [show recOk 3 t ([] : List UInt8).length n c = false from decide_eq_false (by have hz : ([] : List UInt8).length = 0 := rfl; omega)]
      go_enter Try.func6, Try.ntmps6
      go_wp2_with fail
      all_goals (go_ret; first | exact ⟨rfl, (Below.refl _ _).alloc (Nat.le_refl _) _⟩ | exact ⟨ret_no (by omega), (Below.refl _ _).alloc (Nat.le_refl _) _⟩ | exact ⟨ret_yes (by omega), (Below.refl _ _).alloc (Nat.le_refl _) _⟩)
    obtain rfl : n = 0 := by omega
    rw [show recOk 3 t ([] : List UInt8).length 0 c = true from decide_eq_true (by have hz : ([] : List UInt8).length = 0 := rfl; omega)]
    go_enter Try.func6, Try.ntmps6
    go_wp2_with fail
    all_goals (go_ret; first | exact ⟨rfl, (Below.refl _ _).alloc (Nat.le_refl _) _⟩ | exact ⟨ret_no (by omega), (Below.refl _ _).alloc (Nat.le_refl _) _⟩ | exact ⟨ret_yes (by omega), (Below.refl _ _).alloc (Nat.le_refl _) _⟩)
  have e1 : (k == 1) = false := eqi_no d1
  have e2 : (k == 2) = false := eqi_no d2
  have e3 : (k == 3) = false := eqi_no d3
  rw [show recOk k t kb.length n c = false from decide_eq_false (by omega)]
  go_enter Try.func6, Try.ntmps6
  go_wp2_with fail
  all_goals (go_ret; first | exact ⟨rfl, (Below.refl _ _).alloc (Nat.le_refl _) _⟩ | exact ⟨ret_no (by omega), (Below.refl _ _).alloc (Nat.le_refl _) _⟩ | exact ⟨ret_yes (by omega), (Below.refl _ _).alloc (Nat.le_refl _) _⟩)
end Go.Proofs.Ytechkdnoekffmaa
/- scan: a row of bytes and a row of found records that grow in turn. No condition. -/
namespace Go.Proofs.Ytechkdnoekffmaa
open Go.ChangeShapes Go.WideShapes Go.ChangeAt Go.RowKit
/-- Own rows of unlike types lie in unlike blocks. -/
theorem own_apart {w : World} {B1 B2 : Nat} {e1 e2 : TypeId} {s1 s2 : Nat} {v1 v2 : Value} {n1 n2 : Nat} {xs1 xs2 : List Value} (h1 : w.ownsRow B1 e1 s1 v1 n1 xs1) (h2 : w.ownsRow B2 e2 s2 v2 n2 xs2) (hne : e1 ≠ e2) : v1.ownBlock = none ∨ v1.ownBlock ≠ v2.ownBlock := by
  rcases h1.2 with ⟨rfl, _⟩ | ⟨g, cap, cur, rfl, _, hg, _⟩
  · exact .inl rfl
  · refine .inr fun he => ?_
    rcases h2.2 with ⟨rfl, _⟩ | ⟨g2, cap2, cur2, rfl, _, hg2, _⟩
    · simp [Value.ownBlock] at he
    · simp [Value.ownBlock] at he
      subst he
      rw [hg] at hg2
      simp at hg2
      exact hne hg2.2
/-- Blobs that lie below block B. -/
def LowBlobs (B : Nat) (F : List FV) : Prop := ∀ f ∈ F, 0 < f.n → ∃ b off, f.a = some ⟨b, off, none⟩ ∧ b < B
theorem LowBlobs.snoc {B : Nat} {F : List FV} {f : FV} (h : LowBlobs B F) (hf : 0 < f.n → ∃ b off, f.a = some ⟨b, off, none⟩ ∧ b < B) : LowBlobs B (F ++ [f]) := by
  intro g hg
  rcases List.mem_append.1 hg with hg | hg
  · exact h g hg
  · rw [List.mem_singleton.1 hg]; exact hf
/-- Found records stay while a row of bytes grows. -/
theorem Founds.grown {w w' : World} {B : Nat} {v : Value} {k : Nat} {F : List FV} {vb : Value} {nb : Nat} {xs : List Value} (h : Founds w B v k F) (hl : LowBlobs B F) (ho : w.ownsRow B 5 1 vb nb xs) (hg : w.grownBy w' vb.ownBlock) (hb : Below B w w') : Founds w' B v k F := by
  refine ⟨h.own.kept hg (own_apart h.own ho (by decide)), h.len, fun f hf => ?_, h.cap, fun f hf hn => ?_⟩
  · refine ⟨(h.sl f hf).1, fun hn => ?_⟩
    obtain ⟨b, off, ha, hlt, hc⟩ := (h.sl f hf).2 hn
    obtain ⟨b', off', ha', h1⟩ := hl f hf hn
    rw [ha] at ha'
    cases ha'
    exact ⟨b, off, ha, Nat.lt_of_lt_of_le hlt hg.size, fun i hi => by rw [hb.cell (by simpa using h1)]; exact hc i hi⟩
  · obtain ⟨b', off', ha', h1⟩ := hl f hf hn
    exact ⟨b', off', ha', .inl h1⟩
theorem wpList_found3 {w : World} {ops : Array Oper} {rest : List Oper} {o : Oper} {a : Act} {Q : Exit → Act → World → Prop} (hgd : Region.wanted o (yielded ops a.tmps) = true) (s x : Operand)
    (ho : o.op = .call { callee := .builtin .append, args := #[s, x], argTypes := #[25, 25] })
    (B : Nat) (v : Value) (k : Nat) (F : List FV) (hv : a.eval s = v) (hF : Founds w B v k F) (f : FV) (c : Nat) (sz : Nat) (hy : a.eval x = .slice (some ⟨sz, 0, none⟩) 1 c) (hsz : w.heap.size = sz)
    (hsl : Sl encB w f.a f.n f.bb) (hcap : f.n ≤ f.cap) (hbl : BlobAt w B f) (hk : k ≤ 65536) (hB : B ≤ w.heap.size)
    (h : ∀ v' w', Founds w' B v' (k + 1) (F ++ [f]) → Below B w w' → (∀ vb nb xs, w.ownsRow B 5 1 vb nb xs → w'.ownsRow B 5 1 vb nb xs) →
      (∀ (g : Nat) (cur : Array Value) (e : TypeId) (fr : Nat × Nat), w.heap[g]? = some (.cells cur e fr) → e ≠ 31 → w'.heap[g]? = some (.cells cur e fr)) → wpList Try.prog ops Q rest (a.put o.dst v') w') : wpList Try.prog ops Q (o :: rest) a (w.alloc (.cells f.cells.toArray 31)) := by
  subst hsz
  obtain ⟨i0, hi, hz0, hz1, hz2⟩ := info_parts infoFound
  have hb : Below w.heap.size w (w.alloc (.cells f.cells.toArray 31)) := (Below.refl _ _).alloc (Nat.le_refl _) _
  have hF2 := hF.below hb
  refine wpList_append_src hgd s x 25 25 ho B 31 i0 _ 6 72 Try.underlying25 hi hz0 hz1 hz2 rfl v k _ hv hF2.own _ 1 f.cells hy (srcFound w f c) (by unfold maxLen; omega) (by omega) (by simp; omega) ?_
  intro v' w' hown hgr _
  have hlt : ∀ g ∈ F ++ [f], Sl encB (w.alloc (.cells f.cells.toArray 31)) g.a g.n g.bb ∧ BlobAt (w.alloc (.cells f.cells.toArray 31)) B g ∧ g.n ≤ g.cap := by
    intro g hg
    rcases List.mem_append.1 hg with hg | hg
    · exact ⟨hF2.sl g hg, hF2.blob g hg, hF2.cap g hg⟩
    · obtain rfl := List.mem_singleton.1 hg
      exact ⟨hsl.below hb, hbl.below hb, hcap⟩
  refine h v' w' ⟨by rw [List.flatMap_append]; simpa using hown, by simp [hF.len], fun g hg => (blob_kept hF2.own hgr (hlt g hg).1 (hlt g hg).2.1).1, fun g hg => (hlt g hg).2.2, fun g hg => (blob_kept hF2.own hgr (hlt g hg).1 (hlt g hg).2.1).2⟩ ?_ ?_ ?_
  · exact ((Below.refl B w).alloc hB _).trans (below_app (Below.refl _ _) (by simp; omega) hF2.own hgr)
  · intro vb nb xs hvb
    have h2 := own_below hvb hb
    exact h2.kept hgr (own_apart h2 hF2.own (by decide))
  · intro g cur e fr hg hne
    have hlt2 := (Array.getElem?_eq_some_iff.1 hg).1
    have hg2 : (w.alloc (.cells f.cells.toArray 31)).heap[g]? = some (.cells cur e fr) := by rw [hb.block g hlt2]; exact hg
    rw [hgr.block g (Nat.lt_of_lt_of_le hlt2 hb.size) ?_]
    · exact hg2
    · intro he
      rcases hF2.own.2 with ⟨rfl, _⟩ | ⟨g3, cap3, cur3, rfl, _, hg3, _⟩
      · simp [Value.ownBlock] at he
      · simp [Value.ownBlock] at he
        subst he
        rw [hg2] at hg3
        simp at hg3
        exact hne hg3.2.1
end Go.Proofs.Ytechkdnoekffmaa
/- scan: the walk of ScanWhole. No condition. -/
namespace Go.Proofs.Ytechkdnoekffmaa
open Go.ChangeShapes Go.WideShapes Go.ChangeAt Go.RowKit
/-- What lies there behind j records. -/
structure LaidS (w : World) (j : Nat) (vb vw : Value) (R : List RV) (G : List FV) (wr : World) : Prop where
  len : R.length = j
  ok : ∀ r ∈ R, r.ok ∧ r.len ≤ 300
  row : wr.ownsRow w.heap.size 5 1 vb (total R) ((R.flatMap RV.bytes).map encB)
  found : Founds wr w.heap.size vw j G
  low : LowBlobs w.heap.size G
  tells : Tells 12 R G
  below : Below w.heap.size w wr
theorem total_small {R : List RV} (h : ∀ r ∈ R, r.ok ∧ r.len ≤ 300) : total R ≤ 300 * R.length := by
  induction R with
  | nil => simp [total]
  | cons r R ih =>
    have h1 := (h r (by simp)).2
    have h2 := ih (fun x hx => h x (by simp [hx]))
    simp [total]; omega
set_option maxRecDepth 100000 in
set_option maxHeartbeats 8000000 in
theorem walk0_ScanWhole (w : World) (a : Option Addr) (n cap : Nat) (x : Int) (hr : IsRecs w a n cap) (hx : (Lit.int .u8 x).wf = true) :
    Calls Try.prog 3 #[.slice a n cap, .int .u8 x] w fun e w' => e = .returned (.bool true) ∧ Below w.heap.size w w' := by
  obtain ⟨hc, hm, hrec⟩ := hr
  unfold maxLen at hm
  have HR := Lib.hid hrec
  have HX := Lib.hid hx
  clear hrec hx
  go_enter Try.func3, Try.ntmps3
  go_wp2_with fail
  refine (fixed06 w).mono ?_
  rintro e w1 ⟨rfl, hb1⟩
  have H1 := Lib.hid hb1
  clear hb1
  by_cases h30 : 30 < n
  · have z : ((30 : Int) < n) := by omega
    go_wp2_with fail
    go_ret
    exact ⟨rfl, H1.out⟩
  · have z : ¬ ((30 : Int) < n) := by omega
    go_wp2_with fail
    go_loopg [5, 6, 20] n (fun gn vb vw i wr => ∃ (j : Nat) (R : List RV) (G : List FV), j ≤ n ∧ gn = n - j ∧ i = .int .i64 j ∧ Hid (LaidS w j vb vw R G wr))
    case atStart => exact ⟨0, [], [], by omega, by omega, by go_num, Lib.hid ⟨rfl, (fun r h => by cases h), World.ownsRow_nil _ _ _ _, Founds.nil _ _, (fun f h => by cases h), trivial, H1.out⟩⟩
    case round =>
      obtain ⟨j, R, G, hj, rfl, rfl, HL⟩ := hrel
      by_cases hlt : j < n
      · obtain ⟨b, off, rfl, hb, hrr⟩ := HR.out (by omega)
        obtain ⟨k, t, kb, y, m, cm, ds, c, hA⟩ := hrr j hlt
        have hA2 := hA.below HL.out.below
        obtain ⟨c0, c1, c2, c3, c4, kw, tw, cw, hsl, hmc⟩ := hA2
        have HSL := Lib.hid hsl
        have HK := Lib.hid kw
        have HT := Lib.hid tw
        have HCW := Lib.hid cw
        have HA := Lib.hid hA
        have htb : 0 ≤ t ∧ t < 4294967296 := by have h := bounds_u32 tw; omega
        obtain ⟨va, vc, rfl⟩ : ∃ a c, u5 = .slice a (total R) c := by
          rcases HL.out.row.2 with ⟨rfl, h0⟩ | ⟨g, cap, cur, rfl, _⟩
          · exact ⟨none, 0, by rw [h0]⟩
          · exact ⟨_, _, rfl⟩
        clear hrr hA hsl kw tw cw
        go_wp2_with fail
        refine (refRight5_all _ k t kb y m cm c (bounds_i64 HK.out) htb.1 (bounds_i64 HCW.out)).mono ?_
        rintro e w3 ⟨rfl, hb3⟩
        have K3 := Lib.hid (show Blk5 w3 wr.heap.size (.int .i64 k) (.int .u32 t) (.string ⟨kb.toArray⟩) (.slice y m cm) (.int .i64 c) 28 from Blk5.below (heap_alloc_last wr _) hb3)
        have HB3 := Lib.hid (((Below.refl wr.heap.size wr).alloc (Nat.le_refl _) (.cells #[.int .i64 k, .int .u32 t, .string ⟨kb.toArray⟩, .slice y m cm, .int .i64 c] 28)).trans (hb3.mono (by simp)))
        clear hb3
        obtain ⟨p0, p1, p2, p3, p4, f0, f1, f2, f3, f4, lt1⟩ := K3.out.box
        have HE3 := Lib.hid (HL.out.below.trans (HB3.out.mono HL.out.below.size))
        cases hro : recOk k t kb.length m c with
        | false =>
          go_wp2_with fail
          go_ret
          exact ⟨rfl, HE3.out⟩
        | true =>
          by_cases h200 : 200 < m
          · have z2 : (200 : Int) < m := by omega
            go_wp2_with fail
            go_ret
            exact ⟨rfl, HE3.out⟩
          · have z2 : ¬ (200 : Int) < m := by omega
            obtain ⟨u, t, c, rfl, rfl, rfl, ht1, hk64, hb4⟩ := recOk_nums hro htb.2
            have hml := HSL.out.1
            obtain ⟨p, hp⟩ : ∃ p, p = 12 + total R := ⟨_, rfl⟩
            have hts := total_small HL.out.ok
            rw [HL.out.len] at hts
            have e12 : (12 : Int) + (total R : Int) = (p : Int) := by omega
            have hpb : p ≤ 65536 := by omega
            have HP := Lib.hid hp
            have HLOW := Lib.hid (show 0 < m → ∃ b off, y = some ⟨b, off, none⟩ ∧ b < w.heap.size from fun h => by
              obtain ⟨b', off', ha', hlt', _⟩ := HA.out.sl.2 h
              exact ⟨b', off', ha', hlt'⟩)
            have HF3 := Lib.hid (HL.out.found.below HB3.out)
            have HS3 := Lib.hid (HSL.out.below HB3.out)
            have HW3 := Lib.hid (own_below HL.out.row HB3.out)
            have HTS := Lib.hid hts
            have HRO := Lib.hid hro
            have HML := Lib.hid hml
            have HT1 := Lib.hid ht1
            clear hp hts hro hml ht1 htb
            go_wp2_with (at_builtin; first
              | (refine wpList_found3 rfl _ _ rfl w.heap.size _ _ G rfl HF3.out ⟨p, u.toNat, t, kb, y, m, cm, c, ds⟩ 1 _ rfl rfl HS3.out hmc (fun h => by obtain ⟨b', off', ha', hlt'⟩ := HLOW.out h; exact ⟨b', off', ha', .inl hlt'⟩) (by omega) HE3.out.size ?_; intro v4 w4 hF4 hb4 hrow4 hblk4; have HF4 := Lib.hid hF4; have HB4 := Lib.hid hb4; have HW4 := Lib.hid (hrow4 _ _ _ HW3.out); have K4 := Lib.hid (show Blk5 w4 wr.heap.size _ _ _ _ _ 28 from hblk4 _ _ _ _ K3.out (by decide)); clear hF4 hb4 hrow4 hblk4; obtain ⟨q0, q1, q2, q3, q4, g0, g1, g2, g3, g4, lt4⟩ := K4.out.box))
            have hr0 := HRO.out
            refine (refBytes5_any w4 u t kb y m cm ds c (HA.out.sl.below (HE3.out.trans HB4.out)) hr0 HT1.out).mono ?_
            rintro e w5 ⟨a5, n5, c5, rfl, hs5, hc5, hb5⟩
            have hl5 := hs5.1
            rw [recB_length] at hl5
            have HS5 := Lib.hid hs5
            have HF5 := Lib.hid (HF4.out.below hb5)
            have HW5 := Lib.hid (own_below HW4.out hb5)
            have HE5 := Lib.hid ((HE3.out.trans HB4.out).trans (hb5.mono (HE3.out.trans HB4.out).size))
            have HLG := Lib.hid (LowBlobs.snoc HL.out.low (f := ⟨p, u.toNat, t, kb, y, m, cm, c, ds⟩) HLOW.out)
            have hn5 : n5 ≤ 65536 := by have := HML.out; omega
            have htp : total R ≤ 65536 := by have := HTS.out; omega
            have HL5 := Lib.hid hl5
            clear hs5 hb5 hl5
            go_wp2_with (at_builtin; first
              | (refine wpList_app_lit oneB rfl _ _ rfl w.heap.size _ _ _ rfl HW6.out _ 1 _ rfl rfl rfl (by omega) (by unfold maxLen; omega) HE6.out.size ?_; intro v7 w7 hown7 hg7 hb7; have HF7 := Lib.hid (Founds.grown (HF6.out.below ((Below.refl _ _).alloc (Nat.le_refl _) _)) HLG.out (HW6.out.alloc _) hg7 (below_app (Below.refl _ _) (Nat.le_trans HE6.out.size (by simp)) (HW6.out.alloc _) hg7)); have HW7 := Lib.hid hown7; have HE7 := Lib.hid (HE6.out.trans hb7); clear hown7 hg7 hb7)
              | (refine wpList_app1 oneB rfl _ _ _ rfl w.heap.size _ _ _ rfl HW5.out _ _ _ rfl (HS5.out.src encB_cell Try.underlying24 _) (by omega) (by unfold maxLen; omega) HE5.out.size ?_; intro v6 w6 hown6 hg6 hb6; have HF6 := Lib.hid (HF5.out.grown HLG.out HW5.out hg6 hb6); have HW6 := Lib.hid hown6; have HE6 := Lib.hid (HE5.out.trans hb6); clear hown6 hg6 hb6))
            have HN := Lib.hid (show LaidS w (j + 1) v7 v4 (R ++ [⟨u, t, kb, ds, c⟩]) (G ++ [⟨p, u.toNat, t, kb, y, m, cm, c, ds⟩]) w7 from by
              have h1 := HL5.out
              have h2 := HML.out
              refine ⟨by simp [HL.out.len], fun r hr => ?_, ?_, HF7.out, HLG.out, HL.out.tells.snoc ⟨HP.out, rfl, rfl, rfl, rfl, rfl⟩, HE7.out⟩
              · rcases List.mem_append.1 hr with hr | hr
                · exact HL.out.ok r hr
                · rw [List.mem_singleton.1 hr]
                  exact ⟨⟨by rw [← h2] at hr0; exact hr0, HT1.out⟩, by unfold RV.len; simp only; omega⟩
              · have h := HW7.out
                have e1 : total R + n5 + 1 = total (R ++ [⟨u, t, kb, ds, c⟩]) := by rw [total_append]; simp only [total, RV.len]; omega
                rw [e1] at h
                rw [show List.map encB ((R ++ [(⟨u, t, kb, ds, c⟩ : RV)]).flatMap RV.bytes) = List.map encB (R.flatMap RV.bytes) ++ List.map encB (recB u t kb ds c) ++ [.int .u8 0] by simp [List.flatMap_append, RV.bytes, encB]]
                exact h)
            go_roundg (n - (j + 1))
            case measure => omega
            case rel => exact ⟨j + 1, _, _, by omega, rfl, by go_num, HN⟩
      · obtain rfl : j = n := by omega
        obtain ⟨va, vc, rfl⟩ : ∃ a c, u5 = .slice a (total R) c := by
          rcases HL.out.row.2 with ⟨rfl, h0⟩ | ⟨g, cap, cur, rfl, _⟩
          · exact ⟨none, 0, by rw [h0]⟩
          · exact ⟨_, _, rfl⟩
        have hts := total_small HL.out.ok
        rw [HL.out.len] at hts
        obtain ⟨p, hp⟩ : ∃ p, p = 12 + total R := ⟨_, rfl⟩
        have e12 : (12 : Int) + (total R : Int) = (p : Int) := by omega
        have hpb : p ≤ 65536 := by omega
        have HP := Lib.hid hp
        have HTS := Lib.hid hts
        clear hp hts
        obtain ⟨hx0, hx1⟩ := bounds_u8 HX.out
        obtain ⟨x', rfl⟩ : ∃ x' : Nat, x = x' := ⟨x.toNat, by omega⟩
        go_wp2_with fail
        go_loopg [5, 52] x' (fun gn vb i wx => ∃ q : Nat, q ≤ x' ∧ gn = x' - q ∧ i = .int .u8 q ∧ Hid (wx.ownsRow w.heap.size 5 1 vb (total R + q) ((R.flatMap RV.bytes ++ List.replicate q 255).map encB)) ∧ Hid (Founds wx w.heap.size u6 j G) ∧ Hid (Below w.heap.size w wx))
        case atStart => exact ⟨0, by omega, by omega, by go_num, Lib.hid (by simpa using HL.out.row), Lib.hid HL.out.found, Lib.hid HL.out.below⟩
        case round =>
          obtain ⟨q, hq, rfl, rfl, HW, HF, HB⟩ := hrel
          by_cases hlq : q < x'
          · have hts2 : total R + q ≤ 70000 := by have h := HP.out; omega
            go_wp2_with (at_builtin; first
              | (refine wpList_app_lit oneB rfl _ _ rfl w.heap.size _ _ _ rfl HW.out _ 1 _ rfl rfl rfl (by omega) (by unfold maxLen; omega) HB.out.size ?_; intro v7 w7 hown7 hg7 hb7; have HF7 := Lib.hid (Founds.grown (HF.out.below ((Below.refl _ _).alloc (Nat.le_refl _) _)) HL.out.low (HW.out.alloc _) hg7 (below_app (Below.refl _ _) (Nat.le_trans HB.out.size (by simp)) (HW.out.alloc _) hg7)); have HW7 := Lib.hid hown7; have HE7 := Lib.hid (HB.out.trans hb7); clear hown7 hg7 hb7))
            go_roundg (x' - (q + 1))
            case measure => omega
            case rel => exact ⟨q + 1, by omega, rfl, by go_num, Lib.hid (by have h := HW7.out; rw [show total R + (q + 1) = total R + q + 1 by omega, List.replicate_succ', ← List.append_assoc, List.map_append]; exact h), HF7, HE7⟩
          · obtain rfl : q = x' := by omega
            have hsz : total R + q ≤ 65536 := by have h1 := HTS.out; omega
            obtain ⟨vs, vsc, rfl⟩ : ∃ a c, u5 = .slice a (total R + q) c := by
              rcases HW.out.2 with ⟨rfl, h0⟩ | ⟨g, cap, cur, rfl, _⟩
              · exact ⟨none, 0, by rw [h0]⟩
              · exact ⟨_, _, rfl⟩
            go_wp2_with fail
            obtain ⟨hs8, hc8⟩ := Sl.ofOwnS HW.out
            refine (sector_any wr vs (total R + q) vsc _ hs8 hsz).mono ?_
            rintro e w8 ⟨a8, c8, rfl, hs9, hc9, hb9⟩
            have hsec : Sl encB w8 a8 (12 + (total R + q)) (sectorB hdB R q) := by unfold sectorB; rw [List.append_assoc]; exact hs9
            have hP := Scan_whole w8 a8 (12 + (total R + q)) c8 hdB R q hdB_length hsec (by have h1 := HTS.out; omega) hc9 (fun r hr => (HL.out.ok r hr).1) 8 (by decide) hdB_eight
            have H8 := Lib.hid (HB.out.trans (hb9.mono HB.out.size))
            have HF8 := Lib.hid (HF.out.below hb9)
            clear hsec hs9 hc9 hb9 hs8
            go_wp2_with fail
            refine hP.mono ?_
            clear hP
            rintro e w9 ⟨v9, F9, rfl, hF9, hT9, hb10⟩
            rw [HL.out.len] at hF9
            rw [← HP.out]
            have H9 := Lib.hid (H8.out.trans (hb10.mono H8.out.size))
            have hS := Same6_yes w9 w8.heap.size w.heap.size v9 u6 j F9 G hF9 (HF8.out.below hb10) (by have h1 := HTS.out; omega) (hT9.same HL.out.tells)
            clear hF9 hT9 hb10
            go_wp2_with fail
            refine hS.mono ?_
            rintro e w10 ⟨rfl, hb11⟩
            have H10 := Lib.hid (H9.out.trans (hb11.mono H9.out.size))
            clear hb11 hS
            go_wp2_with fail
            go_ret
            exact ⟨rfl, H10.out⟩
theorem walk_ScanWhole (a : Option Addr) (n cap : Nat) (x : Int) (w : World) (h0 : IsRecs w a n cap) (h1 : (Lit.int .u8 x).wf = true) :
    Calls Try.prog 3 #[.slice a n cap, .int .u8 x] w fun e w' => e = .returned (.bool true) ∧ Below w.heap.size w w' := walk0_ScanWhole w a n cap x h0 h1
end Go.Proofs.Ytechkdnoekffmaa
/- scan: what is torn is never whole. No condition. -/
namespace Go.Proofs.Ytechkdnoekffmaa
open Go.ChangeShapes Go.WideShapes Go.ChangeAt Go.RowKit
def keyN (X : List UInt8) : Nat := getN ((X.drop 5).take 1)
def blobN (X : List UInt8) : Nat := getN ((X.drop 6).take 2)
def sizeN (X : List UInt8) : Nat := 11 + keyN X + blobN X + 5
/-- A record that isn't whole, or none: its size, what is wrong. -/
def NotWhole (sz : Nat) (er : Int) (w : World) (e : Ending) (w' : World) : Prop :=
  ∃ (kd tx : Int) (kb : ByteArray) (a : Option Addr) (m c : Nat) (ct : Int), e = .returned (.tuple #[recV kd tx kb a m c ct, .int .i64 sz, .bool false, .int .i64 er]) ∧ Below w.heap.size w w'
theorem NotWhole.no {sz : Int} {s : Nat} {er : Int} {w : World} {e : Ending} {w' : World} (h : ParseNo sz er w e w') (hs : sz = s) : NotWhole s er w e w' := by
  subst hs
  exact ⟨0, 0, _, none, 0, 0, 0, h.1, h.2⟩
theorem Parse_torn (w : World) (a : Option Addr) (n cap : Nat) (X : List UInt8) (hs : Sl encB w a n X) (hn : n ≤ 65536) (hcap : n ≤ cap) (h0 : 0 < n) (h1 : X.getD 0 0 ≠ 255) (hL : 11 ≤ n → sizeN X ≤ n → X.getD (sizeN X - 1) 0 ≠ 0) :
    ∃ (sz : Nat) (er : Int), Calls Try.prog 15 #[.slice a n cap] w (NotWhole sz er w) ∧ (er ≠ 0 ∨ (er = 0 ∧ sz = sizeN X ∧ 11 ≤ n ∧ sizeN X ≤ n)) := by
  by_cases h11 : n < 11
  · exact ⟨0, 6, (Parse_short w a n cap X hs h0 h1 h11).mono fun e w' h => NotWhole.no h rfl, .inl (by decide)⟩
  have hl : X.length = n := hs.1
  by_cases h9 : crcN (X.take 9) / 256 = (X.getD 9 0).toNat
  case neg => exact ⟨0, 7, (Parse_sum1 w a n cap X hs hn hcap h1 (by omega) h9).mono fun e w' h => NotWhole.no h rfl, .inl (by decide)⟩
  by_cases h10 : crcN (X.take 9) % 256 = (X.getD 10 0).toNat
  case neg => exact ⟨0, 7, (Parse_sum2 w a n cap X hs hn hcap h1 (by omega) h9 h10).mono fun e w' h => NotWhole.no h rfl, .inl (by decide)⟩
  cases hr : recOk (getN ((X.drop 0).take 1)) (getN ((X.drop 1).take 4)) (getN ((X.drop 5).take 1)) (getN ((X.drop 6).take 2)) (getN ((X.drop 8).take 1)) with
  | false => exact ⟨0, 8, (Parse_form w a n cap X hs hn hcap h1 (by omega) h9 h10 hr).mono fun e w' h => NotWhole.no h rfl, .inl (by decide)⟩
  | true =>
  by_cases hsz : n < 11 + getN ((X.drop 5).take 1) + getN ((X.drop 6).take 2) + 5
  · exact ⟨0, 6, (Parse_short2 w a n cap X hs hn hcap h1 (by omega) h9 h10 hr hsz).mono fun e w' h => NotWhole.no h rfl, .inl (by decide)⟩
  have hsz' : 11 + getN ((X.drop 5).take 1) + getN ((X.drop 6).take 2) + 5 ≤ n := by omega
  by_cases hsum : sumN (X.take (11 + getN ((X.drop 5).take 1) + getN ((X.drop 6).take 2))) = getN ((X.drop (11 + getN ((X.drop 5).take 1) + getN ((X.drop 6).take 2))).take 4)
  case neg => exact ⟨sizeN X, 0, (Parse_bad w a n cap X hs hn hcap h1 (by omega) h9 h10 hr hsz' hsum).mono fun e w' h => NotWhole.no h (by unfold sizeN keyN blobN; omega), .inr ⟨rfl, rfl, by omega, hsz'⟩⟩
  refine ⟨sizeN X, 0, (Parse_good w a n cap X hs hn hcap h1 (by omega) h9 h10 hr hsz' hsum).mono fun e w' h => ?_, .inr ⟨rfl, rfl, by omega, hsz'⟩⟩
  obtain ⟨a', m, c, he, _, hb⟩ := h
  have hlast := hL (by omega) hsz'
  have hb1 : (((getN ((X.drop (11 + getN ((X.drop 5).take 1) + getN ((X.drop 6).take 2) + 4)).take 1) : Nat) : Int) == 0) = false := by
    have hlt : sizeN X - 1 < X.length := by unfold sizeN keyN blobN; omega
    have e1 : (X.drop (11 + getN ((X.drop 5).take 1) + getN ((X.drop 6).take 2) + 4)).take 1 = [X.getD (sizeN X - 1) 0] := by
      rw [show 11 + getN ((X.drop 5).take 1) + getN ((X.drop 6).take 2) + 4 = sizeN X - 1 by unfold sizeN keyN blobN; omega]
      rw [List.drop_eq_getElem_cons hlt, List.getD_eq_getElem?_getD, List.getElem?_eq_getElem hlt]
      rfl
    rw [e1]
    have e2 : getN [X.getD (sizeN X - 1) 0] = (X.getD (sizeN X - 1) 0).toNat := by simp [getN]
    rw [e2]
    have e3 : (X.getD (sizeN X - 1) 0).toNat ≠ 0 := fun h => hlast (UInt8.toNat_inj.1 (by simpa using h))
    simpa using e3
  rw [hb1] at he
  rw [show (11 : Int) + (getN ((X.drop 5).take 1) : Int) + (getN ((X.drop 6).take 2) : Int) + 5 = ((sizeN X : Nat) : Int) by unfold sizeN keyN blobN; omega] at he
  exact ⟨_, _, _, a', m, c, _, he, hb⟩
/-- Bytes cut behind i, the byte there with some bits more. -/
def tornB (B : List UInt8) (i : Nat) (mask : UInt8) : List UInt8 := B.take i ++ [B.getD i 0 ||| mask]
/-- Bytes that tell no record. -/
def TailOk (T : List UInt8) : Prop :=
  (∀ j, j < T.length → T.getD j 0 = 255) ∨ (T.getD 0 0 ≠ 255 ∧ 0 < T.length ∧ (11 ≤ T.length → sizeN T ≤ T.length → T.getD (sizeN T - 1) 0 ≠ 0 ∧ ∀ j, sizeN T ≤ j → j < T.length → T.getD j 0 = 255))
theorem size_of_head {X Y : List UInt8} (h : X.take 11 = Y.take 11) : sizeN X = sizeN Y := by
  have e : ∀ (Z : List UInt8) (a k : Nat), a + k ≤ 11 → (Z.drop a).take k = ((Z.take 11).drop a).take k := by
    intro Z a k hk
    rw [List.drop_take, List.take_take, Nat.min_eq_left (by omega)]
  unfold sizeN keyN blobN
  rw [e X 5 1 (by omega), e X 6 2 (by omega), e Y 5 1 (by omega), e Y 6 2 (by omega), h]
theorem torn_tail (r : RV) (hok : r.ok) (i : Nat) (hi : i < r.len) (mask : UInt8) (hx : ¬ (i + 1 = r.len ∧ mask = 0)) : TailOk (tornB r.bytes i mask ++ [255, 255]) := by
  obtain ⟨hro, _⟩ := hok
  have hd := of_decide_eq_true hro
  have hbl := r.bytes_length
  have hlen : (tornB r.bytes i mask).length = i + 1 := by unfold tornB; simp; omega
  have htl : (tornB r.bytes i mask ++ [255, 255]).length = i + 3 := by simp [hlen]
  have hpast : ∀ j, i < j → j < i + 3 → (tornB r.bytes i mask ++ [255, 255]).getD j 0 = 255 := by
    intro j h1 h2
    rw [List.getD_eq_getElem?_getD, List.getElem?_append_right (by omega), hlen]
    have : j - (i + 1) = 0 ∨ j - (i + 1) = 1 := by omega
    rcases this with h | h <;> rw [h] <;> rfl
  have hat : (tornB r.bytes i mask ++ [255, 255]).getD i 0 = r.bytes.getD i 0 ||| mask := by
    rw [List.getD_eq_getElem?_getD, List.getElem?_append_left (by omega)]
    unfold tornB
    rw [List.getElem?_append_right (by simp; omega)]
    simp only [List.length_take, hbl, Nat.min_eq_left (show i ≤ r.len by omega), Nat.sub_self]
    rfl
  have hfirst : r.bytes.getD 0 0 = r.u := by unfold RV.bytes recB recBody recHd; simp
  by_cases h0 : i = 0
  · subst h0
    by_cases h255 : r.bytes.getD 0 0 ||| mask = 255
    · left
      intro j hj
      by_cases hj0 : j = 0
      · subst hj0; rw [hat, h255]
      · exact hpast j (by omega) (by omega)
    · right
      refine ⟨by rw [hat]; exact h255, by omega, fun h => by omega⟩
  · right
    have hz : (tornB r.bytes i mask ++ [255, 255]).getD 0 0 = r.u := by
      rw [List.getD_eq_getElem?_getD, List.getElem?_append_left (by omega)]
      unfold tornB
      rw [List.getElem?_append_left (by simp; omega), List.getElem?_take, if_pos (by omega), ← List.getD_eq_getElem?_getD, hfirst]
    refine ⟨?_, by omega, fun h11 hsz => ?_⟩
    · rw [hz]
      intro h
      rw [h] at hd
      have e : UInt8.toNat 255 = 255 := rfl
      rw [e] at hd
      omega
    · rw [htl] at h11 hsz
      have h16 : 16 ≤ sizeN (tornB r.bytes i mask ++ [255, 255]) := by unfold sizeN; omega
      have h12 : (tornB r.bytes i mask ++ [255, 255]).take 11 = (r.bytes).take 11 := by
        unfold tornB
        rw [List.append_assoc, List.take_append_of_le_length (by simp; omega), List.take_take, Nat.min_eq_left (by omega)]
      have hse : sizeN (tornB r.bytes i mask ++ [255, 255]) = r.len := by
        rw [size_of_head h12]
        unfold sizeN keyN blobN RV.bytes
        rw [rec_key (u := r.u) (t := r.t) (kb := r.kb) (bs := r.bs) (c := r.c) (rest := [0]) (by omega), rec_blob (u := r.u) (t := r.t) (kb := r.kb) (bs := r.bs) (c := r.c) (rest := [0]) (by omega)]
        rfl
      rw [hse] at hsz ⊢
      refine ⟨?_, fun j h1 h2 => hpast j (by omega) (by omega)⟩
      by_cases hlast : i + 1 = r.len
      · rw [show r.len - 1 = i by omega, hat]
        have hb0 : r.bytes.getD i 0 = 0 := by
          unfold RV.bytes
          rw [List.getD_eq_getElem?_getD, List.getElem?_append_right (by rw [recB_length]; unfold RV.len at hlast; omega), recB_length, show i - (15 + r.kb.length + r.bs.length) = 0 by unfold RV.len at hlast; omega]
          rfl
        rw [hb0]
        have : (0 : UInt8) ||| mask = mask := by simp
        rw [this]
        exact fun h => hx ⟨hlast, h⟩
      · rw [hpast _ (by omega) (by omega)]
        decide
theorem torn_split (R : List RV) (k : Nat) (hk : k < total R) (mask : UInt8) : ∃ (j : Nat) (hj : j < R.length) (i : Nat), k = total (R.take j) + i ∧ i < (R[j]).len ∧ tornB (R.flatMap RV.bytes) k mask = (R.take j).flatMap RV.bytes ++ tornB (R[j]).bytes i mask := by
  induction R generalizing k with
  | nil => simp [total] at hk
  | cons r R ih =>
    by_cases h : k < r.len
    · refine ⟨0, by simp, k, by simp [total], h, ?_⟩
      simp only [List.take_zero, List.flatMap_nil, List.nil_append, List.getElem_cons_zero, List.flatMap_cons]
      unfold tornB
      rw [List.take_append_of_le_length (by rw [RV.bytes_length]; omega), List.getD_eq_getElem?_getD, List.getElem?_append_left (by rw [RV.bytes_length]; exact h), ← List.getD_eq_getElem?_getD]
    · obtain ⟨j, hj, i, h1, h2, h3⟩ := ih (k - r.len) (by simp only [total] at hk; omega)
      refine ⟨j + 1, by simp; omega, i, ?_, by simpa using h2, ?_⟩
      · simp only [List.take_succ_cons, total]; omega
      · simp only [List.take_succ_cons, List.flatMap_cons, List.getElem_cons_succ]
        rw [List.append_assoc, ← h3]
        unfold tornB
        have hb := r.bytes_length
        rw [List.take_append, List.take_of_length_le (by omega), hb, List.getD_eq_getElem?_getD, List.getElem?_append_right (by omega), hb, ← List.getD_eq_getElem?_getD, List.append_assoc]
/-- What is laid in part is a beginning of the records, and bytes that tell none. -/
theorem torn_all (L : List RV) (cm : RV) (hL : ∀ r ∈ L, r.ok) (hc : cm.ok) (k : Nat) (mask : UInt8) (hk : k < total (L ++ [cm])) (hx : ¬ (k + 1 = total (L ++ [cm]) ∧ mask = 0)) :
    ∃ (q : Nat) (T : List UInt8), q ≤ L.length ∧ tornB ((L ++ [cm]).flatMap RV.bytes) k mask ++ [255, 255] = (L.take q).flatMap RV.bytes ++ T ∧ TailOk T := by
  obtain ⟨j, hj, i, h1, h2, h3⟩ := torn_split (L ++ [cm]) k hk mask
  have hj' : j ≤ L.length := by simp at hj; omega
  have hjt : (L ++ [cm]).take j = L.take j := List.take_append_of_le_length hj'
  have hok : ((L ++ [cm])[j]).ok := by
    have hm := List.getElem_mem hj
    rcases List.mem_append.1 hm with h | h
    · exact hL _ h
    · rw [List.mem_singleton.1 h]; exact hc
  by_cases hw : i + 1 = ((L ++ [cm])[j]).len ∧ mask = 0
  · have hjl : j + 1 ≤ L.length := by
      rcases Nat.lt_or_ge j L.length with h | h
      · omega
      · exfalso
        have hje : j = L.length := by omega
        apply hx
        refine ⟨?_, hw.2⟩
        have ht := take_total (L ++ [cm]) j hj
        rw [List.take_of_length_le (by simp; omega)] at ht
        omega
    refine ⟨j + 1, [255, 255], hjl, ?_, .inl (fun x hx => ?_)⟩
    · have hjx : (L ++ [cm])[j] = L[j]'(by omega) := List.getElem_append_left (by omega)
      have e1 : tornB ((L ++ [cm])[j]).bytes i mask = ((L ++ [cm])[j]).bytes := by
        rw [hw.2]
        unfold tornB
        have hb := ((L ++ [cm])[j]).bytes_length
        have hlt : i < ((L ++ [cm])[j]).bytes.length := by omega
        have : ∀ x : UInt8, x ||| 0 = x := by intro x; simp
        rw [this, List.getD_eq_getElem?_getD, List.getElem?_eq_getElem hlt]
        conv => rhs; rw [← List.take_append_drop i ((L ++ [cm])[j]).bytes]
        rw [List.drop_eq_getElem_cons hlt, List.drop_eq_nil_of_le (by omega)]
        rfl
      rw [h3, e1, hjt, hjx, List.take_succ_eq_append_getElem (by omega), List.flatMap_append]
      simp
    · have : x = 0 ∨ x = 1 := by simp at hx; omega
      rcases this with rfl | rfl <;> rfl
  · refine ⟨j, _, hj', ?_, torn_tail _ hok i h2 mask hw⟩
    rw [h3, hjt, List.append_assoc]
end Go.Proofs.Ytechkdnoekffmaa
