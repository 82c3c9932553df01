/- sha: the parts. No condition. -/
import Derived.Test.YtkcpblfdmfkppaaShaFix
import Derived.Test.YtkcpblfdmfkppaaBssOpen
namespace Go.Proofs.Ytkcpblfdmfkppaa
open Go.ChangeShapes Go.WideShapes Go.ChangeAt Go.RowKit
set_option maxHeartbeats 4000000 in
set_option maxRecDepth 100000 in
theorem Write_nil (w : World) (x : Option Addr) (n cx : Nat) :
    Calls Try.prog 10 #[.pointer none, .slice x n cx] w fun e w' => e = .returned (.tuple #[]) ∧ w' = w := by
  go_enter Try.func10, Try.ntmps10
  go_wp2_with fail
  refine bodyPost_ret (results_none rfl _ _ _) rfl ⟨rfl, rfl⟩
/-- Where a row lies behind append. -/
theorem append_where {P : Program} {w : World} (base : Nat) (t tx ty e : TypeId) (i : TypeInfo) (z : Value) (ht : P.underlying t = some (.slice e)) (hi : P.info? e = some i) (hz : i.zero = some z)
    (v : Value) (n : Nat) (xs : List Value) (hown : w.ownsRow base e i.size v n xs)
    (x : Value) (m : Nat) (news : List Value) (hs : Src P i.size tx x m news w) (h63 : n + m ≤ maxLen) (hbytes : (n + m) * i.bytes ≤ 140737488355328) (v' : Value) (w' : World) (hrun : (Builtin.append_ #[t, tx] ty #[v, x]).run P w = .ok v' w') :
    v'.ownBlock = v.ownBlock ∨ ∃ r, v'.ownBlock = some r ∧ w.heap.size ≤ r := by
  have hsmall : n + m ≤ 9223372036854775807 := by simp only [maxLen] at h63; omega
  have hl := hs.newsLen
  rcases hown.2 with ⟨rfl, rfl⟩ | ⟨g, cap, cur, rfl, hbg, hg, hnc, hcm, hcs, htake⟩
  · by_cases hm : m = 0
    · subst hm
      have hn : news = [] := List.eq_nil_of_length_eq_zero (by simpa using hl)
      subst hn
      rw [run_append_nothing t tx ty e i ht hi x [] hs] at hrun
      cases hrun
      exact .inl rfl
    · have hr := run_append_grow_src (P := P) w t tx ty e i z ht hi hz none 0 0 [] (by simp [Builtin.firstCells]) x m news hs (by omega) (by omega) (growslice_fits (by omega) hbytes)
      rw [hr] at hrun
      cases hrun
      exact .inr ⟨w.heap.size, rfl, Nat.le_refl _⟩
  · by_cases hroom : n + m ≤ cap
    · have hfit : n * i.size + news.length ≤ cur.size := by rw [hl, hcs, ← Nat.add_mul]; exact Nat.mul_le_mul_right _ hroom
      rw [run_append_room_own (P := P) t tx ty e i ht hi g n cap cur hg x m news hs hroom hfit] at hrun
      cases hrun
      exact .inl rfl
    · have holds : ∀ j u, xs[j]? = some u → w.drew.cell? ((⟨g, 0, none⟩ : Addr).add j) = some u := hown.cells (g := g) rfl
      have hr := run_append_grow_src (P := P) w t tx ty e i z ht hi hz (some ⟨g, 0, none⟩) n cap xs (run_firstCells_some w.drew i.size n ⟨g, 0, none⟩ n cap xs hown.1 holds) x m news hs (by omega) (by omega) (growslice_fits (by omega) hbytes)
      rw [hr] at hrun
      cases hrun
      exact .inr ⟨w.heap.size, rfl, Nat.le_refl _⟩
theorem wpList_app1W {t e : TypeId} {z : Value} {bytes : Nat} (hO : OneE t e z bytes) {w : World} {ops : Array Oper} {rest : List Oper} {o : Oper} {a : Act} {Q : Exit → Act → World → Prop} (hgd : Region.wanted o (yielded ops a.tmps) = true) (s x : Operand) (tx : TypeId)
    (ho : o.op = .call { callee := .builtin .append, args := #[s, x], argTypes := #[t, tx] })
    (base : Nat) (v : Value) (n : Nat) (xs : List Value) (hv : a.eval s = v) (hown : w.ownsRow base e 1 v n xs)
    (y : Value) (m : Nat) (news : List Value) (hy : a.eval x = y) (hs : Src Try.prog 1 tx y m news w) (hlen : (n + m) * bytes ≤ 140737488355328) (hm : n + m ≤ maxLen) (hbase : base ≤ w.heap.size)
    (h : ∀ v' w', w'.ownsRow base e 1 v' (n + m) (xs ++ news) → w.grownBy w' v.ownBlock → Below base w w' → (v'.ownBlock = v.ownBlock ∨ ∃ r, v'.ownBlock = some r ∧ w.heap.size ≤ r) → wpList Try.prog ops Q rest (a.put o.dst v') w') : wpList Try.prog ops Q (o :: rest) a w := by
  obtain ⟨ht, hinf, hz⟩ := hO
  obtain ⟨i0, hi, hz0, hz1, hz2⟩ := info_parts hinf
  obtain ⟨v', w', hr, h2, h3, h4⟩ := run_append_own_src (P := Try.prog) (w := w) base t tx o.type e i0 z 1 bytes ht hi hz0 hz1 hz2 hz v n xs hown y m news hs hm hlen hbase
  have hwh := append_where (P := Try.prog) (w := w) base t tx o.type e i0 z ht hi hz0 v n xs (by rw [hz1]; exact hown) y m news (by rw [hz1]; exact hs) hm (by rw [hz2]; exact hlen) v' w' hr
  refine wpList_step fun K hK => ?_
  rw [if_pos hgd]
  unfold Oper.wp execOp
  simp only [ho, resolve, invoke, builtin, Sem.run_bind, Sem.run_pure, Result.andThen_ok, List.map_toArray, List.map_cons, List.map_nil, hv, hy, hr]
  exact hK _ _ (h v' w' h2 h3 (below_app (Below.refl _ _) hbase hown h3) hwh)
theorem own_lt {w : World} {B : Nat} {e : TypeId} {size : Nat} {v : Value} {n : Nat} {xs : List Value} (h : w.ownsRow B e size v n xs) {b : Nat} (hb : v.ownBlock = some b) : b < w.heap.size ∧ B ≤ b ∧ ∃ cs, w.heap[b]? = some (.cells cs e (0, 0)) := by
  rcases h.2 with ⟨rfl, rfl⟩ | ⟨g, cap, cur, rfl, hbg, hg, _⟩
  · cases hb
  · cases hb
    exact ⟨(Array.getElem?_eq_some_iff.1 hg).1, hbg, cur, hg⟩
theorem own_notH {w : World} {B : Nat} {v : Value} {n : Nat} {xs : List Value} (h : w.ownsRow B 5 1 v n xs) {g : Nat} {u : V8} {s : Value} {z : Nat} (hh : HBlk w g u s z) : v.ownBlock ≠ some g := by
  intro e
  obtain ⟨_, _, cs, hc⟩ := own_lt h e
  unfold HBlk SBlk at hh
  rw [hh] at hc
  injection hc with hc
  injection hc with _ hc
  exact absurd hc (by decide)
/-- A row of so many bytes, whatever they are, that may be written. -/
def RowB (w : World) (v : Value) (n : Nat) : Prop := ∃ g c cur, v = .slice (some ⟨g, 0, none⟩) n c ∧ n ≤ c ∧ w.heap[g]? = some (.cells cur 5 (0, 0)) ∧ ∀ i, i < n → ∃ x : UInt8, cur[i]? = some (encB x)
theorem RowB.of {w : World} {B : Nat} {v : Value} {n : Nat} {bs : List UInt8} (h : w.ownsRow B 5 1 v n (bs.map encB)) (hn : 0 < n) : ∃ g, B ≤ g ∧ v.ownBlock = some g ∧ RowB w v n := by
  have hl : bs.length = n := by have := h.1; simpa using this
  rcases h.2 with ⟨rfl, rfl⟩ | ⟨g, cap, cur, rfl, hb, hg, hnc, hcs, _, ht⟩
  · omega
  · refine ⟨g, hb, rfl, g, cap, cur, rfl, hnc, hg, fun i hi => ?_⟩
    have := h.cells (g := g) rfl i (encB (bs[i]'(by omega))) (by rw [List.getElem?_map, List.getElem?_eq_getElem (by omega)]; rfl)
    refine ⟨bs[i]'(by omega), ?_⟩
    rw [addr_add] at this
    rw [cell_of_row w g (0 + i) _ _ _ hg, Nat.zero_add] at this
    exact this
theorem HashA.grown {w w' : World} {g : Nat} {row : Option Nat} {a : Option Addr} {c : Nat} {bs : List UInt8} (h : HashA w g a c bs) (hg : w.grownBy w' row) (h1 : row ≠ some g) (h2 : 0 < bs.length % 64 → ∀ b o, a = some ⟨b, o, none⟩ → row ≠ some b) : HashA w' g a c bs := by
  cases row with
  | none => exact h.below ⟨hg.os, hg.tape, hg.output, hg.size, fun k hk => hg.block k hk (by simp)⟩
  | some x => exact ⟨SBlk.apart h.blk hg (fun e => h1 (by rw [e])), h.sl.grown (fun hp b o e e2 => h2 hp b o e (by rw [e2])) hg, h.cap⟩
theorem RowB.kept {w w' : World} {v : Value} {n g : Nat} (h : RowB w v n) (hg : w.grownBy w' (some g)) (hne : v.ownBlock ≠ some g) : RowB w' v n := by
  obtain ⟨g', c, cur, rfl, hc, hh, hx⟩ := h
  refine ⟨g', c, cur, rfl, hc, ?_, hx⟩
  rw [hg.block g' (Array.getElem?_eq_some_iff.1 hh).1 (fun e => hne (by rw [← e]; rfl))]
  exact hh
theorem RowB.put {w : World} {g c n i : Nat} (h : RowB w (.slice (some ⟨g, 0, none⟩) n c) n) (hi : i < n) {x : Int} (h0 : 0 ≤ x) (h1 : x < 256) : RowB (w.setCell ⟨g, i, none⟩ (.int .u8 x)) (.slice (some ⟨g, 0, none⟩) n c) n := by
  obtain ⟨g', c', cur, he, hc, hg, hx⟩ := h
  cases he
  refine ⟨g, c, cur.setIfInBounds i (.int .u8 x), rfl, hc, ?_, fun k hk => ?_⟩
  · unfold World.setCell
    simp only [Array.getElem?_modify, hg, Option.map_some, if_true]
    rfl
  · by_cases hki : k = i
    · subst hki
      obtain ⟨y, hy⟩ := hx k hk
      refine ⟨UInt8.ofNat x.toNat, ?_⟩
      rw [Array.getElem?_setIfInBounds_self_of_lt (Array.getElem?_eq_some_iff.1 hy).1, encB_of h0 h1]
    · obtain ⟨y, hy⟩ := hx k hk
      exact ⟨y, by rw [Array.getElem?_setIfInBounds_ne (Ne.symm hki)]; exact hy⟩
theorem RowB.at {w : World} {g c n i : Nat} (h : RowB w (.slice (some ⟨g, 0, none⟩) n c) n) (hi : i < n) : ∃ x : UInt8, w.cell? ⟨g, i, none⟩ = some (.int .u8 (x.toNat : Nat)) ∧ w.frozen? ⟨g, i, none⟩ = false := by
  obtain ⟨g', c', cur, he, hc, hg, hx⟩ := h
  cases he
  obtain ⟨x, hx⟩ := hx i hi
  refine ⟨x, ?_, ?_⟩
  · rw [cell_of_row w g i _ _ _ hg]
    exact hx
  · unfold World.frozen?
    rw [hg]
    rfl
set_option maxHeartbeats 8000000 in
set_option maxRecDepth 100000 in
theorem walk_ShaParts (w : World) (a : Option Addr) (n cap : Nat) (h : IsBss w a n cap) :
    Calls Try.prog 4 #[.slice a n cap] w fun e w' => e = .returned (.bool true) ∧ Below w.heap.size w w' := by
  obtain ⟨hcap, hmax, F, hF, hFf⟩ := h
  have HF := Lib.hid hF
  have HFF := Lib.hid hFf
  have HFX := Lib.hid (fixed_any w)
  have hn0 : (n : Int) ≤ 9223372036854775807 := by unfold maxLen at hmax; omega
  clear hF hFf hmax
  go_enter Try.func4, Try.ntmps4
  go_wp2_with fail
  refine HFX.out.mono ?_
  rintro e w1 ⟨rfl, hb1⟩
  have HB1 := Lib.hid hb1
  clear hb1 HFX
  by_cases h20 : 20 < n
  · have e1 : decide ((20 : Int) < n) = true := by simp; omega
    go_wp2_with fail
    go_ret
    exact ⟨rfl, HB1.out⟩
  · have e1 : decide ((20 : Int) < n) = false := by simp; omega
    go_wp2_with fail
    refine (New_any w1).mono ?_
    rintro e w2 ⟨rfl, hh2, hb2⟩
    have HH2 := Lib.hid hh2
    have HB2 := Lib.hid (HB1.out.trans (hb2.mono HB1.out.size))
    have hgw : w.heap.size ≤ w1.heap.size := HB1.out.size
    clear hh2 hb2 HB1
    generalize w1.heap.size = g at *
    have hn20 : n ≤ 20 := by omega
    clear h20
    go_wp2_with fail
    go_loopg [18, 4] n (fun gn i v wr => ∃ j m a3 c3 T, j ≤ n ∧ gn = n - j ∧ i = .int .i64 j ∧ m ≤ 300 * j ∧ Hid (HashA wr g a3 c3 T) ∧ Hid (wr.ownsRow w.heap.size 5 1 v m (T.map encB)) ∧ Hid (Below w.heap.size w wr) ∧ Hid (0 < T.length % 64 → ∀ b o, a3 = some ⟨b, o, none⟩ → v.ownBlock ≠ some b))
    case atStart => exact ⟨0, 0, none, 0, [], by omega, by omega, by go_num, by omega, HH2, Lib.hid (World.ownsRow_nil _ _ _ _), HB2, Lib.hid (fun h => by simp at h)⟩
    case round =>
      clear HH2 HB2
      obtain ⟨j, m, a3, c3, T, hj, rfl, rfl, hm, HH, HO, HB, HAP⟩ := hrel
      generalize u4 = v at *
      by_cases hlt : j < n
      · have hj1 : (j : Int) < n := by omega
        have hfl := HF.out.1
        obtain ⟨f, hf⟩ : ∃ f, f = F[j]'(by omega) := ⟨_, rfl⟩
        obtain ⟨b0, o0, rfl, hb0, hc0⟩ := (HF.out.below HB.out).2 (by omega)
        have hcj := hc0 j (by omega)
        rw [← hf] at hcj
        have hff := HFF.out f (by rw [hf]; exact List.getElem_mem _)
        obtain ⟨da, dn, dc, ds⟩ := f
        unfold BV.enc at hcj
        simp only at hcj
        have HFW := Lib.hid (show Sl encB w da dn ds from hff.1)
        have HFJ := Lib.hid (HFW.out.below HB.out)
        have hdc : dn ≤ dc := hff.2.1
        have hdm : (dn : Int) ≤ 9223372036854775807 := by have := hff.2.2; unfold maxLen at this; simp only at this; omega
        clear hfl hf hb0 hc0 hff
        by_cases h300 : 300 < dn
        · have e2 : decide ((300 : Int) < dn) = true := by simp; omega
          go_wp2_with fail
          go_ret
          exact ⟨rfl, HB.out⟩
        · have e2 : decide ((300 : Int) < dn) = false := by simp; omega
          have hdn : dn ≤ 300 := by omega
          clear h300
          go_upto_region 12 with fail
          have HO0 := Lib.hid (own_empty wr wr.heap.size 5 (Nat.le_refl _))
          have HBO := Lib.hid ((Below.refl wr.heap.size wr).alloc (Nat.le_refl _) (.cells #[] 5))
          go_wp2_with (at_builtin; refine wpList_app1 oneN rfl _ _ _ rfl wr.heap.size _ _ _ rfl HO0.out _ _ _ rfl ((HFJ.out.below HBO.out).src encB_cell Try.underlying22 _) (by omega) (by unfold maxLen; omega) HBO.out.size ?_; intro v5 w5 hown5 hg5 hb5; have HO5 := Lib.hid hown5; have HB5 := Lib.hid (HBO.out.trans hb5); clear hown5 hg5 hb5)
          have hO5 : w5.ownsRow wr.heap.size 5 1 v5 dn (ds.map encB) := by have h := HO5.out; simpa using h
          have hb5 := HB5.out
          have hHH := HH.out
          have hO := HO.out
          have hB := HB.out
          have hog : v.ownBlock ≠ some g := own_notH hO hHH.blk
          have hglt : g < wr.heap.size := hHH.blk.lt
          have hvlt : ∀ b, v.ownBlock = some b → b < wr.heap.size := fun b e => (own_lt hO e).1
          have hv5 : ∀ b, v5.ownBlock = some b → wr.heap.size ≤ b ∧ b < w5.heap.size := fun b e => ⟨(own_lt hO5 e).2.1, (own_lt hO5 e).1⟩
          have hTm : T.length = m := by have := hO.1; simpa using this
          have hdl : ds.length = dn := by have := hO5.1; simpa using this
          have HRB : 0 < dn → RowB w5 v5 dn := fun h => by obtain ⟨_, _, _, h4⟩ := RowB.of hO5 h; exact h4
          obtain ⟨a5, cx5, rfl, hs5, hc5⟩ := Sl.ofOwn hO5
          refine (Write_any w5 g a3 c3 T (hHH.below hb5) a5 dn cx5 ds hs5 hc5 (by omega)).mono ?_
          rintro e w6 ⟨rfl, a6, c6, hh6, hg6, hr6⟩
          obtain ⟨v5, hv5e⟩ : ∃ v5, v5 = Value.slice a5 dn cx5 := ⟨_, rfl⟩
          rw [← hv5e] at hv5 HRB
          have hO6 : w6.ownsRow w.heap.size 5 1 v m (T.map encB) := (own_below hO hb5).kept hg6 (.inr hog)
          have hB5 := hB.trans (hb5.mono hB.size)
          have hB6 : Below w.heap.size w w6 := grown_below2 hB5 hg6 hB5.size hgw
          have hRB6 : 0 < dn → RowB w6 v5 dn := fun h => (HRB h).kept hg6 (fun e => by have := (hv5 g e).1; omega)
          have hh5 := hb5.size
          have HO6 := Lib.hid hO6
          have HB6 := Lib.hid hB6
          have HRB6 := Lib.hid hRB6
          have HH6 := Lib.hid hh6
          have HR6 := Lib.hid hr6
          have HV5 := Lib.hid (show ∀ b, v5.ownBlock = some b → wr.heap.size ≤ b ∧ b < w5.heap.size from hv5)
          have HV := Lib.hid (And.intro hog hvlt)
          have HTM := Lib.hid (And.intro hTm hdl)
          have HV5E := Lib.hid hv5e
          have HSZ := Lib.hid (And.intro hh5 hglt)
          have HBS := Lib.hid hB.size
          have HLT := Lib.hid (show 0 < T.length % 64 → ∀ b o, a3 = some ⟨b, o, none⟩ → b < wr.heap.size from fun hp b o e => by
            obtain ⟨b', o', h1, h2, _⟩ := hHH.sl.2 hp
            rw [e] at h1
            cases h1
            exact h2)
          obtain ⟨SW, hSW⟩ : ∃ n, n = wr.heap.size := ⟨_, rfl⟩
          rw [← hSW] at HSZ HBS HLT HV HV5
          clear hSW
          clear hO5 hb5 hHH hO hB hog hglt hvlt hv5 hTm hdl HRB hs5 hc5 hO6 hB5 hB6 hRB6 hg6 hh6 hr6 hh5 hv5e HO5 HB5 HO0 HBO HFJ HH HO HB
          go_wp2_with fail
          go_loopg [33] dn (fun gn i wq => ∃ k : Nat, k ≤ dn ∧ gn = dn - k ∧ i = .int .i64 k ∧ Hid (0 < dn → RowB wq v5 dn) ∧ Hid (w6.grownBy wq v5.ownBlock))
          case atStart => exact ⟨0, by omega, by omega, by go_num, HRB6, Lib.hid (World.grownBy.refl _ _)⟩
          case round =>
            clear HRB6
            obtain ⟨k, hk, rfl, rfl, HRB, HGQ⟩ := hrel
            by_cases hkd : k < dn
            · have hk1 : (k : Int) < dn := by omega
              have hrb := HRB.out (by omega)
              rw [HV5E.out] at hrb
              obtain ⟨g5, c5, cur, he, _⟩ := id hrb
              cases he
              obtain ⟨x, cx, fx⟩ := hrb.at hkd
              obtain ⟨y, hy⟩ : ∃ y, y = bits .xor .u8 (x.toNat : Nat) 255 := ⟨_, rfl⟩
              have hy2 := bits_u8 .xor (x.toNat : Nat) 255
              rw [← hy] at hy2
              have hy3 := hy.symm
              have HN1 := Lib.hid (show 0 < dn → RowB (wr.setCell ⟨g5, k, none⟩ (.int .u8 y)) v5 dn from fun _ => by rw [HV5E.out]; exact hrb.put hkd hy2.1 hy2.2)
              have HN2 := Lib.hid (show w6.grownBy (wr.setCell ⟨g5, k, none⟩ (.int .u8 y)) v5.ownBlock by
                have h := HGQ.out
                rw [HV5E.out] at h ⊢
                exact grown_set h)
              generalize x.toNat = xn at *
              clear hrb hy hy2 HRB HGQ
              go_wp2_with fail
              go_roundg (dn - (k + 1))
              case measure => omega
              case rel => exact ⟨k + 1, by omega, rfl, by go_num, HN1, HN2⟩
            · obtain rfl : k = dn := by omega
              have hgq := HGQ.out
              have hV5 := HV5.out
              have hV := HV.out
              have hSZ := HSZ.out
              have hR6 := HR6.out
              have hTM := HTM.out
              have hHq : HashA wr g a6 c6 (T ++ ds) := by
                refine HH6.out.grown hgq (fun e => by have := (hV5 g e).1; have := hSZ.2; omega) (fun hp b o e e2 => ?_)
                rcases hR6 with ⟨h0, rfl⟩ | ⟨r, o', h1, h2⟩
                · have hds : ds = [] := List.eq_nil_of_length_eq_zero (by omega)
                  rw [hds, List.append_nil] at hp
                  have := (hV5 b e2).1
                  have h3 := HLT.out hp b o e
                  omega
                · rw [e] at h1
                  cases h1
                  have := (hV5 b e2).2
                  omega
              have hOq : wr.ownsRow w.heap.size 5 1 v m (T.map encB) := by
                refine HO6.out.kept hgq ?_
                by_cases hn : v.ownBlock = none
                · exact .inl hn
                · refine .inr (fun e => ?_)
                  obtain ⟨b, hb⟩ := Option.ne_none_iff_exists'.1 hn
                  have h1 := hV.2 b hb
                  rw [hb] at e
                  have h2 := (hV5 b e.symm).1
                  omega
              have hBq : Below w.heap.size w wr := HB6.out.grown hgq HB6.out.size (fun k hk => by have := (hV5 k hk).1; have := HBS.out; omega)
              have h6q := hgq.size
              have HHq := Lib.hid hHq
              have HOq := Lib.hid hOq
              have HBq := Lib.hid hBq
              clear hgq hV5 hV hSZ hR6 hTM hHq hOq hBq HGQ HRB
              go_wp2_with (at_builtin; refine wpList_app1W oneN rfl _ _ _ rfl w.heap.size _ _ _ rfl HOq.out _ _ _ rfl ((HFW.out.below HBq.out).src encB_cell Try.underlying22 _) (by omega) (by unfold maxLen; omega) HBq.out.size ?_; intro v7 w7 hown7 hg7 hb7 hwh7; have HO7 := Lib.hid hown7; have HG7 := Lib.hid hg7; have HB7 := Lib.hid (HBq.out.trans hb7); have HWH7 := Lib.hid hwh7; clear hown7 hg7 hb7 hwh7)
              have hg7 := HG7.out
              have hwh := HWH7.out
              have hV5 := HV5.out
              have hV := HV.out
              have hSZ := HSZ.out
              have hR6 := HR6.out
              have hTM := HTM.out
              have hO7 : w7.ownsRow w.heap.size 5 1 v7 (m + k) ((T ++ ds).map encB) := by rw [List.map_append]; exact HO7.out
              have hap : 0 < (T ++ ds).length % 64 → ∀ b o, a6 = some ⟨b, o, none⟩ → v.ownBlock ≠ some b ∧ b < wr.heap.size := by
                intro hp b o e
                obtain ⟨b', o', h1, h2, _⟩ := HHq.out.sl.2 hp
                rw [e] at h1
                cases h1
                refine ⟨fun e2 => ?_, h2⟩
                rcases hR6 with ⟨h0, rfl⟩ | ⟨r, o', h1, h3⟩
                · have hds : ds = [] := List.eq_nil_of_length_eq_zero (by omega)
                  rw [hds, List.append_nil] at hp
                  exact HAP.out hp b o e e2
                · rw [e] at h1
                  cases h1
                  have := hV.2 b e2
                  omega
              have hH7 : HashA w7 g a6 c6 (T ++ ds) := HHq.out.grown hg7 hV.1 (fun hp b o e => (hap hp b o e).1)
              have hAP7 : 0 < (T ++ ds).length % 64 → ∀ b o, a6 = some ⟨b, o, none⟩ → v7.ownBlock ≠ some b := by
                intro hp b o e e2
                obtain ⟨h1, h2⟩ := hap hp b o e
                rcases hwh with h3 | ⟨r, h3, h4⟩
                · rw [h3] at e2
                  exact h1 e2
                · rw [h3] at e2
                  cases e2
                  omega
              have hTl : (T ++ ds).length ≤ 6300 := by rw [List.length_append]; omega
              obtain ⟨T2, hT2⟩ : ∃ T2, T2 = T ++ ds := ⟨_, rfl⟩
              rw [← hT2] at hH7 hAP7 hO7 hTl
              obtain ⟨a7, c7, rfl, hs7, hc7⟩ := Sl.ofOwn hO7
              have HSM := Lib.hid (Sum_any w7 (some ⟨g, 0, none⟩) T2 (.inr ⟨g, a6, c6, rfl, hH7⟩) (by omega))
              obtain ⟨A, hA⟩ : ∃ A, A = ((hashB T2).map encB).toArray := ⟨_, rfl⟩
              rw [← hA] at HSM
              have heq : ∀ w', (Op.equalIn 10000 24 (.agg A) (.agg A)).run Try.prog w' = .ok true w' := by
                intro w'
                have h := run_eql32 w' (hashB T2) (hashB T2) (hashB_length _) (hashB_length _)
                rw [← hA, decide_eq_true rfl] at h
                exact h
              have hgd := guard32
              have HH7 := Lib.hid hH7
              have HO7' := Lib.hid hO7
              have HAP7 := Lib.hid hAP7
              have HS7 := Lib.hid (And.intro hs7 hc7)
              have HA := Lib.hid hA
              have hmk : m + k ≤ 300 * (j + 1) := by omega
              clear hg7 hwh hV5 hV hSZ hR6 hTM hO7 hap hH7 hAP7 hTl hT2 hA hs7 hc7 HO7 HWH7 HG7 HHq HOq HBq HV HV5 HSZ HR6 HTM HAP HO6 HB6 HH6 HV5E HLT HBS
              go_wp2_with fail
              refine HSM.out.mono ?_
              rintro e w8 ⟨rfl, hb8⟩
              have HSB := Lib.hid (SumB_any w8 a7 (m + k) c7 T2 (HS7.out.1.below hb8) HS7.out.2 (by omega))
              rw [← HA.out] at HSB
              replace HH7 := Lib.hid (HH7.out.below hb8)
              replace HO7' := Lib.hid (own_below HO7'.out hb8)
              replace HB7 := Lib.hid (HB7.out.trans (hb8.mono HB7.out.size))
              clear hb8 HSM HS7
              go_wp2_with fail
              refine HSB.out.mono ?_
              rintro e w9 ⟨rfl, hb9⟩
              replace HH7 := Lib.hid (HH7.out.below hb9)
              replace HO7' := Lib.hid (own_below HO7'.out hb9)
              replace HB7 := Lib.hid (HB7.out.trans (hb9.mono HB7.out.size))
              clear hb9 HSB HA
              go_wp2_with fail
              go_roundg (n - (j + 1))
              case measure => omega
              case rel => exact ⟨j + 1, m + k, a6, c6, T2, by omega, rfl, by go_num, hmk, HH7, HO7', HB7, HAP7⟩
      · obtain rfl : j = n := by omega
        obtain ⟨a7, c7, rfl, hs7, hc7⟩ := Sl.ofOwn HO.out
        have hTm : T.length = m := by have := HO.out.1; simpa using this
        have HS7 := Lib.hid (And.intro hs7 hc7)
        have HSM := Lib.hid (fun w' (hb : Below wr.heap.size wr w') => Sum_any w' (some ⟨g, 0, none⟩) T (.inr ⟨g, a3, c3, rfl, HH.out.below hb⟩) (by omega))
        obtain ⟨A, hA⟩ : ∃ A, A = ((hashB T).map encB).toArray := ⟨_, rfl⟩
        obtain ⟨Z, hZ⟩ : ∃ Z, Z = ((hashB []).map encB).toArray := ⟨_, rfl⟩
        rw [← hA] at HSM
        have heq : ∀ w', (Op.equalIn 10000 24 (.agg A) (.agg A)).run Try.prog w' = .ok true w' := by
          intro w'
          have h := run_eql32 w' (hashB T) (hashB T) (hashB_length _) (hashB_length _)
          rw [← hA, decide_eq_true rfl] at h
          exact h
        have heq2 : ∀ w', (Op.equalIn 10000 24 (.agg Z) (.agg Z)).run Try.prog w' = .ok true w' := by
          intro w'
          have h := run_eql32 w' (hashB []) (hashB []) (hashB_length _) (hashB_length _)
          rw [← hZ, decide_eq_true rfl] at h
          exact h
        have hgd := guard32
        have HZ1 := Lib.hid (fun w' => Sum_any w' none [] (.inl ⟨rfl, rfl⟩) (by decide))
        have HZ2 := Lib.hid (fun w' => SumB_any w' none 0 0 [] (Sl.nil _ _) (Nat.le_refl _) (by decide))
        rw [← hZ] at HZ1 HZ2
        have HA := Lib.hid hA
        clear hA hZ hs7 hc7 hTm HAP HO HH
        go_wp2_with fail
        refine (Write_nil wr a7 m c7).mono ?_
        rintro e w4 ⟨rfl, rfl⟩
        go_wp2_with fail
        refine (HSM.out w4 (Below.refl _ _)).mono ?_
        rintro e w5 ⟨rfl, hb5⟩
        have HSB := Lib.hid (SumB_any w5 a7 m c7 T (HS7.out.1.below hb5) HS7.out.2 (by omega))
        rw [← HA.out] at HSB
        have HB5 := Lib.hid (HB.out.trans (hb5.mono HB.out.size))
        clear hb5 HSM HS7
        go_wp2_with fail
        refine HSB.out.mono ?_
        rintro e w6 ⟨rfl, hb6⟩
        have HB6 := Lib.hid (HB5.out.trans (hb6.mono HB5.out.size))
        clear hb6 HSB HB5
        go_wp2_with fail
        refine (HZ1.out w6).mono ?_
        rintro e w7 ⟨rfl, hb7⟩
        have HB7 := Lib.hid (HB6.out.trans (hb7.mono HB6.out.size))
        clear hb7 HB6
        go_wp2_with fail
        refine (HZ2.out w7).mono ?_
        rintro e w8 ⟨rfl, hb8⟩
        have HB8 := Lib.hid (HB7.out.trans (hb8.mono HB7.out.size))
        clear hb8 HB7
        go_wp2_with fail
        go_ret
        exact ⟨rfl, HB8.out⟩
end Go.Proofs.Ytkcpblfdmfkppaa
