/- jar: the reference's Unpack. No condition. -/
import Derived.Test.YtaedohlfcbppaaaJarRef2
namespace Go.Proofs.Ytaedohlfcbppaaa
open Go.ChangeShapes Go.WideShapes Go.ChangeAt Go.RowKit
/-- Where an item of bytes from a place on ends, or what is wrong. -/
theorem itemR_short0 {b : List UInt8} {names : List (List UInt8)} (h : b.length < 1) : (itemR b names).1 = 6 := by unfold itemR; rw [if_pos h]
theorem itemR_short1 {b : List UInt8} {names : List (List UInt8)} (h : ¬ b.length < 1) (h1 : b.length - 1 < (b.getD 0 0).toNat) : (itemR b names).1 = 6 := by unfold itemR; rw [if_neg h, if_pos h1]
theorem itemR_name {b : List UInt8} {names : List (List UInt8)} (h : ¬ b.length < 1) (h1 : ¬ b.length - 1 < (b.getD 0 0).toNat) (h2 : nameOk ((b.drop 1).take (b.getD 0 0).toNat) = false ∨ (b.drop 1).take (b.getD 0 0).toNat ∈ names) : (itemR b names).1 = 8 := by
  unfold itemR; rw [if_neg h, if_neg h1]; simp only; rw [if_pos h2]
theorem itemR_short2 {b : List UInt8} {names : List (List UInt8)} (h : ¬ b.length < 1) (h1 : ¬ b.length - 1 < (b.getD 0 0).toNat) (h2 : ¬ (nameOk ((b.drop 1).take (b.getD 0 0).toNat) = false ∨ (b.drop 1).take (b.getD 0 0).toNat ∈ names))
    (h3 : (b.drop (1 + (b.getD 0 0).toNat)).length < 4 ∨ (b.drop (1 + (b.getD 0 0).toNat)).length - 4 < getN ((b.drop (1 + (b.getD 0 0).toNat)).take 4) + 4) : (itemR b names).1 = 6 := by
  unfold itemR; rw [if_neg h, if_neg h1]; simp only; rw [if_neg h2]
  by_cases h4 : (b.drop (1 + (b.getD 0 0).toNat)).length < 4
  · rw [if_pos h4]
  · rw [if_neg h4, if_pos (h3.resolve_left h4)]
theorem itemR_sum {b : List UInt8} {names : List (List UInt8)} (h : ¬ b.length < 1) (h1 : ¬ b.length - 1 < (b.getD 0 0).toNat) (h2 : ¬ (nameOk ((b.drop 1).take (b.getD 0 0).toNat) = false ∨ (b.drop 1).take (b.getD 0 0).toNat ∈ names))
    (h3 : ¬ (b.drop (1 + (b.getD 0 0).toNat)).length < 4) (h4 : ¬ (b.drop (1 + (b.getD 0 0).toNat)).length - 4 < getN ((b.drop (1 + (b.getD 0 0).toNat)).take 4) + 4) :
    itemR b names = if getN (((b.drop (1 + (b.getD 0 0).toNat)).drop (4 + getN ((b.drop (1 + (b.getD 0 0).toNat)).take 4))).take 4) = sumN (((b.drop (1 + (b.getD 0 0).toNat)).drop 4).take (getN ((b.drop (1 + (b.getD 0 0).toNat)).take 4))) then
      (0, ⟨(b.drop 1).take (b.getD 0 0).toNat, ((b.drop (1 + (b.getD 0 0).toNat)).drop 4).take (getN ((b.drop (1 + (b.getD 0 0).toNat)).take 4))⟩, ((b.drop (1 + (b.getD 0 0).toNat)).drop (4 + getN ((b.drop (1 + (b.getD 0 0).toNat)).take 4))).drop 4)
      else (7, ⟨(b.drop 1).take (b.getD 0 0).toNat, ((b.drop (1 + (b.getD 0 0).toNat)).drop 4).take (getN ((b.drop (1 + (b.getD 0 0).toNat)).take 4))⟩, []) := by
  rw [itemR.eq_1, if_neg h, if_neg h1]; simp only; rw [if_neg h2, if_neg h3, if_neg h4]
theorem items_err {k : Nat} {b : List UInt8} {acc : List IV} {e : Int} (h : (itemR b (acc.map (·.name))).1 = e) (he : e ≠ 0) : finR (itemsR (k + 1) b acc) = (e, []) := by
  have h1 : itemsR (k + 1) b acc = (e, [], []) := by rw [itemsR, if_pos (by rw [h]; exact he), h]
  unfold finR
  rw [h1]
  simp [he]
theorem items_next {k : Nat} {b r : List UInt8} {acc : List IV} {x : IV} (h : itemR b (acc.map (·.name)) = (0, x, r)) : itemsR (k + 1) b acc = itemsR k r (acc ++ [x]) := by
  rw [itemsR, if_neg (by rw [h]; simp), h]
theorem again_names (F : List IW) (f : IW) (nm : List UInt8) : againB (F ++ [f]) F.length nm = decide (nm ∈ F.map IW.name) := by
  unfold againB
  rw [List.take_left, Bool.eq_iff_iff, List.any_eq_true, decide_eq_true_iff, List.mem_map]
  constructor
  · rintro ⟨x, hx, h⟩
    exact ⟨x, hx, by simpa using h⟩
  · rintro ⟨x, hx, h⟩
    exact ⟨x, hx, by simp [h]⟩
theorem own_not_newJ {w : World} {B : Nat} {e : TypeId} {size : Nat} {v : Value} {n : Nat} {xs : List Value} (h : w.ownsRow B e size v n xs) : some w.heap.size ≠ v.ownBlock := by
  intro he
  have := (h.lt _ he.symm).2
  omega
theorem IBlk.grownA {w w' : World} {o : Obj} {row : Option Nat} {b : Nat} {nm : List UInt8} {a : Option Addr} {n c : Nat} (h : IBlk w b nm a n c) (hg : (w.alloc o).grownBy w' row) (hne : some b ≠ row) : IBlk w' b nm a n c := by
  have hlt := (Array.getElem?_eq_some_iff.1 h).1
  unfold IBlk
  rw [hg.block b (by simp; omega) hne, Below.heap_alloc _ _ _ hlt]
  exact h
theorem own_cell1 {w : World} {B x c j : Nat} {F : List IW} {f : IW} (h : w.ownsRow B 36 2 (.slice (some ⟨x, 0, none⟩) (j + 1) c) (j + 1) ((F ++ [f]).flatMap IW.cells)) (hF : F.length = j) : w.cell? ⟨x, j * 2 + 1, none⟩ = some (.slice f.da f.dn f.dc) := by
  obtain ⟨a, c', he, hs, _⟩ := Ss.ofOwn IW.cells_length (by decide) h
  cases he
  obtain ⟨b, off, g, hb, _, hg, _, h1⟩ := Im.at hs j (by omega)
  cases hb
  rw [← hF] at hg
  simp at hg
  subst hg
  simpa using h1
theorem own_sliceJ {w : World} {B : Nat} {e : TypeId} {size : Nat} {v : Value} {n : Nat} {xs : List Value} (h : w.ownsRow B e size v n xs) (hn : 0 < n) : ∃ x c, v = .slice (some ⟨x, 0, none⟩) n c := by
  rcases h.2 with ⟨_, h0⟩ | ⟨g, cap, cur, hv, _⟩
  · omega
  · exact ⟨g, cap, hv⟩
set_option maxRecDepth 100000 in
set_option maxHeartbeats 32000000 in
theorem refUnpack_any (w : World) (a : Option Addr) (n cap : Nat) (bs : List UInt8) (hs : Sl encB w a n bs) (hn : n ≤ 1048576) (hcap : n ≤ cap) : Calls Try.prog 9 #[.slice a n cap] w (UnpackRet (unpackR bs) w) := by
  have HS := Lib.hid hs
  have HLn := Lib.hid hs.1
  obtain ⟨R, hR⟩ : ∃ R, R = unpackR bs := ⟨_, rfl⟩
  rw [← hR]
  have HR := Lib.hid hR
  rw [unpackR.eq_1] at hR
  rw [HLn.out] at hR
  clear hs
  by_cases hl : 65536 < n
  · rw [if_pos hl] at hR
    have HQ := Lib.hid hR
    have e1 : decide ((65536 : Int) < n) = true := by simp; omega
    clear hl hR
    go_enter Try.func9, Try.ntmps9
    go_wp2_with fail
    go_ret2
    exact UnpackRet.err HQ.out (Below.refl _ _)
  rw [if_neg hl] at hR
  have e1 : decide ((65536 : Int) < n) = false := by simp; omega
  by_cases h4 : n < 4
  · rw [if_pos h4] at hR
    have HQ := Lib.hid hR
    have e2 : decide ((n : Int) < 4) = true := by simp; omega
    clear hl h4 hR
    go_enter Try.func9, Try.ntmps9
    go_wp2_with fail
    go_ret2
    exact UnpackRet.err HQ.out (Below.refl _ _)
  rw [if_neg h4] at hR
  have e2 : decide ((n : Int) < 4) = false := by simp; omega
  have cvm := run_conv (HS.out.take (j := 4) (by omega)) cap
  obtain ⟨mg, hmg⟩ : ∃ mg, mg = bs.take 4 := ⟨_, rfl⟩
  rw [← hmg] at hR cvm
  have b4 : (4 : Int) ≤ cap := by omega
  by_cases hm : mg ≠ magicB
  · rw [if_pos hm] at hR
    have HQ := Lib.hid hR
    have e3 : (mg == [67, 74, 48, 49]) = false := by simpa [magicB] using hm
    clear hl h4 hR hm hmg
    go_enter Try.func9, Try.ntmps9
    go_wp2_with fail
    go_ret2
    exact UnpackRet.err HQ.out (Below.refl _ _)
  rw [if_neg hm] at hR
  have e3 : (mg == [67, 74, 48, 49]) = true := by simpa [magicB] using hm
  clear hm hmg
  by_cases h5 : n < 5
  · rw [if_pos h5] at hR
    have HQ := Lib.hid hR
    have e4 : decide ((n : Int) < 5) = true := by simp; omega
    clear hl h4 hR h5
    go_enter Try.func9, Try.ntmps9
    go_wp2_with fail
    go_ret2
    exact UnpackRet.err HQ.out (Below.refl _ _)
  rw [if_neg h5] at hR
  have e4 : decide ((n : Int) < 5) = false := by simp; omega
  obtain ⟨b, off, rfl, hbl, hc⟩ := HS.out.2 (by omega)
  have HC := Lib.hid hc
  have h4l : 4 < bs.length := by rw [HLn.out]; omega
  have q4 := hc 4 h4l
  unfold encB at q4
  obtain ⟨c, hcc⟩ : ∃ c, c = (bs.getD 4 0).toNat := ⟨_, rfl⟩
  have hcc2 : (bs[4]).toNat = c := by rw [hcc]; simp [List.getD, h4l]
  rw [hcc2] at q4
  rw [← hcc] at hR
  have i4 : (4 : Int) < n := by omega
  clear hcc hcc2 hc
  by_cases hc40 : 40 < c
  · rw [if_pos hc40] at hR
    have HQ := Lib.hid hR
    have e5 : decide ((40 : Int) < c) = true := by simp; omega
    clear hl h4 hR h5 hc40
    go_enter Try.func9, Try.ntmps9
    go_wp2_with fail
    go_ret2
    exact UnpackRet.err HQ.out (Below.refl _ _)
  rw [if_neg hc40] at hR
  have HQ4 := Lib.hid q4
  have HRR := Lib.hid (show R = finR (itemsR c (bs.drop 5) []) from hR)
  have e5 : decide ((40 : Int) < c) = false := by simp; omega
  clear hR
  go_enter Try.func9, Try.ntmps9
  go_wp2_with fail
  clear q4 cvm e1 e2 e3 e4 e5 b4
  go_loopg [6, 5, 4] c (fun gn i x v wr => ∃ j p : Nat, ∃ F : List IW, j ≤ c ∧ gn = c - j ∧ i = .int .i64 j ∧ x = .int .i64 p ∧ p ≤ n ∧ Hid (F.length = j) ∧ Hid (wr.ownsRow w.heap.size 36 2 v j (F.flatMap IW.cells)) ∧
    Hid (∀ f ∈ F, wr.ownsRow w.heap.size 5 1 (.slice f.da f.dn f.dc) f.dn (f.data.map encB)) ∧ Hid (Below w.heap.size w wr) ∧ Hid (R = finR (itemsR (c - j) (bs.drop p) (F.map IW.iv))))
  case atStart => exact ⟨0, 5, [], by omega, by omega, by go_num, rfl, by omega, Lib.hid rfl, Lib.hid (World.ownsRow_nil _ _ _ _), Lib.hid (fun f hf => by cases hf), Lib.hid (Below.refl _ _), HRR⟩
  case round =>
    obtain ⟨j, p, F, hj, rfl, rfl, rfl, hp, HFL, HO, HDO, HB, HD⟩ := hrel
    have q4 : wr.cell? ⟨b, off + 4, none⟩ = some (.int .u8 (c : Nat)) := by
      rw [HB.out.cell (by simpa using hbl)]
      exact HQ4.out
    have i4 : (4 : Int) < n := by omega
    by_cases hlt : j < c
    · have j1 : (j : Int) < c := by omega
      have HER := Lib.hid (fun (e : Int) (he : e ≠ 0) (h : (itemR (bs.drop p) (F.map IW.name)).1 = e) => show R = (e, []) by
        rw [HD.out, show c - j = (c - (j + 1)) + 1 by omega]
        exact items_err (by rw [List.map_map]; exact h) he)
      have HNX := Lib.hid (fun (x : IV) (r : List UInt8) (h : itemR (bs.drop p) (F.map IW.name) = (0, x, r)) => show R = finR (itemsR (c - (j + 1)) r (F.map IW.iv ++ [x])) by
        rw [HD.out, show c - j = (c - (j + 1)) + 1 by omega, items_next (by rw [List.map_map]; exact h)])
      clear HD
      have hrl : (bs.drop p).length = n - p := by rw [List.length_drop, HLn.out]
      by_cases hpn : n ≤ p
      · have HQ := Lib.hid (HER.out 6 (by decide) (itemR_short0 (by omega)))
        have f1 : decide ((n : Int) ≤ p) = true := by simp; omega
        clear hrl
        go_wp2_with fail
        go_ret2
        exact UnpackRet.err HQ.out HB.out
      have f1 : decide ((n : Int) ≤ p) = false := by simp; omega
      have hpl : p < bs.length := by rw [HLn.out]; omega
      have qp := HC.out p hpl
      unfold encB at qp
      obtain ⟨k, hk⟩ : ∃ k, k = (bs[p]).toNat := ⟨_, rfl⟩
      have hk0 : ((bs.drop p).getD 0 0).toNat = k := by rw [hk]; simp [List.getD, hpl]
      rw [← hk] at qp
      have qp2 : wr.cell? ⟨b, off + p, none⟩ = some (.int .u8 (k : Nat)) := by
        rw [HB.out.cell (by simpa using hbl)]
        exact qp
      have hk256 : k < 256 := by rw [hk]; exact (bs[p]).toNat_lt
      have p1 : (p : Int) < n := by omega
      clear hk qp hpl
      by_cases hk1 : n - p - 1 < k
      · have HQ := Lib.hid (HER.out 6 (by decide) (itemR_short1 (by omega) (by rw [hk0]; omega)))
        have f2 : decide ((n : Int) - p - 1 < k) = true := by simp; omega
        clear hrl hk0
        go_wp2_with fail
        go_ret2
        exact UnpackRet.err HQ.out HB.out
      have f2 : decide ((n : Int) - p - 1 < k) = false := by simp; omega
      obtain ⟨nm, hnm⟩ : ∃ nm, nm = ((bs.drop p).drop 1).take k := ⟨_, rfl⟩
      have hs1 := ((HS.out.below HB.out).dropJ (m := p + 1) (by omega)).take (j := k) (by omega)
      rw [show (bs.drop (p + 1)).take k = nm from by rw [hnm, List.drop_drop]] at hs1
      have cvn := run_conv hs1 (cap - (p + 1))
      have b1 : (p : Int) + 1 ≤ p + 1 + k := by omega
      have b2 : (p : Int) + 1 + k ≤ cap := by omega
      have HNM := Lib.hid hnm
      have hnl : nm.length = k := hs1.1
      clear hs1 hnm
      by_cases hcp : cap = p + 1
      · have hk00 : k = 0 := by omega
        subst hk00
        have hnn : nm = [] := List.eq_nil_of_length_eq_zero hnl
        subst hnn
        have cv0 := run_conv (Sl.nil (enc := encB) wr (some ⟨b, off, none⟩)) 0
        have HQ := Lib.hid (HER.out 8 (by decide) (itemR_name (by omega) (by rw [hk0]; omega) (.inl (by rw [hk0, ← HNM.out]; rfl))))
        have HNE := Lib.hid (own_not_newJ HO.out)
        clear hnl hrl hk0 cvn HNM HER HNX
        go_upto_region 21 with fail
        have hba : Below wr.heap.size wr (wr.alloc (.cells #[.string ⟨#[]⟩, .slice none 0 0] 36)) := (Below.refl _ _).alloc (Nat.le_refl _) _
        have HBA := Lib.hid (HB.out.trans (hba.mono HB.out.size))
        have HOA := Lib.hid (own_below HO.out hba)
        have HXA := Lib.hid (show IBlk (wr.alloc (.cells #[.string ⟨#[]⟩, .slice none 0 0] 36)) wr.heap.size [] none 0 0 from heap_alloc_last wr _)
        clear hba
        generalize wr.alloc (.cells #[.string ⟨#[]⟩, .slice none 0 0] 36) = W at *
        generalize wr.heap.size = bx at *
        obtain ⟨⟨c0, c1⟩, _, hxl⟩ := HXA.out.box
        have HIN := Lib.hid (fun w' => refIsName_any w' [] (by decide))
        rw [show nameOk [] = false from rfl] at HIN
        go_wp2_with (at_builtin; first
          | (refine wpList_appS_lit stJ rfl _ _ rfl w.heap.size _ j _ rfl HOA.out _ 1 _ _ rfl rfl rfl rfl (by omega) (by unfold maxLen; omega) HBA.out.size ?_; intro v5 w5 hown5 hg5 hb5; have HB5 := Lib.hid (HBA.out.trans hb5); have HX5 := Lib.hid (show IBlk w5 bx [] none 0 0 from IBlk.grownA HXA.out hg5 HNE.out); clear hown5 hg5 hb5 c0 c1 hxl; obtain ⟨⟨c0, c1⟩, _, hxl⟩ := HX5.out.box))
        refine (HIN.out _).mono ?_
        rintro e w6 ⟨rfl, rfl⟩
        go_wp2_with fail
        go_ret2
        exact UnpackRet.err HQ.out HB5.out
      -- what stands behind the name
      obtain ⟨p2, hp2⟩ : ∃ p2, p2 = p + 1 + k := ⟨_, rfl⟩
      obtain ⟨sz, hsz⟩ : ∃ sz, sz = getN ((bs.drop p2).take 4) := ⟨_, rfl⟩
      obtain ⟨ds, hds⟩ : ∃ ds, ds = (bs.drop (p2 + 4)).take sz := ⟨_, rfl⟩
      obtain ⟨sm, hsm⟩ : ∃ sm, sm = getN ((bs.drop (p2 + 4 + sz)).take 4) := ⟨_, rfl⟩
      have hdd : (bs.drop p).drop (1 + k) = bs.drop p2 := by rw [List.drop_drop, hp2, Nat.add_assoc]
      have hdl : (bs.drop p2).length = n - p2 := by rw [List.length_drop, HLn.out]
      have HI8 := Lib.hid (fun (h : nameOk nm = false ∨ nm ∈ F.map IW.name) => HER.out 8 (by decide) (itemR_name (by omega) (by rw [hk0]; omega) (by rw [hk0, ← HNM.out]; exact h)))
      have HI6 := Lib.hid (fun (h : ¬ (nameOk nm = false ∨ nm ∈ F.map IW.name)) (h6 : n - p2 < 4 ∨ n - p2 - 4 < sz + 4) => HER.out 6 (by decide) (itemR_short2 (by omega) (by rw [hk0]; omega) (by rw [hk0, ← HNM.out]; exact h) (by rw [hk0, hdd, hdl, ← hsz]; exact h6)))
      have HIS := Lib.hid (fun (h : ¬ (nameOk nm = false ∨ nm ∈ F.map IW.name)) (h6 : ¬ n - p2 < 4) (h7 : ¬ n - p2 - 4 < sz + 4) => by
        have h8 := itemR_sum (b := bs.drop p) (names := F.map IW.name) (by omega) (by rw [hk0]; omega) (by rw [hk0, ← HNM.out]; exact h) (by rw [hk0, hdd, hdl]; exact h6) (by rw [hk0, hdd, hdl, ← hsz]; exact h7)
        rw [hk0, hdd, ← hsz, ← HNM.out] at h8
        simp only [List.drop_drop, ← Nat.add_assoc] at h8
        rw [← hds, ← hsm] at h8
        exact h8)
      have HI7 := Lib.hid (fun h h6 h7 (h8 : ¬ sm = sumN ds) => HER.out 7 (by decide) (by rw [HIS.out h h6 h7, if_neg h8]))
      have HI0 := Lib.hid (fun h h6 h7 (h8 : sm = sumN ds) => HNX.out ⟨nm, ds⟩ (bs.drop (p2 + 4 + sz + 4)) (by rw [HIS.out h h6 h7, if_pos h8]))
      have HNE := Lib.hid (own_not_newJ HO.out)
      clear HER HNX HIS hdd hk0 hrl
      go_upto_region 21 with fail
      have hba : Below wr.heap.size wr (wr.alloc (.cells #[.string ⟨nm.toArray⟩, .slice none 0 0] 36)) := (Below.refl _ _).alloc (Nat.le_refl _) _
      have HBA := Lib.hid (HB.out.trans (hba.mono HB.out.size))
      have HOA := Lib.hid (own_below HO.out hba)
      have HDA := Lib.hid (fun x hx => own_below (HDO.out x hx) hba)
      have HXA := Lib.hid (show IBlk (wr.alloc (.cells #[.string ⟨nm.toArray⟩, .slice none 0 0] 36)) wr.heap.size nm none 0 0 from heap_alloc_last wr _)
      clear hba
      generalize wr.alloc (.cells #[.string ⟨nm.toArray⟩, .slice none 0 0] 36) = W at *
      generalize wr.heap.size = bx at *
      obtain ⟨⟨c0, c1⟩, _, hxl⟩ := HXA.out.box
      have HIN := Lib.hid (fun w' => refIsName_any w' nm (by omega))
      obtain ⟨ok, hok⟩ : ∃ ok, ok = nameOk nm := ⟨_, rfl⟩
      rw [← hok] at HIN HI8 HI6 HI7 HI0
      clear hok
      go_wp2_with (at_builtin; first
        | (refine wpList_appS_lit stJ rfl _ _ rfl w.heap.size _ j _ rfl HOA.out _ 1 _ _ rfl rfl rfl rfl (by omega) (by unfold maxLen; omega) HBA.out.size ?_; intro v5 w5 hown5 hg5 hb5; have HO5 := Lib.hid (show w5.ownsRow w.heap.size 36 2 v5 (j + 1) ((F ++ [(⟨nm, none, 0, 0, []⟩ : IW)]).flatMap IW.cells) by rw [List.flatMap_append]; exact hown5); have HB5 := Lib.hid (HBA.out.trans hb5); have HX5 := Lib.hid (show IBlk w5 bx nm none 0 0 from IBlk.grownA HXA.out hg5 HNE.out); have HG5 := Lib.hid hg5; clear hown5 hg5 hb5 c0 c1 hxl; obtain ⟨⟨c0, c1⟩, _, hxl⟩ := HX5.out.box))
      refine (HIN.out _).mono ?_
      rintro e w6 ⟨rfl, rfl⟩
      cases ok
      · have HQ := Lib.hid (HI8.out (.inl rfl))
        go_wp2_with fail
        go_ret2
        exact UnpackRet.err HQ.out HB5.out
      obtain ⟨x, c5, rfl⟩ := own_sliceJ HO5.out (by omega)
      obtain ⟨a5', c5', he5, hs5, hc5⟩ := Ss.ofOwn IW.cells_length (by decide) HO5.out
      cases he5
      have hal : Below W.heap.size W (W.alloc (.cells #[.string ⟨nm.toArray⟩, .slice none 0 0] 36)) := (Below.refl _ _).alloc (Nat.le_refl _) _
      have HD5 := Lib.hid (fun y hy => own_append (own_below (HDA.out y hy) hal) (own_below HOA.out hal) (by decide) HG5.out)
      have HAG := Lib.hid (again_any w6 (some ⟨x, 0, none⟩) (j + 1) c5 (F ++ [(⟨nm, none, 0, 0, []⟩ : IW)]) j ⟨nm, none, 0, 0, []⟩ hs5 (by omega) hc5 (by omega) (by rw [← HFL.out]; simp))
      have HAE := Lib.hid (show againB (F ++ [(⟨nm, none, 0, 0, []⟩ : IW)]) j nm = decide (nm ∈ F.map IW.name) by rw [← HFL.out]; exact again_names F _ nm)
      simp only at HAG
      rw [HAE.out] at HAG
      obtain ⟨nb, hnb⟩ : ∃ nb, nb = decide (nm ∈ F.map IW.name) := ⟨_, rfl⟩
      rw [← hnb] at HAG
      have HNB := Lib.hid hnb
      clear hs5 hal HDA HOA HG5 HAE hnb c0 c1 hxl
      go_wp2_with fail
      refine HAG.out.mono ?_
      rintro e w7 ⟨rfl, hb7⟩
      have HO7 := Lib.hid (own_below HO5.out hb7)
      have HD7 := Lib.hid (fun y hy => own_below (HD5.out y hy) hb7)
      have HB7 := Lib.hid (HB5.out.trans (hb7.mono HB5.out.size))
      clear hb7 HO5 HD5 HB5 HX5 HAG
      cases nb
      case' true =>
        have HQ := Lib.hid (HI8.out (.inr (of_decide_eq_true HNB.out.symm)))
        go_wp2_with fail
        go_ret2
        exact UnpackRet.err HQ.out HB7.out
      have HNO := Lib.hid (show ¬ (true = false ∨ nm ∈ F.map IW.name) from fun h => by
        rcases h with h | h
        · cases h
        · rw [decide_eq_true h] at HNB; cases HNB.out)
      have HGT := Lib.hid (fun w' (h : Below w.heap.size w w') => refGet_any w' (some ⟨b, off, none⟩) n cap bs ((p2 : Nat) : Int) 4 (HS.out.below h) hn hcap (by unfold IntR; omega) (by unfold IntR; omega))
      rw [show ((p2 : Nat) : Int) = (p : Int) + 1 + k by omega] at HGT
      clear HI8 HNB
      by_cases h6 : n - p2 < 4
      · have HQ := Lib.hid (HI6.out HNO.out (.inl h6))
        have hge : (getR bs ((p : Int) + 1 + k) 4).2 = 6 := by
          unfold getR
          rw [if_neg (by omega), if_pos (by rw [HLn.out]; omega)]
        rw [hge] at HGT
        generalize (getR bs ((p : Int) + 1 + k) 4).1 = gv at *
        clear HI6 HI7 HI0 hge
        go_wp2_with fail
        refine (HGT.out _ HB7.out).mono ?_
        rintro e w8 ⟨rfl, rfl⟩
        go_wp2_with fail
        go_ret2
        exact UnpackRet.err HQ.out HB7.out
      have hge : getR bs ((p : Int) + 1 + k) 4 = (((sz : Nat) : Int), 0) := by
        unfold getR
        rw [if_neg (by omega), if_neg (by rw [HLn.out]; omega), hsz, show ((p : Int) + 1 + k).toNat = p2 by omega]
        rfl
      rw [hge] at HGT
      have lsz : sz < 4294967296 := by
        rw [hsz]
        have h1 := getN_lt ((bs.drop p2).take 4)
        have h2 : 256 ^ ((bs.drop p2).take 4).length ≤ 256 ^ 4 := Nat.pow_le_pow_right (by decide) (by simp; omega)
        omega
      have wu : IntKind.u64.wrap ((n : Int) - ((p : Int) + 1 + k) - 4) = ((n - p2 - 4 : Nat) : Int) := by rw [IntKind.wrap_u64]; omega
      obtain ⟨rm, hrm⟩ : ∃ rm, rm = n - p2 - 4 := ⟨_, rfl⟩
      rw [← hrm] at wu
      have HSZ := Lib.hid hsz
      clear hge hsz
      go_wp2_with fail
      refine (HGT.out _ HB7.out).mono ?_
      rintro e w8 ⟨rfl, rfl⟩
      by_cases h7 : n - p2 - 4 < sz + 4
      · have HQ := Lib.hid (HI6.out HNO.out (.inr h7))
        by_cases h9 : rm < sz
        · have f3 : decide ((rm : Int) < sz) = true := by simp; omega
          clear HI6 HI7 HI0
          go_wp2_with fail
          go_ret2
          exact UnpackRet.err HQ.out HB7.out
        · have f3 : decide ((rm : Int) < sz) = false := by simp; omega
          have wu2 : IntKind.u64.wrap ((rm : Int) - sz) = ((rm - sz : Nat) : Int) := by rw [IntKind.wrap_u64]; omega
          have f4 : rm - sz < 4 := by omega
          clear HI6 HI7 HI0
          go_wp2_with fail
          go_ret2
          exact UnpackRet.err HQ.out HB7.out
      have f3 : decide ((rm : Int) < sz) = false := by simp; omega
      obtain ⟨rr, hrr⟩ : ∃ rr, rr = rm - sz := ⟨_, rfl⟩
      have wu2 : IntKind.u64.wrap ((rm : Int) - sz) = (rr : Int) := by rw [IntKind.wrap_u64]; omega
      have f4 : ¬ rr < 4 := by omega
      have f5 : decide ((rr : Int) < 4) = false := by simp; omega
      have HI7b := Lib.hid (HI7.out HNO.out h6 h7)
      have HI0b := Lib.hid (HI0.out HNO.out h6 h7)
      clear HI6 HI7 HI0
      go_upto_region 27 with fail
      have HE0 := Lib.hid (own_empty w7 w7.heap.size 5 (Nat.le_refl _))
      have HBE := Lib.hid ((Below.refl w7.heap.size w7).alloc (Nat.le_refl _) (.cells #[] 5))
      have hsd := (((HS.out.below HB7.out).dropJ (m := p2 + 4) (by omega)).take (j := sz) (by omega)).below HBE.out
      rw [← hds, hp2] at hsd
      have HSD := Lib.hid hsd
      have g1 : (p : Int) + 1 + k + 4 ≤ p + 1 + k + 4 + sz := by omega
      have g2 : (p : Int) + 1 + k + 4 + sz ≤ cap := by omega
      have g3 : ¬ cap = p + 1 + k + 4 := by omega
      have wsz : IntKind.i64.wrap (sz : Int) = (sz : Int) := by rw [IntKind.wrap_i64]; omega
      have HDS := Lib.hid hds
      clear hsd hds
      go_upto_region 28 with (at_builtin; first
        | go_loud (refine wpList_app1 oneN rfl _ _ _ rfl w7.heap.size _ 0 _ rfl HE0.out (.slice (some ⟨b, off + (p + 1 + k + 4), none⟩) sz (cap - (p + 1 + k + 4))) sz _ (by first | rfl | (go_simp; done) | (simp; done) | (simp; omega)) (HSD.out.src encB_cell Try.underlying22 _) (by omega) (by unfold maxLen; omega) HBE.out.size ?_; intro vd wd hown hgd hbd; rw [List.map_nil, List.nil_append, Nat.zero_add] at hown; obtain ⟨ad, cd, rfl, _, _⟩ := Sl.ofOwn hown; have HOD := Lib.hid hown; have hbb := HBE.out.trans hbd; have HOI := Lib.hid (own_below HO7.out hbb); have HDD := Lib.hid (fun y hy => own_below (HD7.out y hy) hbb); have HBD := Lib.hid (HB7.out.trans (hbb.mono HB7.out.size)); have fz := (own_item HOI.out (j * 2 + 1) (by omega)).1; have cz := own_cell1 HOI.out HFL.out; clear hown hgd hbd hbb))
      obtain ⟨_, hxB, _, cur, hcur⟩ := own_item HOI.out (j * 2 + 1) (by omega)
      have hgs := grown_set1 wd x (j * 2 + 1) (.slice ad sz cd)
      have HOs := Lib.hid (show (wd.setCell ⟨x, j * 2 + 1, none⟩ (.slice ad sz cd)).ownsRow w.heap.size 36 2 (.slice (some ⟨x, 0, none⟩) (j + 1) c5) (j + 1) ((F ++ [(⟨nm, ad, sz, cd, ds⟩ : IW)]).flatMap IW.cells) by
        have h1 := own_setJ HOI.out (j * 2 + 1) (.slice ad sz cd)
        rw [show j * 2 + 1 = F.length * 2 + 1 by rw [HFL.out], set_item F ⟨nm, none, 0, 0, []⟩ ad sz cd ds, show F.length * 2 + 1 = j * 2 + 1 by rw [HFL.out]] at h1
        exact h1)
      have HDs := Lib.hid (fun y hy => own_overJ (HDD.out y hy) hcur (by decide) hgs)
      have HNs := Lib.hid (own_overJ (own_mono HOD.out HB7.out.size) hcur (by decide) hgs)
      have HBs := Lib.hid (HBD.out.setCell (p := ⟨x, j * 2 + 1, none⟩) hxB (.slice ad sz cd))
      clear hgs hcur hxB fz cz HOI HDD HOD HBD HE0 HBE HSD HO7 HD7 HB7
      generalize wd.setCell ⟨x, j * 2 + 1, none⟩ (.slice ad sz cd) = ws at *
      have HG3 := Lib.hid (refGet_any ws (some ⟨b, off, none⟩) n cap bs ((p : Int) + 1 + k + 4 + sz) 4 (HS.out.below HBs.out) hn hcap (by unfold IntR; omega) (by unfold IntR; omega))
      have hge3 : getR bs ((p : Int) + 1 + k + 4 + sz) 4 = (((sm : Nat) : Int), 0) := by
        unfold getR
        rw [if_neg (by omega), if_neg (by rw [HLn.out]; omega), hsm, show ((p : Int) + 1 + k + 4 + sz).toNat = p2 + 4 + sz by omega]
        rfl
      rw [hge3] at HG3
      have cz := own_cell1 HOs.out HFL.out
      have hsl := (Sl.ofOwn HNs.out)
      have HSM := Lib.hid (refSum32_n ws ad sz cd ds (by obtain ⟨a', c', he, h1, _⟩ := hsl; cases he; exact h1.bs) (by omega))
      have hsl2 := sumN_lt ds
      have lsm : sm < 4294967296 := by
        rw [hsm]
        have h1 := getN_lt ((bs.drop (p2 + 4 + sz)).take 4)
        have h2 : 256 ^ ((bs.drop (p2 + 4 + sz)).take 4).length ≤ 256 ^ 4 := Nat.pow_le_pow_right (by decide) (by simp; omega)
        omega
      have wsm : IntKind.u64.wrap ((sumN ds : Nat) : Int) = ((sumN ds : Nat) : Int) := by rw [IntKind.wrap_u64]; omega
      have hpe : p2 + 4 + sz + 4 = p + 1 + k + 4 + sz + 4 := by omega
      rw [hpe] at HI0b
      have hpn4 : p + 1 + k + 4 + sz + 4 ≤ n := by omega
      clear hge3 hsl hsm hpe
      generalize sumN ds = su at *
      simp only at cz
      go_wp2_with fail
      refine HG3.out.mono ?_
      rintro e w8 ⟨rfl, rfl⟩
      by_cases h8 : sm = su
      · have HRX := Lib.hid (HI0b.out h8)
        have e8 : ((sm : Int) != (su : Int)) = false := by simp [h8]
        clear h8
        go_wp2_with fail
        refine HSM.out.mono ?_
        rintro e w9 ⟨rfl, rfl⟩
        go_wp2_with fail
        go_roundg (c - (j + 1))
        case measure => omega
        case rel =>
          refine ⟨j + 1, p + 1 + k + 4 + sz + 4, F ++ [(⟨nm, ad, sz, cd, ds⟩ : IW)], by omega, rfl, by go_num, by go_num, by omega, Lib.hid (by rw [List.length_append, HFL.out]; rfl), HOs, Lib.hid (fun y hy => ?_), HBs, Lib.hid (by rw [List.map_append]; exact HRX.out)⟩
          rcases List.mem_append.1 hy with h | h
          · exact HDs.out y h
          · rw [List.mem_singleton.1 h]
            exact HNs.out
      · have HQ := Lib.hid (HI7b.out h8)
        have e8 : ((sm : Int) != (su : Int)) = true := by simp; omega
        clear h8
        go_wp2_with fail
        refine HSM.out.mono ?_
        rintro e w9 ⟨rfl, rfl⟩
        go_wp2_with fail
        go_ret2
        exact UnpackRet.err HQ.out HBs.out
    · obtain rfl : j = c := by omega
      have HRX := Lib.hid (show (p < n → R = (8, [])) ∧ (¬ p < n → R = (0, F.map IW.iv)) by
        have h1 := HD.out
        rw [Nat.sub_self] at h1
        unfold itemsR finR at h1
        simp only [ne_eq, not_true_eq_false, if_false, List.length_drop, HLn.out] at h1
        refine ⟨fun h => by rw [h1, if_pos (by omega)], fun h => by rw [h1, if_neg (by omega)]⟩)
      obtain ⟨va, vc, rfl, _, _⟩ := Ss.ofOwn IW.cells_length (by decide) HO.out
      by_cases hpn : p < n
      · have HQ := Lib.hid (HRX.out.1 hpn)
        have f1 : decide ((p : Int) < n) = true := by simp; omega
        go_wp2_with fail
        go_ret2
        exact UnpackRet.err HQ.out HB.out
      · have HQ := Lib.hid (HRX.out.2 hpn)
        have f1 : decide ((p : Int) < n) = false := by simp; omega
        go_wp2_with fail
        go_ret2
        exact ⟨_, j, F, by rw [HQ.out]; rfl, HO.out, by rw [HQ.out], HDO.out, HB.out⟩
end Go.Proofs.Ytaedohlfcbppaaa
