/- jar: the walk of JarPacks. No condition. -/
import Derived.Test.YtaedohlfcbppaaaJarFind
import Derived.Test.YtaedohlfcbppaaaJarLaw2
namespace Go.Proofs.Ytaedohlfcbppaaa
open Go.ChangeShapes Go.WideShapes Go.ChangeAt Go.RowKit
set_option maxRecDepth 100000 in
set_option maxHeartbeats 8000000 in
theorem walk_JarPacks (a : Option Addr) (n cap : Nat) (name : ByteArray) (w : World) (h0 : IsItems w a n cap) (h1 : name.size ≤ maxLen) :
    Calls Try.prog 6 #[.slice a n cap, .string name] w fun e w' => e = .returned (.bool true) ∧ Below w.heap.size w w' := by
  obtain ⟨hcap, hm, F, hs, hi⟩ := h0
  obtain ⟨nm, rfl⟩ : ∃ l : List UInt8, name = ⟨l.toArray⟩ := ⟨name.data.toList, by cases name; simp⟩
  have hnl : nm.length ≤ 9223372036854775807 := by unfold maxLen at h1; simpa [ByteArray.size] using h1
  have HS := Lib.hid hs
  have HI := Lib.hid hi
  have HF := Lib.hid (fixed20 w)
  have HN := Lib.hid hs.1
  have HFW := Lib.hid (fun w1 (hb : Below w.heap.size w w1) => Few_any w1 a n cap F (hs.below hb) (fun f hf => ⟨(hi f hf).2.2.1, (hi f hf).2.2.2⟩))
  have HIT := Lib.hid (fun w1 (hb : Below w.heap.size w w1) (hd : ∀ f ∈ F, f.dn ≤ 70000) => (refs_ok hi hd).below hb)
  have HRP := Lib.hid (fun w1 (hb : Below w.heap.size w w1) (hd : ∀ f ∈ F, f.dn ≤ 70000) (hn : n ≤ 60) => refPack_any w1 a n cap F (hs.below hb) ((refs_ok hi hd).below hb) (fun f hf => by have := hd f hf; omega) (by omega) hcap)
  clear h1 hs hi
  unfold maxLen at hm
  by_cases h200 : 200 < nm.length
  · have e1 : decide ((200 : Int) < nm.length) = true := by simp; omega
    clear h200
    go_enter Try.func6, Try.ntmps6
    go_wp2_with fail
    refine HF.out.mono ?_
    rintro e w1 ⟨rfl, hb1⟩
    have HB1 := Lib.hid hb1
    clear hb1
    go_wp2_with fail
    refine (HFW.out _ HB1.out).mono ?_
    rintro e w2 ⟨⟨b, rfl, hb⟩, hb2⟩
    have HB2 := Lib.hid (HB1.out.trans (hb2.mono HB1.out.size))
    clear hb hb2
    cases b
    all_goals
      go_wp2_with fail
      go_ret
      exact ⟨rfl, HB2.out⟩
  have e1 : decide ((200 : Int) < nm.length) = false := by simp; omega
  clear h200
  go_enter Try.func6, Try.ntmps6
  go_wp2_with fail
  refine HF.out.mono ?_
  rintro e w1 ⟨rfl, hb1⟩
  have HB1 := Lib.hid hb1
  clear hb1
  go_wp2_with fail
  refine (HFW.out _ HB1.out).mono ?_
  rintro e w2 ⟨⟨b, rfl, hb⟩, hb2⟩
  have HB2 := Lib.hid (HB1.out.trans (hb2.mono HB1.out.size))
  have HFB := Lib.hid hb
  clear hb hb2
  cases b
  · go_wp2_with fail
    go_ret
    exact ⟨rfl, HB2.out⟩
  obtain ⟨hn60, hdd⟩ := HFB.out rfl
  have HDD := Lib.hid hdd
  have HPA := Lib.hid (Pack_any w2 a n cap F (HS.out.below HB2.out) (HIT.out _ HB2.out hdd) (by omega))
  clear hdd HFB HFW HF
  go_wp2_with fail
  refine HPA.out.mono ?_
  rintro e w3 ⟨a3, m3, c3, rfl, hs3, hc3, hb3⟩
  have HB3 := Lib.hid (HB2.out.trans (hb3.mono HB2.out.size))
  have HS3 := Lib.hid hs3
  have HRA := Lib.hid (HRP.out _ HB3.out HDD.out hn60)
  clear hs3 hb3 HPA HRP
  go_wp2_with fail
  refine HRA.out.mono ?_
  rintro e w4 ⟨a4, m4, c4, rfl, hs4, hc4, hb4⟩
  have HB4 := Lib.hid (HB3.out.trans (hb4.mono HB3.out.size))
  have HS4 := Lib.hid hs4
  have HS3b := Lib.hid (HS3.out.below hb4)
  have HFI := Lib.hid (Find_any w4 a n cap F nm (HS.out.below HB4.out) (fun f hf => by
    obtain ⟨h1, h2, h3, _⟩ := HIT.out _ HB4.out HDD.out f hf
    exact ⟨h1, h2, h3⟩) (by omega))
  have HUJ := Lib.hid (fun (h : (packR (F.map IW.iv)).1 = 0) => unpack_jar (l := F.map IW.iv) (bs := (packR (F.map IW.iv)).2) (by rw [← h]))
  have HLE := Lib.hid (show (packR (F.map IW.iv)).2.length ≤ 65536 by
    unfold packR
    split
    · exact Nat.zero_le _
    · split
      · exact Nat.zero_le _
      · split
        · exact Nat.zero_le _
        · simp only; omega)
  clear hs4 hb4 HRA HS3
  generalize packR (F.map IW.iv) = R at *
  obtain ⟨er, bs⟩ := R
  simp only at HS3b HS4 HUJ HLE ⊢
  have cv1 := run_conv HS3b.out c3
  have cv2 := run_conv HS4.out c4
  have ebb : (bs != bs) = false := by simp
  go_wp2_with fail
  refine HFI.out.mono ?_
  rintro e w5 ⟨r, hr, hb5, hfr⟩
  have HB5 := Lib.hid (HB4.out.trans (hb5.mono HB4.out.size))
  have HR5 := Lib.hid hr
  have HS5 := Lib.hid (HS3b.out.below hb5)
  have HFR := Lib.hid hfr
  clear hr hb5 hfr cv1 cv2 ebb HFI HS4 HS3b
  obtain ⟨x, mx, cx, ok, rfl, hok, hx⟩ : ∃ x mx cx ok, e = .returned (.tuple #[.slice x mx cx, .bool ok]) ∧ ok = decide (0 ≤ r) ∧ (ok = true → ∃ (i : Nat) (f : IW), r = i ∧ F[i]? = some f ∧ Sl encB w5 x mx f.data ∧ mx ≤ cx) := by
    rcases HFR.out with ⟨rfl, rfl⟩ | ⟨i, f, x, m, c, rfl, h1, rfl, h2, h3⟩
    · exact ⟨none, 0, 0, false, rfl, by decide, fun h => by cases h⟩
    · exact ⟨x, m, c, true, rfl, by simp, fun _ => ⟨i, f, rfl, h1, h2, h3⟩⟩
  have HOK := Lib.hid hok
  have HX := Lib.hid hx
  clear hok hx HFR
  go_wp2_with fail
  go_loopg [12, 11] n (fun gn i v wr => ∃ (p j : Nat) (q : Int), p + j = n ∧ gn = n - p ∧ i = .int .i64 ((j : Int) - 1) ∧ v = .int .i64 q ∧ Hid (FirstAt F nm j q) ∧ wr = w5)
  case atStart => exact ⟨0, n, -1, by omega, by omega, by go_num, by go_num, Lib.hid (by rw [← HN.out]; exact FirstAt.end F nm), rfl⟩
  case round =>
    obtain ⟨p, j, q, hj, rfl, rfl, rfl, HQ, rfl⟩ := hrel
    rcases j with _ | k
    · have e0 : decide ((0 : Int) ≤ ((0 : Nat) : Int) - 1) = false := by decide
      have hqr : q = r := HQ.out.one HR5.out
      subst hqr
      have hbl := HS5.out.1
      have hb65 := HLE.out
      have HU := Lib.hid (fun w' (hb : Below wr.heap.size wr w') => Unpack_any w' a3 m3 c3 bs (HS5.out.below hb) (by omega) hc3)
      clear HQ
      cases ok
      · have e2 : decide ((0 : Int) ≤ q) = false := HOK.out.symm
        go_wp2_with fail
        go_quiet (fail)
        have HB6 := Lib.hid (bdrewN HB5.out nq)
        have hdn := bdrewN (Below.refl wr.heap.size wr) nq
        go_wp2_with fail
        refine (HU.out _ hdn).mono ?_
        rintro e w7 hu
        have HR7 := Lib.hid hu
        clear hu hdn
        obtain ⟨v7, m7, F7, rfl, ho7, hf7, hd7, hb7⟩ := HR7.out
        obtain ⟨a7, c7, rfl, hs7, hc7⟩ := Ss.ofOwn IW.cells_length (by decide) ho7
        have HB7 := Lib.hid (HB6.out.trans (hb7.mono HB6.out.size))
        have HI7 := Lib.hid (show Im w7 a7 m7 F7 from hs7)
        have HO7 := Lib.hid (own_itok hd7)
        have HF7 := Lib.hid hf7
        clear ho7 hf7 hd7 hb7 hs7 HR7
        by_cases her : er = 0
        · subst her
          have hue := HUJ.out rfl
          simp only [hue] at HF7 ⊢
          have hm7 : m7 = n := by
            have h1 := congrArg List.length HF7.out
            rw [List.length_map, List.length_map, HI7.out.1, HN.out] at h1
            exact h1
          subst hm7
          have HSM := Lib.hid (Same_yesJ w7 a7 _ m7 c7 cap F7 F HI7.out (HS.out.below HB7.out) (fun f hf => (HO7.out f hf).1) (fun f hf => (HI.out f hf).1.below HB7.out) HF7.out (by omega))
          clear hue
          go_wp2_with fail
          refine HSM.out.mono ?_
          rintro e w8 ⟨rfl, hb8⟩
          have HB8 := Lib.hid (HB7.out.trans (hb8.mono HB7.out.size))
          clear hb8
          go_wp2_with fail
          go_ret
          exact ⟨rfl, HB8.out⟩
        · have ee : (er != 0) = true := by simp [her]
          clear her HF7
          generalize (unpackR bs).1 = ur at *
          go_wp2_with fail
          go_ret
          exact ⟨rfl, HB7.out⟩
      · have e2 : decide ((0 : Int) ≤ q) = true := HOK.out.symm
        obtain ⟨i, f, rfl, hf, hfs, hfc⟩ := HX.out rfl
        have hi : i < n := by
          have h1 := (List.getElem?_eq_some_iff.1 hf).1
          rw [HS.out.1] at h1
          exact h1
        obtain ⟨b, off, g, rfl, hbl2, hg, c0, c1⟩ := (HS.out.below HB5.out).at i hi
        rw [hf] at hg
        cases hg
        have hds := (HI.out f (List.mem_of_getElem? hf)).1.below HB5.out
        have cv1 := fun nq => run_conv (hfs.below (bdrewN (Below.refl wr.heap.size wr) nq)) cx
        have cv2 := fun nq => run_conv (hds.below (bdrewN (Below.refl wr.heap.size wr) nq)) f.dc
        have cv3 := run_conv (hfs.below (Below.refl wr.heap.size wr).drew) cx
        have cv4 := run_conv (hds.below (Below.refl wr.heap.size wr).drew) f.dc
        obtain ⟨nm2, da, dn, dc, ds⟩ := f
        simp only at c0 c1 cv1 cv2 cv3 cv4
        have j1 : (i : Int) < n := by omega
        have j0 : (0 : Int) ≤ i := by omega
        clear hf hfs hfc hds HX
        go_wp2_with fail
        go_quiet (fail)
        have HB6 := Lib.hid (bdrewN HB5.out nq)
        have hdn := bdrewN (Below.refl wr.heap.size wr) nq
        go_wp2_with fail
        refine (HU.out _ hdn).mono ?_
        rintro e w7 hu
        have HR7 := Lib.hid hu
        clear hu hdn
        obtain ⟨v7, m7, F7, rfl, ho7, hf7, hd7, hb7⟩ := HR7.out
        obtain ⟨a7, c7, rfl, hs7, hc7⟩ := Ss.ofOwn IW.cells_length (by decide) ho7
        have HB7 := Lib.hid (HB6.out.trans (hb7.mono HB6.out.size))
        have HI7 := Lib.hid (show Im w7 a7 m7 F7 from hs7)
        have HO7 := Lib.hid (own_itok hd7)
        have HF7 := Lib.hid hf7
        clear ho7 hf7 hd7 hb7 hs7 HR7
        by_cases her : er = 0
        · subst her
          have hue := HUJ.out rfl
          simp only [hue] at HF7 ⊢
          have hm7 : m7 = n := by
            have h1 := congrArg List.length HF7.out
            rw [List.length_map, List.length_map, HI7.out.1, HN.out] at h1
            exact h1
          subst hm7
          have HSM := Lib.hid (Same_yesJ w7 a7 _ m7 c7 cap F7 F HI7.out (HS.out.below HB7.out) (fun f hf => (HO7.out f hf).1) (fun f hf => (HI.out f hf).1.below HB7.out) HF7.out (by omega))
          clear hue
          go_wp2_with fail
          refine HSM.out.mono ?_
          rintro e w8 ⟨rfl, hb8⟩
          have HB8 := Lib.hid (HB7.out.trans (hb8.mono HB7.out.size))
          clear hb8
          go_wp2_with fail
          go_ret
          exact ⟨rfl, HB8.out⟩
        · have ee : (er != 0) = true := by simp [her]
          clear her HF7
          generalize (unpackR bs).1 = ur at *
          go_wp2_with fail
          go_ret
          exact ⟨rfl, HB7.out⟩
    · rw [show (((k + 1 : Nat) : Int) - 1) = (k : Int) by omega]
      obtain ⟨b, off, f, rfl, hbl, hf, c0, c1⟩ := (HS.out.below HB5.out).at k (by omega)
      have HY := Lib.hid (fun (h : f.name = nm) => FirstAt.yes hf h)
      have HNO := Lib.hid (fun (h : f.name ≠ nm) => FirstAt.no hf h HQ.out)
      obtain ⟨s, da, dn, dc, ds⟩ := f
      simp only at c0 c1 HY HNO
      have j1 : (k : Int) < n := by omega
      clear hf
      by_cases hx : s = nm
      · have HR := Lib.hid (HY.out hx)
        have ex : (s == nm) = true := by simp [hx]
        clear hx HY HNO
        go_wp2_with fail
        go_roundg (n - (p + 1))
        case measure => omega
        case rel => exact ⟨p + 1, k, k, by omega, rfl, by go_num, rfl, HR, rfl⟩
      · have HR := Lib.hid (HNO.out hx)
        have ex : (s == nm) = false := by simp [hx]
        clear hx HY HNO
        go_wp2_with fail
        go_roundg (n - (p + 1))
        case measure => omega
        case rel => exact ⟨p + 1, k, q, by omega, rfl, by go_num, rfl, HR, rfl⟩
end Go.Proofs.Ytaedohlfcbppaaa
