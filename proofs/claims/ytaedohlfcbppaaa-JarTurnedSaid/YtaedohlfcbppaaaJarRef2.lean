/- jar: the reference's Same and Unpack. No condition. -/
import Derived.Test.YtaedohlfcbppaaaJarPack
namespace Go.Proofs.Ytaedohlfcbppaaa
open Go.ChangeShapes Go.WideShapes Go.ChangeAt Go.RowKit
theorem own_setJ {w : World} {B : Nat} {e : TypeId} {size : Nat} {g n cap : Nat} {xs : List Value} (h : w.ownsRow B e size (.slice (some ⟨g, 0, none⟩) n cap) n xs) (k : Nat) (u : Value) :
    (w.setCell ⟨g, k, none⟩ u).ownsRow B e size (.slice (some ⟨g, 0, none⟩) n cap) n (xs.set k u) := by
  rcases h.2 with ⟨hv, _⟩ | ⟨g', cap', cur, hv, hb, hg, h1, h2, h3, ht⟩
  · cases hv
  · cases hv
    refine ⟨by simpa using h.1, .inr ⟨g, cap, cur.setIfInBounds k u, rfl, hb, heap_setJ hg k u, h1, h2, by simpa using h3, ?_⟩⟩
    rw [← ht, Array.toList_setIfInBounds, List.take_set]
theorem set_item (F : List IW) (f : IW) (a : Option Addr) (n c : Nat) (d : List UInt8) : ((F ++ [f]).flatMap IW.cells).set (F.length * 2 + 1) (.slice a n c) = (F ++ [(⟨f.name, a, n, c, d⟩ : IW)]).flatMap IW.cells := by
  rw [List.flatMap_append, List.flatMap_append, List.set_append_right _ _ (by rw [flat_len IW.cells_length]; omega), flat_len IW.cells_length]
  congr 1
  rw [show F.length * 2 + 1 - F.length * 2 = 1 by omega]
  rfl
theorem own_item {w : World} {B g n cap : Nat} {xs : List Value} (h : w.ownsRow B 36 2 (.slice (some ⟨g, 0, none⟩) n cap) n xs) (k : Nat) (hk : k < n * 2) : w.frozen? ⟨g, k, none⟩ = false ∧ B ≤ g ∧ g < w.heap.size ∧ ∃ cur, w.heap[g]? = some (.cells cur 36 (0, 0)) := by
  rcases h.2 with ⟨hv, _⟩ | ⟨g', cap', cur, hv, hb, hg, h1, h2, h3, ht⟩
  · cases hv
  · cases hv
    refine ⟨?_, hb, (Array.getElem?_eq_some_iff.1 hg).1, cur, hg⟩
    unfold World.frozen?
    rw [hg]
    rfl
set_option maxRecDepth 100000 in
set_option maxHeartbeats 4000000 in
theorem Same_yesJ (w : World) (a b : Option Addr) (n ca cb : Nat) (F G : List IW) (hs : Im w a n F) (ht : Im w b n G) (hf : ∀ f ∈ F, Sl encB w f.da f.dn f.data) (hg : ∀ f ∈ G, Sl encB w f.da f.dn f.data) (hFG : F.map IW.iv = G.map IW.iv) (hn : n ≤ 65536) : Calls Try.prog 10 #[.slice a n ca, .slice b n cb] w fun e w' => e = .returned (.bool true) ∧ Below w.heap.size w w' := by
  have HS := Lib.hid hs
  have HT := Lib.hid ht
  have HF := Lib.hid hf
  have HG := Lib.hid hg
  have HE := Lib.hid hFG
  clear hs ht hf hg hFG
  go_enter Try.func10, Try.ntmps10
  go_wp2_with fail
  go_loopg [13] n (fun gn i wr => ∃ j : Nat, j ≤ n ∧ gn = n - j ∧ i = .int .i64 j ∧ Hid (Below w.heap.size w wr))
  case atStart => exact ⟨0, by omega, by omega, by go_num, Lib.hid (Below.refl _ _)⟩
  case round =>
    obtain ⟨j, hj, rfl, rfl, HB⟩ := hrel
    by_cases hlt : j < n
    · obtain ⟨b1, o1, f, rfl, _, hf, p0, p1⟩ := (HS.out.below HB.out).at j hlt
      obtain ⟨b2, o2, g, rfl, _, hg, q0, q1⟩ := (HT.out.below HB.out).at j hlt
      have hiv : f.iv = g.iv := by
        have h1 := congrArg (fun l => l[j]?) HE.out
        simp only [List.getElem?_map, hf, hg, Option.map_some, Option.some.injEq] at h1
        exact h1
      have hnm : g.name = f.name := (congrArg IV.name hiv).symm
      have hdt : g.data = f.data := (congrArg IV.data hiv).symm
      have h1 := (HF.out f (List.mem_of_getElem? hf)).below HB.out
      have h2 := (HG.out g (List.mem_of_getElem? hg)).below HB.out
      rw [hdt] at h2
      rw [hnm] at q0
      have cv1 := fun nq => run_conv (h1.below (bdrewN (Below.refl wr.heap.size wr) nq)) f.dc
      have cv2 := fun nq => run_conv (h2.below (bdrewN (Below.refl wr.heap.size wr) nq)) g.dc
      have cv3 := run_conv (h1.below (Below.refl wr.heap.size wr).drew) f.dc
      have cv4 := run_conv (h2.below (Below.refl wr.heap.size wr).drew) g.dc
      clear hiv hnm hdt h1 h2 hf hg
      obtain ⟨nm, fa, fn, fc, ds⟩ := f
      obtain ⟨_, ga, gn, gc, _⟩ := g
      simp only at p0 p1 q0 q1 cv1 cv2 cv3 cv4
      have j1 : (j : Int) < n := by omega
      have j0 : (0 : Int) ≤ j := by omega
      go_wp2_with fail
      go_quiet (fail)
      have HB2 := Lib.hid (bdrewN HB.out nq)
      go_wp2_with fail
      go_roundg (n - (j + 1))
      case measure => omega
      case rel => exact ⟨j + 1, by omega, rfl, by go_num, HB2⟩
    · obtain rfl : j = n := by omega
      go_wp2_with fail
      go_ret
      exact ⟨rfl, HB.out⟩
end Go.Proofs.Ytaedohlfcbppaaa
