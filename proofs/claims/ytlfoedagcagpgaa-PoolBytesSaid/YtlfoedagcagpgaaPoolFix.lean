/- pool: the law's fixed calls. No condition. -/
import Derived.Test.YtlfoedagcagpgaaPoolBytes
import Derived.Test.YtlfoedagcagpgaaPoolFn6
namespace Go.Proofs.Ytlfoedagcagpgaa
open Go.ChangeShapes Go.WideShapes Go.ChangeAt Go.RowKit
theorem Ss.lit {α : Type} {z : Nat} {enc : α → List Value} (hz : ∀ x, (enc x).length = z) {w : World} {g n : Nat} {xs : List α} {C : Array Value} {e : TypeId} {fr : Nat × Nat} (hg : w.heap[g]? = some (.cells C e fr)) (hC : C = (xs.flatMap enc).toArray) (hn : xs.length = n) : Ss z enc w (some ⟨g, 0, none⟩) n xs := by
  subst hC
  refine ⟨hn, fun _ => ⟨g, 0, rfl, (Array.getElem?_eq_some_iff.1 hg).1, fun i hi j hj => ?_⟩⟩
  rw [cell_of_row w g (0 + i * z + j) _ e fr hg, Nat.zero_add]
  simp only [List.getElem?_toArray]
  exact flat_at hz xs i hi j hj
/-- The pool of the fixed calls. -/
def fixL : List KV := [⟨0, 0, 0, 0, []⟩, ⟨1, 0, 0, 0, [97]⟩, ⟨7, 1, 0, 0, []⟩]
theorem fixL_ok : poolOk fixL = true := by decide
theorem fixL_bytes : bytesK fixL = [0, 3, 1, 0, 1, 97, 7, 0, 1] := by decide
theorem fixL_class : (classAt fixL 2) = ([97], true) := by decide
theorem fixL_text : isT fixL 0 1 = false := by decide
set_option maxRecDepth 100000 in
set_option maxHeartbeats 4000000 in
theorem fixed11 (w : World) : Calls Try.prog 6 #[] w (BoolRet true w) := by
  have HK0 := Lib.hid (show Ks (w.alloc (.cells #[.int .i64 0, .int .i64 0, .int .i64 0, .int .i64 0, .string ⟨#[]⟩, .int .i64 1, .int .i64 0, .int .i64 0, .int .i64 0, .string ⟨#[97]⟩, .int .i64 7, .int .i64 1, .int .i64 0, .int .i64 0, .string ⟨#[]⟩] 28)) (some ⟨w.heap.size, 0, none⟩) 3 fixL from Ss.lit KV.cells_length (heap_alloc_last w _) rfl rfl)
  go_enter Try.func6, Try.ntmps6
  go_wp2_with fail
  refine (Bytes_any _ _ 3 3 fixL HK0.out (by decide) (by decide) (fun _ => by decide)).mono ?_
  rintro e w1 h1
  rcases h1 with ⟨h, _⟩ | ⟨_, v, m, rfl, ho1, hb1⟩
  · rw [fixL_ok] at h; cases h
  rw [fixL_bytes] at ho1
  obtain ⟨a1, c1, rfl, hs1, hc1⟩ := Sl.ofOwn ho1
  have hm1 : m = 9 := hs1.1.symm
  subst hm1
  have HK1 := Lib.hid (HK0.out.below hb1)
  have HB1 := Lib.hid ((below_1 w (.cells #[.int .i64 0, .int .i64 0, .int .i64 0, .int .i64 0, .string ⟨#[]⟩, .int .i64 1, .int .i64 0, .int .i64 0, .int .i64 0, .string ⟨#[97]⟩, .int .i64 7, .int .i64 1, .int .i64 0, .int .i64 0, .string ⟨#[]⟩] 28)).trans (hb1.mono (by simp)))
  have HS1 := Lib.hid hs1
  clear ho1 hb1 hs1
  go_wp2_with fail
  refine (Bytes_any _ none 0 0 [] (Ss.nil _ _) (by decide) (by decide) (by decide)).mono ?_
  rintro e w2 h2
  rcases h2 with ⟨_, rfl, hb2⟩ | ⟨h, _⟩
  case' inr => exact absurd h (by decide)
  have HK2 := Lib.hid (HK1.out.below hb2)
  have HB2 := Lib.hid (HB1.out.trans (hb2.mono HB1.out.size))
  have HS2 := Lib.hid (HS1.out.below hb2)
  clear hb2
  have C1 := Class_any w2 _ 3 3 fixL 2 HK2.out (by decide)
  have C2 := Text_any w2 _ 3 3 fixL 0 HK2.out (by decide)
  unfold ClassRet at C1
  unfold TextRet at C2
  rw [fixL_class] at C1
  rw [fixL_text] at C2
  have K1 := Lib.hid C1
  have K2 := Lib.hid C2
  clear C1 C2
  go_wp2_with fail
  refine K1.out.mono ?_
  rintro e w' ⟨rfl, rfl⟩
  go_wp2_with fail
  refine K2.out.mono ?_
  rintro e w' ⟨rfl, rfl⟩
  have cv := run_conv HS2.out c1
  go_wp2_with fail
  go_ret
  exact ⟨rfl, HB2.out⟩
end Go.Proofs.Ytlfoedagcagpgaa
