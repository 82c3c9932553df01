/- sha: any bytes' hash. No condition. -/
import Derived.Test.YtkcpblfdmfkppaaBytesOpen
import Derived.Test.YtkcpblfdmfkppaaShaFix
import Derived.Test.YtkcpblfdmfkppaaShaRef
namespace Go.Proofs.Ytkcpblfdmfkppaa
open Go.ChangeShapes Go.WideShapes Go.ChangeAt Go.RowKit
theorem Bs.ofRow' {w : World} {a : Option Addr} {len cap : Nat} {zs : List Int} (h : IsRow .u8 w a len cap zs) : ∃ bs, Sl encB w a len bs ∧ len ≤ maxLen ∧ len ≤ cap := by
  obtain ⟨bs, h1, h2⟩ := Bs.ofRow h
  exact ⟨bs, h1.sl, h2, Row.cap h⟩
set_option maxHeartbeats 4000000 in
set_option maxRecDepth 100000 in
theorem walk_ShaSums (a : Option Addr) (n cap : Nat) (z : List Int) (w : World) (h0 : IsRow .u8 w a n cap z) :
    Calls Try.prog 3 #[.slice a n cap] w fun e w' => e = .returned (.bool true) ∧ Below w.heap.size w w' := by
  obtain ⟨bs, hs, hn, hcap⟩ := Bs.ofRow' h0
  have HS := Lib.hid hs
  have HFX := Lib.hid (fixed_any w)
  have hn0 : (n : Int) ≤ 9223372036854775807 := by unfold maxLen at hn; omega
  clear hs hn h0
  go_enter Try.func3, Try.ntmps3
  go_wp2_with fail
  refine HFX.out.mono ?_
  rintro e w1 ⟨rfl, hb1⟩
  have HB1 := Lib.hid hb1
  have HS1 := Lib.hid (HS.out.below hb1)
  clear hb1 HFX HS
  by_cases h400 : 400 < n
  · have e1 : decide ((400 : Int) < n) = true := by simp; omega
    go_wp2_with fail
    go_ret
    exact ⟨rfl, HB1.out⟩
  · have e1 : decide ((400 : Int) < n) = false := by simp; omega
    have hn4 : n ≤ 400 := by omega
    obtain ⟨A, hA⟩ : ∃ A, A = ((hashB bs).map encB).toArray := ⟨_, rfl⟩
    have heqA : ∀ w', (Op.equalIn 10000 24 (.agg A) (.agg A)).run Try.prog w' = .ok true w' := by
      intro w'
      have h := run_eql32 w' (hashB bs) (hashB bs) (hashB_length _) (hashB_length _)
      rw [← hA, decide_eq_true rfl] at h
      exact h
    have hgd := guard32
    have HC1 := Lib.hid (SumB_any w1 a n cap bs HS1.out hcap (by omega))
    have HC2 := Lib.hid (fun w' (hb : Below w1.heap.size w1 w') => refSum_any w' a n cap bs (HS1.out.below hb) hn4)
    rw [← hA] at HC1 HC2
    clear hA h400
    go_wp2_with fail
    refine HC1.out.mono ?_
    rintro e w2 ⟨rfl, hb2⟩
    have HB2 := Lib.hid (HB1.out.trans (hb2.mono HB1.out.size))
    have HC3 := Lib.hid (HC2.out w2 hb2)
    clear hb2 HC1 HC2
    go_wp2_with fail
    refine HC3.out.mono ?_
    rintro e w3 ⟨rfl, hb3⟩
    have HB3 := Lib.hid (HB2.out.trans (hb3.mono HB2.out.size))
    clear hb3 HC3
    go_wp2_with fail
    go_ret
    exact ⟨rfl, HB3.out⟩
end Go.Proofs.Ytkcpblfdmfkppaa
