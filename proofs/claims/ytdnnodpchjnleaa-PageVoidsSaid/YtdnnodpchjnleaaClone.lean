/- slices.Clone of bytes. No condition. -/
import Derived.Test.YtdnnodpchjnleaaLib3
namespace Go.Proofs.Ytdnnodpchjnleaa
open Go.ChangeShapes Go.WideShapes Go.ChangeAt Go.RowKit
theorem oneB : OneE 23 5 (.int .u8 0) 1 := ⟨by kernel_rfl, by kernel_rfl, rfl⟩
theorem run_eqlInNil {P : Program} (w : World) (d : Nat) (t e : TypeId) (a : Option Addr) (l c : Nat) (h : P.underlying t = some (.slice e)) : (Op.equalIn (d + 1) t (.slice a l c) (.slice none 0 0)).run P w = .ok a.isNone w := by
  cases a <;> simp [Op.equalIn, run_underlying h]
theorem run_equalNil {P : Program} (w : World) (t e : TypeId) (a : Option Addr) (l c : Nat) (h : P.underlying t = some (.slice e)) : (Op.equal t (.slice a l c) (.slice none 0 0)).run P w = .ok a.isNone w := run_eqlInNil w 9999 t e a l c h
theorem run_eqlNil {P : Program} (w : World) (t e : TypeId) (a : Option Addr) (l c : Nat) (h : P.underlying t = some (.slice e)) : (binOp .eql t (.slice a l c) (.slice none 0 0)).run P w = .ok (.bool a.isNone) w := by
  simp [binOp, run_equalNil w t e a l c h]
set_option maxRecDepth 100000 in
set_option maxHeartbeats 1000000 in
theorem Clone_any (w : World) (a : Option Addr) (n cap : Nat) (bs : List UInt8) (hs : Sl encB w a n bs) (hn : n ≤ 16777216) :
    Calls Try.prog 40 #[.slice a n cap] w (OwnRet encB 5 w.heap.size w bs) := by
  have HS := Lib.hid hs
  cases a with
  | none =>
    have h0 : bs = [] := by
      obtain ⟨hl, hc⟩ := hs
      rcases Nat.eq_zero_or_pos n with h | h
      · exact List.eq_nil_of_length_eq_zero (by omega)
      · obtain ⟨b, off, ha, _⟩ := hc h; cases ha
    subst h0
    clear hs
    have hq := fun w' : World => run_eqlNil (P := Try.prog) w' 23 5 none n cap Try.underlying23
    go_enter Try.func40, Try.ntmps40
    go_wp2_with fail
    go_ret
    exact ⟨_, 0, rfl, World.ownsRow_nil _ _ _ _, Below.refl _ _⟩
  | some x =>
    clear hs
    have hq := fun w' : World => run_eqlNil (P := Try.prog) w' 23 5 (some x) n cap Try.underlying23
    have HO0 := Lib.hid (own_empty w w.heap.size 5 (Nat.le_refl _))
    have HB0 := Lib.hid ((Below.refl w.heap.size w).alloc (Nat.le_refl _) (.cells #[] 5))
    go_enter Try.func40, Try.ntmps40
    go_wp2_with (at_builtin; first
      | (refine wpList_app1 oneB rfl _ _ _ rfl w.heap.size _ _ _ rfl HO0.out _ _ _ rfl ((HS.out.below HB0.out).src encB_cell Try.underlying23 _) (by omega) (by unfold maxLen; omega) HB0.out.size ?_; intro v2 w2 hown2 hg2 hb2; have HO2 := Lib.hid hown2; have HB2 := Lib.hid (HB0.out.trans hb2); clear hown2 hg2 hb2))
    go_ret
    exact ⟨_, _, rfl, by simpa using HO2.out, HB2.out⟩
end Go.Proofs.Ytdnnodpchjnleaa
