/- asm: own texts, merged (wip/merge2.py). No condition. -/
import Derived.Test.YtclpkipaehpkdaaGreatDoorQ29AsmNames
import Derived.Test.YtclpkipaehpkdaaGreatDoorQ04AsmNames
import Derived.Test.YtclpkipaehpkdaaGreatDoorQ30AsmNames
import Derived.Test.YtclpkipaehpkdaaGreatDoorRows
import Derived.SizedLaws
import Derived.LaidHandle
import Derived.OpenShut
import Derived.Lib.SmallJoins
import Derived.WideShapes
import Derived.ProofKit
import Derived.Test.YtclpkipaehpkdaaGreatDoorQ03AsmNames
set_option linter.unusedVariables false
set_option linter.unusedSimpArgs false
namespace Go.Proofs.YtclpkipaehpkdaaGreatDoor
open Go.ChangeShapes Go.WideShapes Go.ChangeAt Go.RowKit
def fxI : List IN := [⟨167, 1, 0, [], [], [], []⟩, ⟨177, 0, 0, [], [], [], []⟩]
def fxM (ca : Option Addr) (cc : Nat) : UM := ⟨true, [103, 111], [40, 41, 86], 0, 0, ca, 2, cc, fxI, none, 0, 0, [], none, 0, 0, []⟩
def fxF : UF := ⟨false, [120], [73]⟩
def fxU (fa ma ca : Option Addr) (fc mc cc : Nat) : UU := ⟨[97, 47, 66], [], fa, 1, fc, [fxF], ma, 1, mc, [fxM ca cc]⟩
theorem fx_low (fa ma ca : Option Addr) (fc mc cc : Nat) : lowE (fxU fa ma ca fc mc cc) = 0 := by kernel_rfl
theorem fx_lowp (fa ma ca : Option Addr) (fc mc cc : Nat) : (lowS (fxU fa ma ca fc mc cc)).2 = (lowS (fxU none none none 0 0 0)).2 := by kernel_rfl
theorem u0_low : lowE u0 = 8 := by kernel_rfl
def fxL : KF := (lowS (fxU none none none 0 0 0)).2
def fxK : KM := (fxL.methods.head?).getD ⟨0, 0, 0, 0, 0, none, 0, 0, [], none, 0, 0, [], none, 0, 0, []⟩
theorem fxL_methods : fxL.methods = [fxK] := by kernel_rfl
theorem fxK_maps : fxK.maps = [] := by kernel_rfl
theorem fx_c (pa fa ma ca ta na : Option Addr) (pn pc fn fc mn mc cn cc tn tc nn nc : Nat) : liftC ⟨pa, pn, pc, fxL.pool, fxL.th, fxL.su, fa, fn, fc, fxL.fields, ma, mn, mc, [⟨fxK.fl, fxK.nm, fxK.ds, fxK.st, fxK.lo, ca, cn, cc, fxK.code, ta, tn, tc, fxK.traps, na, nn, nc, []⟩]⟩ = true := by kernel_rfl
theorem fx_v (pa fa ma ca ta na : Option Addr) (pn pc fn fc mn mc cn cc tn tc nn nc : Nat) : liftV ⟨pa, pn, pc, fxL.pool, fxL.th, fxL.su, fa, fn, fc, fxL.fields, ma, mn, mc, [⟨fxK.fl, fxK.nm, fxK.ds, fxK.st, fxK.lo, ca, cn, cc, fxK.code, ta, tn, tc, fxK.traps, na, nn, nc, []⟩]⟩ = (fxU none none none 0 0 0).p := by kernel_rfl
theorem fx_lift (x : KF) (h : x.lp = fxL) : liftC x = true ∧ liftV x = (fxU none none none 0 0 0).p := by
  obtain ⟨pa, pn, pc, pool, th, su, fa, fn, fc, fields, ma, mn, mc, methods⟩ := x
  unfold KF.lp at h
  dsimp only at h
  have h1 : pool = fxL.pool := congrArg KF.pool h
  have h2 : th = fxL.th := congrArg KF.th h
  have h3 : su = fxL.su := congrArg KF.su h
  have h4 : fields = fxL.fields := congrArg KF.fields h
  have h5 : methods.map KM.lp = [fxK] := (congrArg KF.methods h).trans fxL_methods
  have hl := congrArg List.length h5
  rw [List.length_map] at hl
  obtain ⟨m, rfl⟩ := List.length_eq_one_iff.1 hl
  have h6 : m.lp = fxK := by simpa using h5
  obtain ⟨fl, nm, ds, st, lo, ca, cn, cc, code, ta, tn, tc, traps, na, nn, nc, maps⟩ := m
  unfold KM.lp at h6
  dsimp only at h6
  have e1 : fl = fxK.fl := congrArg KM.fl h6
  have e2 : nm = fxK.nm := congrArg KM.nm h6
  have e3 : ds = fxK.ds := congrArg KM.ds h6
  have e4 : st = fxK.st := congrArg KM.st h6
  have e5 : lo = fxK.lo := congrArg KM.lo h6
  have e6 : code = fxK.code := congrArg KM.code h6
  have e7 : traps = fxK.traps := congrArg KM.traps h6
  have e8 : maps.map KP.lp = [] := (congrArg KM.maps h6).trans fxK_maps
  obtain rfl : maps = [] := List.map_eq_nil_iff.1 e8
  subst h1 h2 h3 h4 e1 e2 e3 e4 e5 e6 e7
  exact ⟨fx_c .., fx_v ..⟩
end Go.Proofs.YtclpkipaehpkdaaGreatDoor

namespace Go.Proofs.YtclpkipaehpkdaaGreatDoor
open Go.ChangeShapes Go.WideShapes Go.ChangeAt Go.RowKit
theorem fxU_fit (fa ma ca : Option Addr) (fc mc cc : Nat) : (fxU fa ma ca fc mc cc).Fit := by
  refine ⟨by simp [fxU], by simp [fxU], by simp [fxU], fun f hf => ?_, by simp [fxU], fun m hm => ?_⟩
  · obtain rfl : f = fxF := by simpa [fxU] using hf
    simp [fxF]
  · obtain rfl : m = fxM ca cc := by simpa [fxU] using hm
    refine ⟨by simp [fxM], by simp [fxM], by simp [fxM, fxI], fun x hx => ?_, by simp [fxM], fun t ht => by simp [fxM] at ht, by simp [fxM], fun p hp => by simp [fxM] at hp⟩
    have : x = ⟨167, 1, 0, [], [], [], []⟩ ∨ x = ⟨177, 0, 0, [], [], [], []⟩ := by simpa [fxM, fxI] using hx
    rcases this with rfl | rfl
    · exact ⟨by decide, by constructor <;> decide, by constructor <;> decide, by simp, by simp, by simp, by simp⟩
    · exact ⟨by decide, by constructor <;> decide, by constructor <;> decide, by simp, by simp, by simp, by simp⟩
theorem u0_fit : u0.Fit := ⟨by simp [u0], by simp [u0], by simp [u0], fun f hf => by simp [u0] at hf, by simp [u0], fun f hf => by simp [u0] at hf⟩
theorem u0_rd (w : World) : u0.Rd w := ⟨Ss.nil _ _, Ss.nil _ _, fun m hm => by cases hm⟩
def zf : KF := ⟨none, 0, 0, [], 0, 0, none, 0, 0, [], none, 0, 0, []⟩
theorem zf_rd (w : World) : zf.Rd w := ⟨Ss.nil _ _, Ss.nil _ _, Ss.nil _ _, fun m hm => by cases hm⟩
theorem zf_fit : zf.Fit := ⟨by decide, fun i hi => by simp [zf] at hi, by decide, by decide, fun d hd => by simp [zf] at hd, fun d hd => by simp [zf] at hd⟩
theorem zf_ok : classOk zf = false := by kernel_rfl
theorem kAt_short {f : KF} {w : World} (hr : f.Rd w) (hf : f.Fit) (i : Int) : (kAt f.pool i).s.length ≤ 65536 := by
  have hl := hr.pool.1
  by_cases h : 0 ≤ i ∧ i < f.pn
  · obtain ⟨k, rfl⟩ := Int.eq_ofNat_of_zero_le h.1
    exact hf.ps k (by omega)
  · unfold kAt
    by_cases h2 : i.toNat < f.pool.length
    · by_cases h3 : 0 ≤ i
      · omega
      · have h4 := hf.ps 0 (by omega)
        unfold kAt at h4
        rw [show i.toNat = 0 by omega]
        exact h4
    · rw [List.getD_eq_getElem?_getD, List.getElem?_eq_none (by omega)]
      simp [kz]
set_option maxRecDepth 100000 in
set_option maxHeartbeats 8000000 in
theorem fixed_any (w : World) (hv : VW w) : Calls Tryz.prog 8 #[] w (fun e w' => e = .returned (.bool true) ∧ Below w.heap.size w w') := by
  have hs1 : (w.alloc (.cells #[.bool false, .string ⟨#[120]⟩, .string ⟨#[73]⟩] 52)).heap.size = w.heap.size + 1 := by simp
  have hs2 : ((w.alloc (.cells #[.bool false, .string ⟨#[120]⟩, .string ⟨#[73]⟩] 52)).alloc (.cells #[.int .u8 167, .int .i64 1, .int .i64 0, .string ⟨#[]⟩, .string ⟨#[]⟩, .string ⟨#[]⟩, .string ⟨#[]⟩, .int .u8 177, .int .i64 0, .int .i64 0, .string ⟨#[]⟩, .string ⟨#[]⟩, .string ⟨#[]⟩, .string ⟨#[]⟩] InsT)).heap.size = w.heap.size + 1 + 1 := by simp
  have hs3 : (((w.alloc (.cells #[.bool false, .string ⟨#[120]⟩, .string ⟨#[73]⟩] 52)).alloc (.cells #[.int .u8 167, .int .i64 1, .int .i64 0, .string ⟨#[]⟩, .string ⟨#[]⟩, .string ⟨#[]⟩, .string ⟨#[]⟩, .int .u8 177, .int .i64 0, .int .i64 0, .string ⟨#[]⟩, .string ⟨#[]⟩, .string ⟨#[]⟩, .string ⟨#[]⟩] InsT)).alloc (.cells #[.bool true, .string ⟨#[103, 111]⟩, .string ⟨#[40, 41, 86]⟩, .int .i64 0, .int .i64 0, .slice (some ⟨w.heap.size + 1, 0, none⟩) 2 2, .slice none 0 0, .slice none 0 0] MethT)).heap.size = w.heap.size + 1 + 1 + 1 := by simp
  have b1 : Below w.heap.size w (w.alloc (.cells #[.bool false, .string ⟨#[120]⟩, .string ⟨#[73]⟩] 52)) := below_1 _ _
  have b2 := below_1 (w.alloc (.cells #[.bool false, .string ⟨#[120]⟩, .string ⟨#[73]⟩] 52)) (.cells #[.int .u8 167, .int .i64 1, .int .i64 0, .string ⟨#[]⟩, .string ⟨#[]⟩, .string ⟨#[]⟩, .string ⟨#[]⟩, .int .u8 177, .int .i64 0, .int .i64 0, .string ⟨#[]⟩, .string ⟨#[]⟩, .string ⟨#[]⟩, .string ⟨#[]⟩] InsT)
  have b3 := below_1 ((w.alloc (.cells #[.bool false, .string ⟨#[120]⟩, .string ⟨#[73]⟩] 52)).alloc (.cells #[.int .u8 167, .int .i64 1, .int .i64 0, .string ⟨#[]⟩, .string ⟨#[]⟩, .string ⟨#[]⟩, .string ⟨#[]⟩, .int .u8 177, .int .i64 0, .int .i64 0, .string ⟨#[]⟩, .string ⟨#[]⟩, .string ⟨#[]⟩, .string ⟨#[]⟩] InsT)) (.cells #[.bool true, .string ⟨#[103, 111]⟩, .string ⟨#[40, 41, 86]⟩, .int .i64 0, .int .i64 0, .slice (some ⟨w.heap.size + 1, 0, none⟩) 2 2, .slice none 0 0, .slice none 0 0] MethT)
  have b4 := below_1 (((w.alloc (.cells #[.bool false, .string ⟨#[120]⟩, .string ⟨#[73]⟩] 52)).alloc (.cells #[.int .u8 167, .int .i64 1, .int .i64 0, .string ⟨#[]⟩, .string ⟨#[]⟩, .string ⟨#[]⟩, .string ⟨#[]⟩, .int .u8 177, .int .i64 0, .int .i64 0, .string ⟨#[]⟩, .string ⟨#[]⟩, .string ⟨#[]⟩, .string ⟨#[]⟩] InsT)).alloc (.cells #[.bool true, .string ⟨#[103, 111]⟩, .string ⟨#[40, 41, 86]⟩, .int .i64 0, .int .i64 0, .slice (some ⟨w.heap.size + 1, 0, none⟩) 2 2, .slice none 0 0, .slice none 0 0] MethT)) (.cells #[.string ⟨#[97, 47, 66]⟩, .string ⟨#[]⟩, .slice (some ⟨w.heap.size, 0, none⟩) 1 1, .slice (some ⟨w.heap.size + 1 + 1, 0, none⟩) 1 1] UnitT)
  have r1 := row_below (row_below (row_below (heap_alloc_last w (.cells #[.bool false, .string ⟨#[120]⟩, .string ⟨#[73]⟩] 52)) b2) b3) b4
  have r2 := row_below (row_below (heap_alloc_last (w.alloc (.cells #[.bool false, .string ⟨#[120]⟩, .string ⟨#[73]⟩] 52)) (.cells #[.int .u8 167, .int .i64 1, .int .i64 0, .string ⟨#[]⟩, .string ⟨#[]⟩, .string ⟨#[]⟩, .string ⟨#[]⟩, .int .u8 177, .int .i64 0, .int .i64 0, .string ⟨#[]⟩, .string ⟨#[]⟩, .string ⟨#[]⟩, .string ⟨#[]⟩] InsT)) b3) b4
  have r3 := row_below (heap_alloc_last ((w.alloc (.cells #[.bool false, .string ⟨#[120]⟩, .string ⟨#[73]⟩] 52)).alloc (.cells #[.int .u8 167, .int .i64 1, .int .i64 0, .string ⟨#[]⟩, .string ⟨#[]⟩, .string ⟨#[]⟩, .string ⟨#[]⟩, .int .u8 177, .int .i64 0, .int .i64 0, .string ⟨#[]⟩, .string ⟨#[]⟩, .string ⟨#[]⟩, .string ⟨#[]⟩] InsT)) (.cells #[.bool true, .string ⟨#[103, 111]⟩, .string ⟨#[40, 41, 86]⟩, .int .i64 0, .int .i64 0, .slice (some ⟨w.heap.size + 1, 0, none⟩) 2 2, .slice none 0 0, .slice none 0 0] MethT)) b4
  have r4 := heap_alloc_last (((w.alloc (.cells #[.bool false, .string ⟨#[120]⟩, .string ⟨#[73]⟩] 52)).alloc (.cells #[.int .u8 167, .int .i64 1, .int .i64 0, .string ⟨#[]⟩, .string ⟨#[]⟩, .string ⟨#[]⟩, .string ⟨#[]⟩, .int .u8 177, .int .i64 0, .int .i64 0, .string ⟨#[]⟩, .string ⟨#[]⟩, .string ⟨#[]⟩, .string ⟨#[]⟩] InsT)).alloc (.cells #[.bool true, .string ⟨#[103, 111]⟩, .string ⟨#[40, 41, 86]⟩, .int .i64 0, .int .i64 0, .slice (some ⟨w.heap.size + 1, 0, none⟩) 2 2, .slice none 0 0, .slice none 0 0] MethT)) (.cells #[.string ⟨#[97, 47, 66]⟩, .string ⟨#[]⟩, .slice (some ⟨w.heap.size, 0, none⟩) 1 1, .slice (some ⟨w.heap.size + 1 + 1, 0, none⟩) 1 1] UnitT)
  rw [hs1] at r2
  rw [hs2] at r3
  rw [hs3] at r4
  have hB0 : Below w.heap.size w ((((w.alloc (.cells #[.bool false, .string ⟨#[120]⟩, .string ⟨#[73]⟩] 52)).alloc (.cells #[.int .u8 167, .int .i64 1, .int .i64 0, .string ⟨#[]⟩, .string ⟨#[]⟩, .string ⟨#[]⟩, .string ⟨#[]⟩, .int .u8 177, .int .i64 0, .int .i64 0, .string ⟨#[]⟩, .string ⟨#[]⟩, .string ⟨#[]⟩, .string ⟨#[]⟩] InsT)).alloc (.cells #[.bool true, .string ⟨#[103, 111]⟩, .string ⟨#[40, 41, 86]⟩, .int .i64 0, .int .i64 0, .slice (some ⟨w.heap.size + 1, 0, none⟩) 2 2, .slice none 0 0, .slice none 0 0] MethT)).alloc (.cells #[.string ⟨#[97, 47, 66]⟩, .string ⟨#[]⟩, .slice (some ⟨w.heap.size, 0, none⟩) 1 1, .slice (some ⟨w.heap.size + 1 + 1, 0, none⟩) 1 1] UnitT)) := ((((Below.refl w.heap.size w).alloc (Nat.le_refl _) _).alloc (by simp) _).alloc (by simp; omega) _).alloc (by simp; omega) _
  have hrd : (fxU (some ⟨w.heap.size, 0, none⟩) (some ⟨w.heap.size + 1 + 1, 0, none⟩) (some ⟨w.heap.size + 1, 0, none⟩) 1 1 2).Rd ((((w.alloc (.cells #[.bool false, .string ⟨#[120]⟩, .string ⟨#[73]⟩] 52)).alloc (.cells #[.int .u8 167, .int .i64 1, .int .i64 0, .string ⟨#[]⟩, .string ⟨#[]⟩, .string ⟨#[]⟩, .string ⟨#[]⟩, .int .u8 177, .int .i64 0, .int .i64 0, .string ⟨#[]⟩, .string ⟨#[]⟩, .string ⟨#[]⟩, .string ⟨#[]⟩] InsT)).alloc (.cells #[.bool true, .string ⟨#[103, 111]⟩, .string ⟨#[40, 41, 86]⟩, .int .i64 0, .int .i64 0, .slice (some ⟨w.heap.size + 1, 0, none⟩) 2 2, .slice none 0 0, .slice none 0 0] MethT)).alloc (.cells #[.string ⟨#[97, 47, 66]⟩, .string ⟨#[]⟩, .slice (some ⟨w.heap.size, 0, none⟩) 1 1, .slice (some ⟨w.heap.size + 1 + 1, 0, none⟩) 1 1] UnitT)) := by
    refine ⟨Ss.lit UF.cells_length r1 rfl rfl, Ss.lit UM.cells_length r3 rfl rfl, fun m hm => ?_⟩
    obtain rfl : m = fxM (some ⟨w.heap.size + 1, 0, none⟩) 2 := by simpa [fxU] using hm
    exact ⟨Ss.lit IN.cells_length r2 rfl rfl, Ss.nil _ _, Ss.nil _ _, fun p hp => by simp [fxM] at hp⟩
  have HU := Lib.hid hrd
  have HB0 := Lib.hid hB0
  have HG := Lib.hid r4
  have HV := Lib.hid hv
  clear hs1 hs2 hs3 b1 b2 b3 b4 r1 r2 r3 r4 hB0 hrd hv
  go_enter Tryz.func8, Tryz.ntmps8
  go_upto_region 2 with fail
  generalize ((((w.alloc (.cells #[.bool false, .string ⟨#[120]⟩, .string ⟨#[73]⟩] 52)).alloc (.cells #[.int .u8 167, .int .i64 1, .int .i64 0, .string ⟨#[]⟩, .string ⟨#[]⟩, .string ⟨#[]⟩, .string ⟨#[]⟩, .int .u8 177, .int .i64 0, .int .i64 0, .string ⟨#[]⟩, .string ⟨#[]⟩, .string ⟨#[]⟩, .string ⟨#[]⟩] InsT)).alloc (.cells #[.bool true, .string ⟨#[103, 111]⟩, .string ⟨#[40, 41, 86]⟩, .int .i64 0, .int .i64 0, .slice (some ⟨w.heap.size + 1, 0, none⟩) 2 2, .slice none 0 0, .slice none 0 0] MethT)).alloc (.cells #[.string ⟨#[97, 47, 66]⟩, .string ⟨#[]⟩, .slice (some ⟨w.heap.size, 0, none⟩) 1 1, .slice (some ⟨w.heap.size + 1 + 1, 0, none⟩) 1 1] UnitT)) = W0 at *
  have HLO := Lib.hid (aLower_any W0 (fxU (some ⟨w.heap.size, 0, none⟩) (some ⟨w.heap.size + 1 + 1, 0, none⟩) (some ⟨w.heap.size + 1, 0, none⟩) 1 1 2) HU.out (fxU_fit _ _ _ _ _ _) (HV.out.below HB0.out))
  unfold LowRet at HLO
  rw [fx_low] at HLO
  have HLN : Hid (Calls Tryz.prog 14 #[.agg #[.string ⟨#[97, 47, 66]⟩, .string ⟨#[]⟩, .slice (some ⟨w.heap.size, 0, none⟩) 1 1, .slice (some ⟨w.heap.size + 1 + 1, 0, none⟩) 1 1]] W0 (fun e w' => ∃ x : KF, e = .returned (.tuple #[.agg x.cells.toArray, .int .i64 0]) ∧ x.lp = fxL ∧ x.Rd w' ∧ x.Fit ∧ Below W0.heap.size W0 w')) := by
    refine Lib.hid (HLO.out.mono ?_)
    rintro e w' ⟨x, h1, h2, -, h4⟩
    obtain ⟨h5, h6, h7⟩ := h2 rfl
    exact ⟨x, h1, h5.trans (fx_lowp _ _ _ _ _ _), h6, h7, h4⟩
  clear HLO
  have k0 : W0.cell? ⟨w.heap.size + 1 + 1 + 1, 0, none⟩ = some (.string ⟨#[97, 47, 66]⟩) := row_cell HG.out 0 rfl
  have k1 : W0.cell? ⟨w.heap.size + 1 + 1 + 1, 1, none⟩ = some (.string ⟨#[]⟩) := row_cell HG.out 1 rfl
  have k2 : W0.cell? ⟨w.heap.size + 1 + 1 + 1, 2, none⟩ = some (.slice (some ⟨w.heap.size, 0, none⟩) 1 1) := row_cell HG.out 2 rfl
  have k3 : W0.cell? ⟨w.heap.size + 1 + 1 + 1, 3, none⟩ = some (.slice (some ⟨w.heap.size + 1 + 1, 0, none⟩) 1 1) := row_cell HG.out 3 rfl
  go_wp2_with fail
  clear k0 k1 k2 k3
  refine HLN.out.mono ?_
  clear HLN
  rintro e w1 ⟨x, rfl, hxl, hxr, hxf, hb1⟩
  have HB1 := Lib.hid (HB0.out.trans (hb1.mono HB0.out.size))
  have HG1 := Lib.hid (row_below HG.out hb1)
  have HU1 := Lib.hid (HU.out.below hb1)
  clear hb1 HB0 HG HU
  obtain ⟨hlc, hlv⟩ := fx_lift x hxl
  have HLC := Lib.hid hlc
  have HLV := Lib.hid hlv
  clear hxl hlc hlv
  have hal : Below w1.heap.size w1 (w1.alloc (.cells x.cells.toArray 26)) := below_1 _ _
  have hra := heap_alloc_last w1 (.cells x.cells.toArray 26)
  have HLI := Lib.hid (aLift_any (w1.alloc (.cells x.cells.toArray 26)) x (hxr.below hal) hxf (HV.out.below (HB1.out.trans (hal.mono HB1.out.size))) (kAt_short hxr hxf))
  have HB2 := Lib.hid (HB1.out.trans (hal.mono HB1.out.size))
  have HG2 := Lib.hid (row_below HG1.out hal)
  have HU2 := Lib.hid (HU1.out.below hal)
  have c0 : (w1.alloc (.cells x.cells.toArray 26)).cell? ⟨w1.heap.size, 0, none⟩ = some (.slice x.pa x.pn x.pc) := row_cell hra 0 rfl
  have c1 : (w1.alloc (.cells x.cells.toArray 26)).cell? ⟨w1.heap.size, 1, none⟩ = some (.int .i64 x.th) := row_cell hra 1 rfl
  have c2 : (w1.alloc (.cells x.cells.toArray 26)).cell? ⟨w1.heap.size, 2, none⟩ = some (.int .i64 x.su) := row_cell hra 2 rfl
  have c3 : (w1.alloc (.cells x.cells.toArray 26)).cell? ⟨w1.heap.size, 3, none⟩ = some (.slice x.fa x.fn x.fc) := row_cell hra 3 rfl
  have c4 : (w1.alloc (.cells x.cells.toArray 26)).cell? ⟨w1.heap.size, 4, none⟩ = some (.slice x.ma x.mn x.mc) := row_cell hra 4 rfl
  clear hal hra hxr hxf HB1 HG1 HU1
  obtain ⟨pa, pn, pc, pool, th, su, fa, fn, fc, fields, ma, mn, mc, methods⟩ := x
  dsimp only [KF.cells] at *
  go_upto_region 3 with fail
  generalize w1.alloc (.cells #[.slice pa pn pc, .int .i64 th, .int .i64 su, .slice fa fn fc, .slice ma mn mc] 26) = W2 at *
  go_wp2_with fail
  clear c0 c1 c2 c3 c4
  refine HLI.out.mono ?_
  clear HLI
  rintro e w2 ⟨v, er, rfl, h1, h2, -, -, ho, hb2⟩
  obtain rfl : er = 0 := h1.2 HLC.out
  have HVP := Lib.hid ((h2 rfl).trans HLV.out)
  have hal := below_1 w2 (.cells v.cells.toArray UnitT)
  have hbv := hb2.trans (hal.mono hb2.size)
  have HB3 := Lib.hid (HB2.out.trans (hbv.mono HB2.out.size))
  have HG3 := Lib.hid (row_below HG2.out hbv)
  have HU3 := Lib.hid (HU2.out.below hbv)
  have HVR := Lib.hid (ho.rd.below hal)
  have HVG := Lib.hid (heap_alloc_last w2 (.cells v.cells.toArray UnitT))
  obtain ⟨g4, hg4⟩ : ∃ g, g = w2.heap.size := ⟨_, rfl⟩
  clear h1 h2 ho hb2 hal hbv HB2 HG2 HU2 HLC HLV
  obtain ⟨nm2, su2, fa2, fn2, fc2, fields2, ma2, mn2, mc2, methods2⟩ := v
  dsimp only [UU.cells] at *
  go_upto_region 4 with fail
  generalize w2.alloc (.cells #[.string ⟨nm2.toArray⟩, .string ⟨su2.toArray⟩, .slice fa2 fn2 fc2, .slice ma2 mn2 mc2] UnitT) = W3 at *
  rw [← hg4] at HVG ⊢
  clear hg4
  have HLZ := Lib.hid (aLift_any W3 zf (zf_rd _) zf_fit (HV.out.below HB3.out) (fun i => kAt_short (zf_rd W3) zf_fit i))
  dsimp only [zf] at HLZ
  go_wp2_with fail
  refine HLZ.out.mono ?_
  clear HLZ
  rintro e w3 ⟨z, er, rfl, -, -, -, h8, -, hb3⟩
  obtain rfl : er = 8 := h8 zf_ok
  have hal := below_1 w3 (.cells z.cells.toArray UnitT)
  have hbv := hb3.trans (hal.mono hb3.size)
  have HB4 := Lib.hid (HB3.out.trans (hbv.mono HB3.out.size))
  have HG4 := Lib.hid (row_below HG3.out hbv)
  have HU4 := Lib.hid (HU3.out.below hbv)
  have HVR4 := Lib.hid (HVR.out.below hbv)
  have HVG4 := Lib.hid (row_below HVG.out hbv)
  clear h8 hb3 hal hbv HB3 HG3 HU3 HVR HVG
  obtain ⟨nm3, su3, fa3, fn3, fc3, fields3, ma3, mn3, mc3, methods3⟩ := z
  dsimp only [UU.cells] at *
  go_upto_region 5 with fail
  generalize w3.alloc (.cells #[.string ⟨nm3.toArray⟩, .string ⟨su3.toArray⟩, .slice fa3 fn3 fc3, .slice ma3 mn3 mc3] UnitT) = W4 at *
  have HLE := Lib.hid (aLower_any W4 u0 (u0_rd _) u0_fit (HV.out.below HB4.out))
  unfold LowRet at HLE
  rw [u0_low] at HLE
  dsimp only [u0, UU.cells] at HLE
  go_wp2_with fail
  refine HLE.out.mono ?_
  clear HLE
  rintro e w4 ⟨z, rfl, -, h8, hb3⟩
  obtain rfl := h8 (by decide)
  have hal := below_1 w4 (.cells #[.slice none 0 0, .int .i64 0, .int .i64 0, .slice none 0 0, .slice none 0 0] 26)
  have hbv := hb3.trans (hal.mono hb3.size)
  have HB5 := Lib.hid (HB4.out.trans (hbv.mono HB4.out.size))
  have HG5 := Lib.hid (row_below HG4.out hbv)
  have HU5 := Lib.hid (HU4.out.below hbv)
  have HVR5 := Lib.hid (HVR4.out.below hbv)
  have HVG5 := Lib.hid (row_below HVG4.out hbv)
  clear h8 hb3 hal hbv HB4 HG4 HU4 HVR4 HVG4
  dsimp only [KF.cells]
  go_upto_region 6 with fail
  generalize w4.alloc (.cells #[.slice none 0 0, .int .i64 0, .int .i64 0, .slice none 0 0, .slice none 0 0] 26) = W5 at *
  have HSA := Lib.hid (SameU_yes W5 _ _ HU5.out HVR5.out (by rw [HVP.out]; rfl) (fxU_fit _ _ _ _ _ _))
  dsimp only [fxU, UU.cells] at HSA
  have HI1 := Lib.hid (fun (W : World) (h : Below W5.heap.size W5 W) => IsName_any W [97, 36] (by decide) (HV.out.below (HB5.out.trans (h.mono HB5.out.size))))
  have HI2 := Lib.hid (fun (W : World) (h : Below W5.heap.size W5 W) => IsName_any W [97, 47, 98] (by decide) (HV.out.below (HB5.out.trans (h.mono HB5.out.size))))
  rw [show memB [97, 36] = true by kernel_rfl] at HI1
  rw [show memB [97, 47, 98] = false by kernel_rfl] at HI2
  have k0 : W5.cell? ⟨w.heap.size + 1 + 1 + 1, 0, none⟩ = some (.string ⟨#[97, 47, 66]⟩) := row_cell HG5.out 0 rfl
  have k1 : W5.cell? ⟨w.heap.size + 1 + 1 + 1, 1, none⟩ = some (.string ⟨#[]⟩) := row_cell HG5.out 1 rfl
  have k2 : W5.cell? ⟨w.heap.size + 1 + 1 + 1, 2, none⟩ = some (.slice (some ⟨w.heap.size, 0, none⟩) 1 1) := row_cell HG5.out 2 rfl
  have k3 : W5.cell? ⟨w.heap.size + 1 + 1 + 1, 3, none⟩ = some (.slice (some ⟨w.heap.size + 1 + 1, 0, none⟩) 1 1) := row_cell HG5.out 3 rfl
  have c0 : W5.cell? ⟨g4, 0, none⟩ = some (.string ⟨nm2.toArray⟩) := row_cell HVG5.out 0 rfl
  have c1 : W5.cell? ⟨g4, 1, none⟩ = some (.string ⟨su2.toArray⟩) := row_cell HVG5.out 1 rfl
  have c2 : W5.cell? ⟨g4, 2, none⟩ = some (.slice fa2 fn2 fc2) := row_cell HVG5.out 2 rfl
  have c3 : W5.cell? ⟨g4, 3, none⟩ = some (.slice ma2 mn2 mc2) := row_cell HVG5.out 3 rfl
  go_wp2_with fail
  clear k0 k1 k2 k3 c0 c1 c2 c3
  refine HSA.out.mono ?_
  clear HSA
  rintro e w5 ⟨rfl, hb5⟩
  go_wp2_with fail
  refine (HI1.out _ hb5).mono ?_
  rintro e w6 ⟨rfl, hb6⟩
  have hb56 := hb5.trans (hb6.mono hb5.size)
  go_wp2_with fail
  refine (HI2.out _ hb56).mono ?_
  rintro e w7 ⟨rfl, hb7⟩
  have hb57 := hb56.trans (hb7.mono hb56.size)
  go_wp2_with fail
  go_ret
  exact ⟨rfl, HB5.out.trans (hb57.mono HB5.out.size)⟩
end Go.Proofs.YtclpkipaehpkdaaGreatDoor

namespace Go.Proofs.YtclpkipaehpkdaaGreatDoor
open Go.ChangeShapes Go.WideShapes Go.ChangeAt Go.RowKit Go.Joins Go.Deep
theorem reach_eqJ : reachBytes = 140737488351232 := rfl
section
variable {H : Type} {enc : TypeId × Value → H} {w : World} {r : Reach} {b0 : Nat} {v : Value} {d : DataW H} {p : List MemPlace}
set_option maxRecDepth 100000 in
theorem open_strJ (hv : Value.okWide Tryz.prog w r b0 9 v) (h : DataW.Trod enc Tryz.prog w 0 (fun _ => true) true 9 v d p) (hw : ∀ m ∈ d.weights Tryz.prog 9, m ≤ reachBytes) :
    ∃ s : List UInt8, v = .string ⟨s.toArray⟩ ∧ s.length ≤ 281474976710656 := by
  obtain ⟨s, rfl, rfl, _, _⟩ := Go.ChangeMaps.open_string Tryz.underlying9 hv h
  have h1 := hw _ (by simp [DataW.weights]; rfl)
  rw [reach_eqJ] at h1
  refine ⟨s.data.toList, by simp [bytes_str], by simpa using (by omega : s.size ≤ 281474976710656)⟩
end
theorem vw_of {W : World} {r : List (String × DataW Unit)} (hsh : W.ShapedOpen Tryz.prog) (_ : laidMet Tryz.prog r W) : VW W :=
  ⟨cell_of_shapedOpen_int (t := 3) (k := .i64) hsh (g := 0) (of_decide_eq_true (by kernel_rfl)) (zero := #[.int .i64 0]) (by kernel_rfl) rfl (by kernel_rfl) (by kernel_rfl) Tryz.underlying3⟩
theorem handed_and_shaped {H : Type} {enc : TypeId × Value → H} {a : Assume} {C : Checked} {os : Os} {f : FuncId} {fn : Func} {s : ChangeSpec} {conds : List PathCond} {apart fresh handsOn again : Bool} {X : World → Array Value → Prop}
    (hX : ∀ (w w' : World) (args : Array Value), w.heap = w'.heap → X w args → X w' args)
    (own : ownKnob C.prog.godebug = none) (started : os.Started) (noInit : C.prog.inits.idxOf? f = none) (hfn : C.prog.funcs[f]? = some fn)
    (witness : ∃ (w : World) (tape : Tape) (i : Input), w.os = os ∧ (w.forCall tape i).Shaped C.prog ∧ i.vars = [] ∧ Input.okWide C.prog (w.forCall tape i) .any w.heap.size f i ∧
      ((s.pre enc C.prog fn conds apart (w.forCall tape i).memory i.args ∧ X (w.forCall tape i).memory i.args) ∧ sizedMet enc C.prog fn (OpenSpec.ofChange s) apart (w.forCall tape i).memory i.args) ∧ a.holds C.prog (lone (Frame.enter C.prog f i.args .normal) [] (w.forCall tape i)))
    (contract : ∀ (W : World) (base : Nat) (args : Array Value) (ds gs : List (DataW H)) (before : List MemPlace),
      (∀ (j : Nat) t v, fn.params[j]? = some t → args[j]? = some v → Value.okWide C.prog W .any base t v) →
      DataW.Whole enc C.prog fn.params.toList s.vars apart W args.toList ds gs before →
      conds.all (PathCond.test C.prog ⟨fn.params.toList, ds, s.plain.varTypes C.prog, gs⟩) = true →
      (DataW.weightsEach C.prog (fn.params.toList ++ s.plain.varTypes C.prog) (ds ++ gs)).all (· ≤ reachBytes) = true → X W args → W.ShapedOpen C.prog →
      a.holds C.prog (lone (Frame.enter C.prog f args .normal) [] W) →
      Calls C.prog f args W fun e W' => ∃ v, e = .returned v ∧ s.post enc C.prog fn apart fresh handsOn again W args v W') :
    ReturnsInHanded a C os f .any (fun w args => (s.pre enc C.prog fn conds apart w args ∧ X w args) ∧ sizedMet enc C.prog fn (OpenSpec.ofChange s) apart w args) (s.post enc C.prog fn apart fresh handsOn again) := by
  refine returnsInHanded_of_calls own started noInit witness ?_
  intro w tape i _ hsh _ hok hpre hholds
  obtain ⟨_, _, _, fn', hfn', _, _, _, _, hval⟩ := hok
  have e : fn' = fn := Option.some.inj (hfn'.symm.trans hfn)
  subst e
  obtain ⟨⟨⟨ds, gs, before, hw, hc⟩, hx⟩, hz⟩ := hpre
  have hw' := DataW.Whole.of_heap (w' := w.forCall tape i) (by rfl) hw
  refine (contract (w.forCall tape i) w.heap.size i.args ds gs before hval hw' hc (hz.weights hw) (hX _ _ _ (by rfl) hx) hsh hholds).mono fun e W' ⟨v, he, hp⟩ => ?_
  subst he
  exact ChangeSpec.post_blind hp
end Go.Proofs.YtclpkipaehpkdaaGreatDoor

namespace Go.Proofs.YtclpkipaehpkdaaGreatDoor
open Go.ChangeShapes Go.WideShapes Go.ChangeAt Go.RowKit
set_option maxRecDepth 100000 in
set_option maxHeartbeats 8000000 in
theorem walk_AsmNames (w : World) (s : List UInt8) (hs : s.length ≤ 281474976710656) (hv : VW w) :
    Calls Tryz.prog 7 #[.string ⟨s.toArray⟩] w (fun e w' => e = .returned (.bool true) ∧ Below w.heap.size w w') := by
  have HF := Lib.hid (fixed_any w hv)
  have HV := Lib.hid hv
  obtain ⟨n, hn⟩ : ∃ n, n = s.length := ⟨_, rfl⟩
  have hsz : ((⟨s.toArray⟩ : ByteArray).size : Int) = (n : Int) := by rw [hn]; simp [ByteArray.size]
  have hsn : (⟨s.toArray⟩ : ByteArray).size = n := by rw [hn]; simp [ByteArray.size]
  by_cases h5 : n ≤ 500
  · have HI := Lib.hid (fun (W : World) (h : VW W) => IsName_any W s (by omega) h)
    have HR := Lib.hid (fun (W : World) => rIsName_any W s (by omega))
    generalize memB s = r at *
    have e1 : decide ((500 : Int) < (n : Int)) = false := by rw [decide_eq_false_iff_not]; omega
    have e2 : decide (500 < n) = false := by rw [decide_eq_false_iff_not]; omega
    clear hn hs
    go_enter Tryz.func7, Tryz.ntmps7
    go_wp2_with fail
    refine HF.out.mono ?_
    rintro e w1 ⟨rfl, hb1⟩
    have HB := Lib.hid hb1
    clear hb1
    go_wp2_with fail
    refine (HI.out _ (HV.out.below HB.out)).mono ?_
    rintro e w2 ⟨rfl, hb2⟩
    have HB2 := Lib.hid (HB.out.trans (hb2.mono HB.out.size))
    clear hb2
    go_wp2_with fail
    refine (HR.out _).mono ?_
    rintro e w3 ⟨rfl, rfl⟩
    have hrr : (r == r) = true := by simp
    go_wp2_with fail
    go_ret
    exact ⟨rfl, HB2.out⟩
  · have e1 : decide ((500 : Int) < (n : Int)) = true := by rw [decide_eq_true_iff]; omega
    have e2 : decide (500 < n) = true := by rw [decide_eq_true_iff]; omega
    clear hn hs
    go_enter Tryz.func7, Tryz.ntmps7
    go_wp2_with fail
    refine HF.out.mono ?_
    rintro e w1 ⟨rfl, hb1⟩
    have HB := Lib.hid hb1
    clear hb1
    go_wp2_with fail
    go_ret
    exact ⟨rfl, HB.out⟩
end Go.Proofs.YtclpkipaehpkdaaGreatDoor

