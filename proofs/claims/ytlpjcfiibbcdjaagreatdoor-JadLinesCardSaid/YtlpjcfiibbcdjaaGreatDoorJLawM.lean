/- jad: the walk of JadLines, of what came in. No condition. -/
import Derived.Test.YtlpjcfiibbcdjaaGreatDoorJLawL
import Derived.Test.YtlpjcfiibbcdjaaGreatDoorJOpen
import Derived.Test.YtlpjcfiibbcdjaaGreatDoorBytesOpen
namespace Go.Proofs.YtlpjcfiibbcdjaaGreatDoor
open Go.ChangeShapes Go.WideShapes Go.ChangeAt Go.RowKit
theorem walk_JadLinesR (j : JD) (a : Option Addr) (len cap : Nat) (z : List Int) (how : Int) (w : World) (hh : j.hash.length = 32) (hn : j.name.length ≤ 281474976710656) (hm : j.main.length ≤ 281474976710656) (hv : VW w) (h0 : IsRow .u8 w a len cap z) (hw : (Lit.int .u8 how).wf = true) :
    Calls Tryz.prog 5 #[j.val, .slice a len cap, .int .u8 how] w fun e w' => e = .returned (.bool true) ∧ Below w.heap.size w w' := by
  obtain ⟨bs, hs, _⟩ := Bs.ofRow h0
  have h2 : 0 ≤ how ∧ how < 256 := by
    simp [Lit.wf, IntKind.min, IntKind.max, IntKind.signed, IntKind.bits] at hw
    omega
  have := walk_JadLines j hh a len cap bs how.toNat w hv hn hm hs (by omega)
  rwa [Int.toNat_of_nonneg h2.1] at this
end Go.Proofs.YtlpjcfiibbcdjaaGreatDoor
