/- num: the walks of Get and Put, and the reference's. No condition. -/
import Derived.Test.YtlpjcfiibbcdjaaGreatDoorNumPlain
import Derived.Test.YtlpjcfiibbcdjaaGreatDoorLib3
import Derived.Test.YtlpjcfiibbcdjaaGreatDoorBits
namespace Go.Proofs.YtlpjcfiibbcdjaaGreatDoor
open Go.ChangeShapes Go.WideShapes Go.ChangeAt Go.RowKit
theorem oneN : OneE 41 5 (.int .u8 0) 1 := ⟨Tryz.underlying41, by kernel_rfl, rfl⟩

def IntR (n : Int) : Prop := -9223372036854775808 ≤ n ∧ n ≤ 9223372036854775807

end Go.Proofs.YtlpjcfiibbcdjaaGreatDoor
