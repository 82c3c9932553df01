/- nor: the reference's there. No condition. -/
import Derived.Test.YtdnnodpchjnleaaNorFn5
namespace Go.Proofs.Ytdnnodpchjnleaa
open Go.ChangeShapes Go.WideShapes Go.ChangeAt Go.RowKit
end Go.Proofs.Ytdnnodpchjnleaa
