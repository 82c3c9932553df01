/- nor: the reference's Read. No condition. -/
import Derived.Test.YtdnnodpchjnleaaNorFn6
namespace Go.Proofs.Ytdnnodpchjnleaa
open Go.ChangeShapes Go.WideShapes Go.ChangeAt Go.RowKit
end Go.Proofs.Ytdnnodpchjnleaa
