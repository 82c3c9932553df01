/- nor: the reference's Erase. No condition. -/
import Derived.Test.YtdnnodpchjnleaaNorFn8
namespace Go.Proofs.Ytdnnodpchjnleaa
open Go.ChangeShapes Go.WideShapes Go.ChangeAt Go.RowKit
end Go.Proofs.Ytdnnodpchjnleaa
