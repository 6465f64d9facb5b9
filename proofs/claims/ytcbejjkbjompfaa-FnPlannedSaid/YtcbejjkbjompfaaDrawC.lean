/- Contracts of the functions that draw widths, samples, flips from a source. -/
import Derived.Test.YtcbejjkbjompfaaDrawB
import Derived.Test.YtcbejjkbjompfaaCells
import Derived.Deep.RegionWith
namespace Go.Proofs.Ytcbejjkbjompfaa
open Go.RowKit
set_option linter.unusedVariables false
set_option linter.unusedSimpArgs false


end Go.Proofs.Ytcbejjkbjompfaa
