/- Contracts of the functions that draw widths, samples, flips from a source. -/
import Derived.Test.YtdodhjahihfaiaaDrawB
import Derived.Test.YtdodhjahihfaiaaCells
import Derived.Deep.RegionWith
namespace Go.Proofs.Ytdodhjahihfaiaa
open Go.RowKit
set_option linter.unusedVariables false
set_option linter.unusedSimpArgs false


end Go.Proofs.Ytdodhjahihfaiaa
