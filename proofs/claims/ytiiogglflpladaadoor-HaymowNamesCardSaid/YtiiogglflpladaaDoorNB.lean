/- Words for octets: slices that are read, blocks known whole, copies. -/
import Derived.Test.YtiiogglflpladaaDoor19R
import Derived.Laws.BitsLemmas
namespace Go.Proofs.YtiiogglflpladaaDoor
set_option linter.unusedSimpArgs false
set_option linter.unusedVariables false
open Go.RowKit

end Go.Proofs.YtiiogglflpladaaDoor
