import Derived.Test.YtnffcckhdedhpaaDoorGB
import Derived.Test.YtnffcckhdedhpaaDoorGC
import Derived.Test.YtnffcckhdedhpaaDoorGA
namespace Go.Proofs.YtnffcckhdedhpaaDoor
set_option linter.unusedVariables false
set_option linter.unusedSimpArgs false
open Go.RowKit
attribute [local go_sem] over_drew

end Go.Proofs.YtnffcckhdedhpaaDoor
