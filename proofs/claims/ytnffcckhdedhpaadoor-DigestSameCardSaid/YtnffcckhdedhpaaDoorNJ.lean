import Derived.Test.YtnffcckhdedhpaaDoorGH
import Derived.Test.YtnffcckhdedhpaaDoorGA
namespace Go.Proofs.YtnffcckhdedhpaaDoor
set_option linter.unusedVariables false
set_option linter.unusedSimpArgs false
section
open Go.RowKit
attribute [local go_sem] over_drew chg_drew
end
section
open Go.RowKit
end
end Go.Proofs.YtnffcckhdedhpaaDoor
