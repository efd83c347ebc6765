import Derived.Test.YtnffcckhdedhpaaDoorHE
import Derived.Test.YtnffcckhdedhpaaDoorBak
namespace Go.Proofs.YtnffcckhdedhpaaDoor
set_option linter.unusedVariables false
set_option linter.unusedSimpArgs false
section
open Go.RowKit
attribute [local go_sem] over_drew chg_drew
end
end Go.Proofs.YtnffcckhdedhpaaDoor
