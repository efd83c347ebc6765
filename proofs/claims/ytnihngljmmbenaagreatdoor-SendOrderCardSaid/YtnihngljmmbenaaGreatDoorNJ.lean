import Derived.Test.YtnihngljmmbenaaGreatDoorGH
import Derived.Test.YtnihngljmmbenaaGreatDoorGA
namespace Go.Proofs.YtnihngljmmbenaaGreatDoor
set_option linter.unusedVariables false
set_option linter.unusedSimpArgs false
section
open Go.RowKit
attribute [local go_sem] over_drew chg_drew
end
section
open Go.RowKit
end
end Go.Proofs.YtnihngljmmbenaaGreatDoor
