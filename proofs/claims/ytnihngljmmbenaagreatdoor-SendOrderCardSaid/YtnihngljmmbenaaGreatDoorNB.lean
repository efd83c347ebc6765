import Derived.Test.YtnihngljmmbenaaGreatDoorXorR
namespace Go.Proofs.YtnihngljmmbenaaGreatDoor
set_option linter.unusedVariables false
set_option linter.unusedSimpArgs false
section
open Go.RowKit
attribute [local go_sem] over_drew chg_drew setCell_chg
end
section
open Go.RowKit
attribute [local go_sem] over_drew chg_drew
end
end Go.Proofs.YtnihngljmmbenaaGreatDoor
