import Derived.Test.YtnihngljmmbenaaGreatDoorNB
namespace Go.Proofs.YtnihngljmmbenaaGreatDoor
set_option linter.unusedVariables false
set_option linter.unusedSimpArgs false
section
open Go.RowKit
attribute [local go_sem] over_drew chg_drew

abbrev xgV (v : Nat) (n : Int) (t : Vl) (e : Nat) : Value := .tuple #[.int .u64 (v : Nat), .int .i64 n, t.v, .int .u16 (e : Nat)]
end
section
open Go.RowKit
attribute [local go_sem] over_drew chg_drew
end
section
open Go.RowKit
attribute [local go_sem] over_drew chg_drew
end
section
open Go.RowKit
attribute [local go_sem] over_drew chg_drew
end
section
open Go.RowKit
attribute [local go_sem] over_drew chg_drew
end
section
open Go.RowKit
attribute [local go_sem] over_drew chg_drew
end
end Go.Proofs.YtnihngljmmbenaaGreatDoor
