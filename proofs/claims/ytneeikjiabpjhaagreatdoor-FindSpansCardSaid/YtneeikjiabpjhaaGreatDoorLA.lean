/- Texts merged: Srt1, Srt2, Srt3, Srt4, Srt5, Srt6, Srt7, Srt8. -/
import Derived.Test.YtneeikjiabpjhaaGreatDoorChecked
import Derived.Sort.WalkA
import Derived.Sort.WalkB12
import Derived.Sort.WalkA6
import Derived.Sort.WalkB3
import Derived.Sort.WalkC
import Derived.Sort.WalkC4
import Derived.Sort.Walk11
import Derived.Sort.WalkD2
import Derived.Test.YtneeikjiabpjhaaGreatDoorBitY
import Derived.Sort.Walk7
import Derived.Sort.Walk13
import Derived.Sort.AssemblyPlain
namespace Go.Proofs.YtneeikjiabpjhaaGreatDoor
set_option linter.unusedVariables false
set_option linter.unusedSimpArgs false
open Go.Sort Go.RowKit
abbrev encU : Int → Value := fun x => Value.int .u32 x
end Go.Proofs.YtneeikjiabpjhaaGreatDoor
namespace Go.Proofs.YtneeikjiabpjhaaGreatDoor
set_option linter.unusedVariables false
set_option linter.unusedSimpArgs false
open Go.Sort Go.RowKit
end Go.Proofs.YtneeikjiabpjhaaGreatDoor
namespace Go.Proofs.YtneeikjiabpjhaaGreatDoor
set_option linter.unusedVariables false
set_option linter.unusedSimpArgs false
open Go.Sort Go.RowKit
end Go.Proofs.YtneeikjiabpjhaaGreatDoor
namespace Go.Proofs.YtneeikjiabpjhaaGreatDoor
set_option linter.unusedVariables false
set_option linter.unusedSimpArgs false
open Go.Sort Go.RowKit
end Go.Proofs.YtneeikjiabpjhaaGreatDoor
namespace Go.Proofs.YtneeikjiabpjhaaGreatDoor
set_option linter.unusedVariables false
set_option linter.unusedSimpArgs false
open Go.Sort Go.RowKit
end Go.Proofs.YtneeikjiabpjhaaGreatDoor
namespace Go.Proofs.YtneeikjiabpjhaaGreatDoor
set_option linter.unusedVariables false
set_option linter.unusedSimpArgs false
open Go.Sort Go.RowKit
end Go.Proofs.YtneeikjiabpjhaaGreatDoor
namespace Go.Proofs.YtneeikjiabpjhaaGreatDoor
set_option linter.unusedVariables false
set_option linter.unusedSimpArgs false
open Go.Sort Go.RowKit
end Go.Proofs.YtneeikjiabpjhaaGreatDoor
namespace Go.Proofs.YtneeikjiabpjhaaGreatDoor
set_option linter.unusedVariables false
set_option linter.unusedSimpArgs false
open Go.Sort Go.RowKit
end Go.Proofs.YtneeikjiabpjhaaGreatDoor
