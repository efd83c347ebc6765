import Derived.Test.YtnffcckhdedhpaaDoorHF
import Derived.Test.YtnffcckhdedhpaaDoorPA
namespace Go.Proofs.YtnffcckhdedhpaaDoor
set_option linter.unusedVariables false
set_option linter.unusedSimpArgs false
open Go.RowKit Go.ChangeShapes Go.WideShapes Go.ChangeAt
section
variable {H : Type} {enc : TypeId × Value → H} {W : World} {spare : Nat → Bool} {held : Bool}
end
end Go.Proofs.YtnffcckhdedhpaaDoor
