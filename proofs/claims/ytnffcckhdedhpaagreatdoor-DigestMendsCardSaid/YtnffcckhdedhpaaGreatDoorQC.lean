import Derived.Test.YtnffcckhdedhpaaGreatDoorKC
import Derived.Test.YtnffcckhdedhpaaGreatDoorGM
import Derived.Test.YtnffcckhdedhpaaGreatDoorGF
import Derived.Test.YtnffcckhdedhpaaGreatDoorGC
import Derived.Test.YtnffcckhdedhpaaGreatDoorGA
import Derived.Test.YtnffcckhdedhpaaGreatDoorGB
import Derived.Lib.BufferRead
import Derived.Test.YtnffcckhdedhpaaGreatDoorGD
import Derived.Test.YtnffcckhdedhpaaGreatDoorHC
import Derived.Test.YtnffcckhdedhpaaGreatDoorHD
import Derived.Test.YtnffcckhdedhpaaGreatDoorHE
import Derived.Test.YtnffcckhdedhpaaGreatDoorPA
namespace Go.Proofs.YtnffcckhdedhpaaGreatDoor
set_option linter.unusedVariables false
set_option linter.unusedSimpArgs false
section
open Go.RowKit
attribute [local go_sem] odr cdr
theorem OwnB.sl {base : Nat} {w : World} {a : Option Addr} {c : Nat} {l : List Nat} (h : OwnB base w (.slice a l.length c) l) : SlB w a c l := (Own.slice' bcs_len h).2
end
end Go.Proofs.YtnffcckhdedhpaaGreatDoor
