/- A little program; contract. -/
import Derived.Test.YtjllbchfojonhaaGreatDoorTypB
namespace Go.Proofs.YtjllbchfojonhaaGreatDoor
open Go.RowKit
set_option linter.unusedVariables false
set_option linter.unusedSimpArgs false

end Go.Proofs.YtjllbchfojonhaaGreatDoor
