/- A little program; contract. -/
import Derived.Test.YtjllbchfojonhaaDoorTypC
namespace Go.Proofs.YtjllbchfojonhaaDoor
open Go.RowKit
set_option linter.unusedVariables false
set_option linter.unusedSimpArgs false

end Go.Proofs.YtjllbchfojonhaaDoor
