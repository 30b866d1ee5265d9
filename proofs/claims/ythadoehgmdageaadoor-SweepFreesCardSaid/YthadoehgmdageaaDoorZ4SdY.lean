/- The contract of what deeds make. Conditions: each in its premises. -/
import Derived.Test.YthadoehgmdageaaDoorZ4SdX
set_option linter.unusedVariables false
set_option linter.unusedSimpArgs false
namespace Go.Proofs.YthadoehgmdageaaDoor.Fl
open Go.RowKit
end Go.Proofs.YthadoehgmdageaaDoor.Fl
