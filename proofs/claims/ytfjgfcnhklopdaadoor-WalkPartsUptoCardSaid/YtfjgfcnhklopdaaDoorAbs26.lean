import Derived.Test.YtfjgfcnhklopdaaDoorAbs25
set_option maxHeartbeats 400000
set_option linter.unusedVariables false
set_option linter.unusedSimpArgs false
namespace Go.Abs
open Go


end Go.Abs
