import Derived.Test.YtgmgpandhaeniaaB14c
import Derived.Test.YtgmgpandhaeniaaB14k
set_option maxRecDepth 100000
set_option linter.unusedVariables false
set_option linter.unusedSimpArgs false
namespace Go.Proofs.Ytgmgpandhaeniaa
open Go.Proofs.Ytgmgpandhaeniaa.Sh Go.Proofs.Ytgmgpandhaeniaa.Sh.V
abbrev hp0 : VH := [.map .str [], .map (.int .i64) [], .row (62 + boxK) [.map (some 0), .map (some 1)]]
end Go.Proofs.Ytgmgpandhaeniaa
