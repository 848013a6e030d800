import Derived.Test.YthodknboobgfpaaB04e
set_option linter.unusedVariables false
set_option linter.unusedSimpArgs false
namespace Go.Proofs.Ythodknboobgfpaa
open Go.Proofs.Ythodknboobgfpaa.Sh Go.Proofs.Ythodknboobgfpaa.Sh.V Go.RowKit
theorem e9 (n : Nat) (H : VH) : vF P tab (n + 60) 9 [] H = some (.bool true, H) := by kernel_rfl
theorem c9 (n : Nat) (H : VH) : V.callD (vF P tab (n + 60)) P false (.one (.flat .bool)) 9 [] H = some (true, H) := callD_bool (e9 n H)
end Go.Proofs.Ythodknboobgfpaa
