import Derived.Test.YtgmgpandhaeniaaB14m
set_option maxRecDepth 100000
set_option linter.unusedVariables false
set_option linter.unusedSimpArgs false
namespace Go.Proofs.Ytgmgpandhaeniaa
open Go.Proofs.Ytgmgpandhaeniaa.Sh Go.Proofs.Ytgmgpandhaeniaa.Sh.V
theorem shares5f : (List.all [0, 1, 2, 3, 4] fun b => okB (K7_0 (cF 60) 60 60 false (.ob 2 0) 5 b .nil 0 hp0)) = true := by kernel_rfl
theorem shares5t : (List.all [0, 1, 2, 3, 4] fun b => okB (K7_0 (cF 60) 60 60 true (.ob 2 0) 5 b .nil 0 hp0)) = true := by kernel_rfl
theorem shares6f : (List.all [0, 1, 2, 3, 4] fun b => okB (K7_0 (cF 60) 60 60 false (.ob 2 0) 6 b .nil 0 hp0)) = true := by kernel_rfl
theorem shares6t : (List.all [0, 1, 2, 3, 4] fun b => okB (K7_0 (cF 60) 60 60 true (.ob 2 0) 6 b .nil 0 hp0)) = true := by kernel_rfl
end Go.Proofs.Ytgmgpandhaeniaa
