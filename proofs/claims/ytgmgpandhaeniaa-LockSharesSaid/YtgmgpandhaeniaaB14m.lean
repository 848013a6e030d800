import Derived.Test.YtgmgpandhaeniaaB14l
set_option maxRecDepth 100000
set_option linter.unusedVariables false
set_option linter.unusedSimpArgs false
namespace Go.Proofs.Ytgmgpandhaeniaa
open Go.Proofs.Ytgmgpandhaeniaa.Sh Go.Proofs.Ytgmgpandhaeniaa.Sh.V
theorem shares0f : (List.all [0, 1, 2, 3, 4] fun b => okB (K7_0 (cF 60) 60 60 false (.ob 2 0) 0 b .nil 0 hp0)) = true := by kernel_rfl
theorem shares0t : (List.all [0, 1, 2, 3, 4] fun b => okB (K7_0 (cF 60) 60 60 true (.ob 2 0) 0 b .nil 0 hp0)) = true := by kernel_rfl
theorem shares1f : (List.all [0, 1, 2, 3, 4] fun b => okB (K7_0 (cF 60) 60 60 false (.ob 2 0) 1 b .nil 0 hp0)) = true := by kernel_rfl
theorem shares1t : (List.all [0, 1, 2, 3, 4] fun b => okB (K7_0 (cF 60) 60 60 true (.ob 2 0) 1 b .nil 0 hp0)) = true := by kernel_rfl
theorem shares2f : (List.all [0, 1, 2, 3, 4] fun b => okB (K7_0 (cF 60) 60 60 false (.ob 2 0) 2 b .nil 0 hp0)) = true := by kernel_rfl
theorem shares2t : (List.all [0, 1, 2, 3, 4] fun b => okB (K7_0 (cF 60) 60 60 true (.ob 2 0) 2 b .nil 0 hp0)) = true := by kernel_rfl
theorem shares3f : (List.all [0, 1, 2, 3, 4] fun b => okB (K7_0 (cF 60) 60 60 false (.ob 2 0) 3 b .nil 0 hp0)) = true := by kernel_rfl
theorem shares3t : (List.all [0, 1, 2, 3, 4] fun b => okB (K7_0 (cF 60) 60 60 true (.ob 2 0) 3 b .nil 0 hp0)) = true := by kernel_rfl
theorem shares4f : (List.all [0, 1, 2, 3, 4] fun b => okB (K7_0 (cF 60) 60 60 false (.ob 2 0) 4 b .nil 0 hp0)) = true := by kernel_rfl
theorem shares4t : (List.all [0, 1, 2, 3, 4] fun b => okB (K7_0 (cF 60) 60 60 true (.ob 2 0) 4 b .nil 0 hp0)) = true := by kernel_rfl
end Go.Proofs.Ytgmgpandhaeniaa
