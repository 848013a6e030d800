import Derived.Test.YtibnelhbebognaaDoorEq
set_option maxRecDepth 100000
set_option linter.unusedVariables false
set_option linter.unusedSimpArgs false
namespace Go.Proofs.YtibnelhbebognaaDoor
open Go.Proofs.YtibnelhbebognaaDoor.Sh Go.Proofs.YtibnelhbebognaaDoor.Sh.V Go.RowKit
theorem tabOK : VOKg (globIn globs) P tab := mkVg_ok (mkV_ok (by kernel_rfl) (by kernel_rfl) (by
  intro f hf
  have : (reach.all fun f => okCode P noteOf f) = true := by kernel_rfl
  exact List.all_eq_true.1 this f hf) (fun f hf => by cases hf)) (fun x hx => by
  simp only [globs, List.mem_cons, List.not_mem_nil, or_false] at hx
  rcases hx with rfl | rfl | rfl <;> rfl) (fun B w h => h)
theorem noughts (n : Nat) (H : VH) : vF P tab (n + 80) 12 [] H = some (.bool true, H) := by kernel_rfl
end Go.Proofs.YtibnelhbebognaaDoor
