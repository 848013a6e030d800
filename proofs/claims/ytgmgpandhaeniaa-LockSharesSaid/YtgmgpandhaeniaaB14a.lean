import Derived.Test.YtgmgpandhaeniaaB14s
set_option maxRecDepth 100000
set_option linter.unusedVariables false
set_option linter.unusedSimpArgs false
namespace Go.Proofs.Ytgmgpandhaeniaa
open Go.Proofs.Ytgmgpandhaeniaa.Sh Go.Proofs.Ytgmgpandhaeniaa.Sh.V Go.RowKit
theorem noP_ok (f : FuncId) : PrimOK P f noP := fun _ _ _ _ h => by cases h
theorem tabOK : VOK P tab := mkVp_ok (mkV_ok (by kernel_rfl) (by kernel_rfl) (by
  intro f hf
  have : (reach.all fun f => okCode P noteOf f) = true := by kernel_rfl
  exact List.all_eq_true.1 this f hf) (fun f hf => by cases hf)) (fun x hx => by
  simp only [prims, List.mem_cons, List.not_mem_nil, or_false] at hx
  rcases hx with h | h | h | h | h | h | h | h | h | h <;> subst h <;> first | exact prim50 | exact noP_ok _)
end Go.Proofs.Ytgmgpandhaeniaa
