import Derived.Test.YtmpobijkbmljdaaEq
set_option maxRecDepth 100000
set_option linter.unusedVariables false
set_option linter.unusedSimpArgs false
namespace Go.Proofs.Ytmpobijkbmljdaa
open Go.Proofs.Ytmpobijkbmljdaa.Sh Go.Proofs.Ytmpobijkbmljdaa.Sh.V Go.RowKit
theorem tabOK : VOK P tab := mkVp_ok (mkV_ok (by kernel_rfl) (by kernel_rfl) (by
  intro f hf
  have : (reach.all fun f => okCode P noteOf f) = true := by kernel_rfl
  exact List.all_eq_true.1 this f hf) (fun f hf => by cases hf)) (fun x hx => by
  simp only [prims, List.mem_cons, List.not_mem_nil, or_false] at hx
  rcases hx with h | h <;> subst h <;> first | exact ca_ok | exact idx_ok)
theorem leaf_ok (n : Nat) (H : VH) : vF P tab (n + 60) 9 [] H = some (.bool true, H) := by kernel_rfl
end Go.Proofs.Ytmpobijkbmljdaa
