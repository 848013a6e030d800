import Derived.Test.YtibdinelkpbhaaaB15s
import Derived.Test.YtibdinelkpbhaaaB15i
set_option maxRecDepth 100000
set_option linter.unusedVariables false
set_option linter.unusedSimpArgs false
namespace Go.Proofs.Ytibdinelkpbhaaa
open Go.Proofs.Ytibdinelkpbhaaa.Sh Go.Proofs.Ytibdinelkpbhaaa.Sh.V Go.RowKit
theorem insOK : InsOK Try.prog 46 62 66 3 where
  body := ⟨_, _, Try.func46, rfl⟩
  under := Try.underlying62
  box := by decide
  nu8 := by rw [Try.underlying66]; intro h; cases h
  info := ⟨Try.t66, _, by kernel_rfl, rfl, rfl, rfl, rfl⟩
  pos := by decide
  end_ := fun base n c av vc w w' u' h1 h2 h3 h4 => ins_end base n c av vc w w' u' h1 h2 h3 h4
  shift := fun b off n c i vb voff vc cs vs w a1 a2 a3 a4 a5 a6 a7 a8 a9 a10 a11 a12 tA tB kA kB b1 b2 b3 b4 b5 => ins_shift b off n c i vb voff vc cs vs w a1 a2 a3 a4 a5 a6 a7 a8 a9 a10 a11 a12 tA tB kA kB b1 b2 b3 b4 b5
  grow := fun b off n c i vb voff vc cs vs w a1 a2 a3 a4 a5 a6 a7 a8 a9 a10 a11 a12 => ins_grow b off n c i vb voff vc cs vs w a1 a2 a3 a4 a5 a6 a7 a8 a9 a10 a11 a12
theorem prim46 : PrimOK Try.prog 46 (insP 66 3) := insP_ok insOK
theorem tabOK : VOK P tab := mkVp_ok (mkV_ok (by kernel_rfl) (by kernel_rfl) (by
  intro f hf
  have : (reach.all fun f => okCode P noteOf f) = true := by kernel_rfl
  exact List.all_eq_true.1 this f hf) (fun f hf => by cases hf)) (fun x hx => by
  simp only [prims, List.mem_cons, List.not_mem_nil, or_false] at hx
  rcases hx with h | h | h <;> subst h <;> first | exact prim50 | exact prim31 | exact prim46)
end Go.Proofs.Ytibdinelkpbhaaa
