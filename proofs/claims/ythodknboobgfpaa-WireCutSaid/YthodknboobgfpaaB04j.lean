import Derived.Test.YthodknboobgfpaaB04i
set_option linter.unusedVariables false
set_option linter.unusedSimpArgs false
namespace Go.Proofs.Ythodknboobgfpaa
open Go.Proofs.Ythodknboobgfpaa.Sh Go.Proofs.Ythodknboobgfpaa.Sh.V Go.RowKit
theorem cut_walk (a0 : ByteArray) (a1 : Int) (w : World) (w0 : a0.size ≤ 140737488351232) (w1 : (Lit.int .u16 a1).wf = true) :
    Calls Try.prog 5 #[.string a0, .int .u16 a1] w fun e w' => e = .returned (.bool true) ∧ Below w.heap.size w w' := by
  obtain ⟨b1, b2⟩ := wf_u16 w1
  obtain ⟨H', hq⟩ := wireCut 300 (by decide) a0.data.toList (UInt16.ofNat a1.toNat) []
  have e1 : ((UInt16.ofNat a1.toNat).toNat : Int) = a1 := by simp; omega
  have e0 : (⟨a0.data.toList.toArray⟩ : ByteArray) = a0 := by simp
  rw [e1, e0] at hq
  exact V.walk_of tabOK (args1 := [.string a0, .int .u16 a1]) (args' := [.string a0, .int .u16 a1]) (Sim.start w) (.cons (.str _) (.cons (.int _ _) .nil)) (.cons (.string _) (.cons (.int _ _) .nil)) hq
end Go.Proofs.Ythodknboobgfpaa
