import Derived.Test.YthodknboobgfpaaB04h
import Derived.Test.YthodknboobgfpaaVb
set_option linter.unusedVariables false
set_option linter.unusedSimpArgs false
namespace Go.Proofs.Ythodknboobgfpaa
open Go.Proofs.Ythodknboobgfpaa.Sh Go.Proofs.Ythodknboobgfpaa.Sh.V Go.RowKit
theorem wireReads_law (us : List V) (h : HasAs P [25, 25] us) : ∃ n H', vF P tab n 4 us [] = some (.bool true, H') := by
  match us, h with
  | [u0, u1], ⟨h0, h1, _⟩ =>
    obtain ⟨s0, l0, rfl, i0, _⟩ := hasA_bytes (e := 5) (by kernel_rfl) (by kernel_rfl) h0
    obtain ⟨s1, l1, rfl, i1, _⟩ := hasA_bytes (e := 5) (by kernel_rfl) (by kernel_rfl) h1
    exact ⟨_, wireReads 300 (by decide) i0 i1 []⟩
end Go.Proofs.Ythodknboobgfpaa
