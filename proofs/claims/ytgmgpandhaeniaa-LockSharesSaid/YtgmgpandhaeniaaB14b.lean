import Derived.Test.YtgmgpandhaeniaaB14a
set_option maxRecDepth 100000
set_option linter.unusedVariables false
set_option linter.unusedSimpArgs false
namespace Go.Proofs.Ytgmgpandhaeniaa
open Go.Proofs.Ytgmgpandhaeniaa.Sh Go.Proofs.Ytgmgpandhaeniaa.Sh.V Go.RowKit
def okB (r : VRes) : Bool := match r with | some (.bool true, _) => true | _ => false
theorem okB_ex {r : VRes} (h : okB r = true) : ∃ H', r = some (.bool true, H') := by
  unfold okB at h
  split at h
  · exact ⟨_, rfl⟩
  · cases h
theorem lets (n : Nat) (H : VH) : vF P tab (n + 40) 10 [] H = some (.bool true, H) := by kernel_rfl
theorem lockNil (a0 : Int) (a1 : ByteArray) (a2 : Bool) : ∃ H', vF P tab 60 9 [.int .i64 a0, .str a1, .bool a2] [] = some (.bool true, H') := okB_ex (by kernel_rfl)
theorem lockNil_law (us : List V) (h : HasAs P [3, 9, 4] us) : ∃ n H', vF P tab n 9 us [] = some (.bool true, H') := by
  match us, h with
  | [u0, u1, u2], ⟨h0, h1, h2, _⟩ =>
    obtain ⟨x, rfl, _⟩ := hasA_int (k := .i64) (by kernel_rfl) h0
    obtain ⟨s, rfl, _⟩ := hasA_str (by kernel_rfl) h1
    obtain ⟨b, rfl⟩ := hasA_bool (by kernel_rfl) h2
    exact ⟨_, lockNil x _ b⟩
end Go.Proofs.Ytgmgpandhaeniaa
