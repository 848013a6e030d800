import Derived.Test.YtcnigofmjffamaaDoorB11l
set_option maxRecDepth 100000
set_option linter.unusedVariables false
set_option linter.unusedSimpArgs false
namespace Go.Proofs.YtcnigofmjffamaaDoor
open Go.Proofs.YtcnigofmjffamaaDoor.Sh Go.Proofs.YtcnigofmjffamaaDoor.Sh.V Go.RowKit
def okB (r : VRes) : Bool := match r with | some (.bool true, _) => true | _ => false
theorem okB_ex {r : VRes} (h : okB r = true) : ∃ H', r = some (.bool true, H') := by
  unfold okB at h
  split at h
  · exact ⟨_, rfl⟩
  · cases h
theorem kinds_all : ((List.range 256).all fun k => okB (vF P tab 61 5 [.int .u8 (Int.ofNat k)] [])) = true := by kernel_rfl
theorem requestKinds_law (us : List V) (h : HasAs P [5] us) : ∃ n H', vF P tab n 5 us [] = some (.bool true, H') := by
  match us, h with
  | [u0], ⟨h0, _⟩ =>
    obtain ⟨x, rfl, hw⟩ := hasA_int (k := .u8) (by kernel_rfl) h0
    obtain ⟨h1, h2⟩ := wf_u8 hw
    have := List.all_eq_true.1 kinds_all x.toNat (List.mem_range.2 (by omega))
    have hx : Int.ofNat x.toNat = x := by show ((x.toNat : Nat) : Int) = x; omega
    rw [hx] at this
    exact ⟨61, okB_ex this⟩
end Go.Proofs.YtcnigofmjffamaaDoor
