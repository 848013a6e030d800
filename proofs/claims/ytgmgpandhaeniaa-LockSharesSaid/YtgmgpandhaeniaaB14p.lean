import Derived.Test.YtgmgpandhaeniaaB14o
set_option maxRecDepth 100000
set_option linter.unusedVariables false
set_option linter.unusedSimpArgs false
namespace Go.Proofs.Ytgmgpandhaeniaa
open Go.Proofs.Ytgmgpandhaeniaa.Sh Go.Proofs.Ytgmgpandhaeniaa.Sh.V Go.RowKit
theorem all5 {f : Int → Bool} (h : List.all [0, 1, 2, 3, 4] f = true) {j : Nat} (hj : j < 5) : f (j : Int) = true := by
  refine List.all_eq_true.1 h (j : Int) ?_
  have : j = 0 ∨ j = 1 ∨ j = 2 ∨ j = 3 ∨ j = 4 := by omega
  rcases this with rfl | rfl | rfl | rfl | rfl <;> simp
theorem new0 : callD (vF P tab 60) P false (.one (.flat .ptr)) 11 [] [] = some (.ob 2 0, hp0) := by kernel_rfl
theorem shares (a b : Nat) (up : Bool) : ∃ H', vF P tab 61 7 [.int .u8 (a : Int), .int .u8 (b : Int), .bool up] [] = some (.bool true, H') := by
  have hw : ∀ n : Nat, n < 256 → IntKind.wrap .i64 (n : Int) = (n : Int) := fun n hn => by rw [IntKind.wrap_i64]; omega
  have h8 : a % 8 < 8 := Nat.mod_lt _ (by decide)
  have h5 : b % 5 < 5 := Nat.mod_lt _ (by decide)
  rw [vF_body rfl, f7_eq, callD_bool (lets 20 _), Option.bind_some, Bool.not_true, cond_false, new0, Option.bind_some, show (8 : Int) = ((8 : Nat) : Int) from rfl, show (5 : Int) = ((5 : Nat) : Int) from rfl, remI_nat (by decide), Option.bind_some, remI_nat (by decide), Option.bind_some, hw _ (by omega), hw _ (by omega), ← k7_0 60 60, ← cF_eq 60]
  refine okB_ex ?_
  generalize a % 8 = x at h8 ⊢
  have hx : x = 0 ∨ x = 1 ∨ x = 2 ∨ x = 3 ∨ x = 4 ∨ x = 5 ∨ x = 6 ∨ x = 7 := by omega
  cases up with
  | false =>
    rcases hx with rfl | rfl | rfl | rfl | rfl | rfl | rfl | rfl
    · rw [show ((0 : Nat) : Int) = 0 from rfl]; exact all5 shares0f h5
    · rw [show ((1 : Nat) : Int) = 1 from rfl]; exact all5 shares1f h5
    · rw [show ((2 : Nat) : Int) = 2 from rfl]; exact all5 shares2f h5
    · rw [show ((3 : Nat) : Int) = 3 from rfl]; exact all5 shares3f h5
    · rw [show ((4 : Nat) : Int) = 4 from rfl]; exact all5 shares4f h5
    · rw [show ((5 : Nat) : Int) = 5 from rfl]; exact all5 shares5f h5
    · rw [show ((6 : Nat) : Int) = 6 from rfl]; exact all5 shares6f h5
    · rw [show ((7 : Nat) : Int) = 7 from rfl]; exact all5 shares7f h5
  | true =>
    rcases hx with rfl | rfl | rfl | rfl | rfl | rfl | rfl | rfl
    · rw [show ((0 : Nat) : Int) = 0 from rfl]; exact all5 shares0t h5
    · rw [show ((1 : Nat) : Int) = 1 from rfl]; exact all5 shares1t h5
    · rw [show ((2 : Nat) : Int) = 2 from rfl]; exact all5 shares2t h5
    · rw [show ((3 : Nat) : Int) = 3 from rfl]; exact all5 shares3t h5
    · rw [show ((4 : Nat) : Int) = 4 from rfl]; exact all5 shares4t h5
    · rw [show ((5 : Nat) : Int) = 5 from rfl]; exact all5 shares5t h5
    · rw [show ((6 : Nat) : Int) = 6 from rfl]; exact all5 shares6t h5
    · rw [show ((7 : Nat) : Int) = 7 from rfl]; exact all5 shares7t h5
theorem lockShares_law (us : List V) (h : HasAs P [5, 5, 4] us) : ∃ n H', vF P tab n 7 us [] = some (.bool true, H') := by
  match us, h with
  | [u0, u1, u2], ⟨h0, h1, h2, _⟩ =>
    obtain ⟨x, rfl, w0⟩ := hasA_int (k := .u8) (by kernel_rfl) h0
    obtain ⟨y, rfl, w1⟩ := hasA_int (k := .u8) (by kernel_rfl) h1
    obtain ⟨b, rfl⟩ := hasA_bool (by kernel_rfl) h2
    obtain ⟨p1, _⟩ := wf_u8 w0
    obtain ⟨p2, _⟩ := wf_u8 w1
    obtain ⟨H', g⟩ := shares x.toNat y.toNat b
    rw [Int.toNat_of_nonneg p1, Int.toNat_of_nonneg p2] at g
    exact ⟨_, H', g⟩
end Go.Proofs.Ytgmgpandhaeniaa
