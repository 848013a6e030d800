import Derived.Test.YtgmgpandhaeniaaB14d
set_option maxRecDepth 100000
set_option linter.unusedVariables false
set_option linter.unusedSimpArgs false
namespace Go.Proofs.Ytgmgpandhaeniaa
open Go.Proofs.Ytgmgpandhaeniaa.Sh Go.Proofs.Ytgmgpandhaeniaa.Sh.V Go.RowKit
theorem all4 {f : Nat → Bool} (h : List.all [0, 1, 2, 3] f = true) {j : Nat} (hj : j < 4) : f j = true := by
  refine List.all_eq_true.1 h j ?_
  have : j = 0 ∨ j = 1 ∨ j = 2 ∨ j = 3 := by omega
  rcases this with rfl | rfl | rfl | rfl <;> simp
theorem new2 (o k d o' k' d' : Int) : callD (vF P tab 60) P false (.one (.flat .ptr)) 11 [] [.row (39 + boxK) [.int .u8 o, .int .u8 k, .int .u8 d], .row (39 + boxK) [.int .u8 o', .int .u8 k', .int .u8 d']] = some (.ob 4 0, hpT o k d o' k' d') := by kernel_rfl
theorem twice (x y : Ac) (hx : x.ok) (hy : y.ok) (only : Bool) : ∃ H', vF P tab 61 6 [.agg x.cells, .agg y.cells, .bool only] [] = some (.bool true, H') := by
  show ∃ H', vF P tab 61 6 [.agg [.int .u8 (x.o : Int), .int .u8 (x.k : Int), .int .u8 (x.d : Int)], .agg [.int .u8 (y.o : Int), .int .u8 (y.k : Int), .int .u8 (y.d : Int)], .bool only] [] = some (.bool true, H')
  rw [vF_body rfl, f6_eq, callD_bool (lets 20 _), Option.bind_some]
  simp only [Bool.not_true, cond_false]
  show ∃ H', ((callD (vF P tab 60) P false (.one (.flat .ptr)) 11 [] [.row (39 + boxK) [.int .u8 (x.o : Int), .int .u8 (x.k : Int), .int .u8 (x.d : Int)], .row (39 + boxK) [.int .u8 (y.o : Int), .int .u8 (y.k : Int), .int .u8 (y.d : Int)]]).bind _) = _
  rw [new2, Option.bind_some]
  simp only
  have e1 : ldV (.agg [.int .u8, .int .u8, .int .u8]) (hpT x.o x.k x.d y.o y.k y.d) (.ob ([] : VH).length 0) = some ((x.o : Int), (x.k : Int), (x.d : Int), ()) := rfl
  have e2 : ldV (.agg [.int .u8, .int .u8, .int .u8]) (hpT x.o x.k x.d y.o y.k y.d) (.ob (List.length (([] ++ [.row (39 + boxK) [.int .u8 (x.o : Int), .int .u8 (x.k : Int), .int .u8 (x.d : Int)]]) : VH)) 0) = some ((y.o : Int), (y.k : Int), (y.d : Int), ()) := rfl
  rw [e1, Option.bind_some]
  simp only
  rw [c19 59 hx, Option.bind_some]
  simp only
  rw [e2, Option.bind_some]
  simp only
  rw [c19 59 hy, Option.bind_some]
  have h4 : x.k % 4 < 4 := Nat.mod_lt _ (by decide)
  have fin : okB (rest6 60 (kb (x.k % 4)) (decide (x.d / 4 % 2 = 0)) (kb (y.k % 4)) (decide (y.d / 4 % 2 = 0)) only (.ob 4 0) (hpT x.o x.k x.d y.o y.k y.d)) = true := by
    cases decide (x.d / 4 % 2 = 0) <;> cases only
    · exact all4 (twice00 _ _ _ _ _ _ _ _) h4
    · exact all4 (twice01 _ _ _ _ _ _ _ _) h4
    · exact all4 (twice10 _ _ _ _ _ _ _ _) h4
    · exact all4 (twice11 _ _ _ _ _ _ _ _) h4
  exact okB_ex fin
theorem lockTwice_law (us : List V) (h : HasAs P [39, 39, 4] us) : ∃ n H', vF P tab n 6 us [] = some (.bool true, H') := by
  match us, h with
  | [u0, u1, u2], ⟨h0, h1, h2, _⟩ =>
    obtain ⟨d1, l1, rfl, g1⟩ := hasA_agg (by kernel_rfl) h0
    obtain ⟨d2, l2, rfl, g2⟩ := hasA_agg (by kernel_rfl) h1
    obtain ⟨x, hx, rfl⟩ := ac_cells g1
    obtain ⟨y, hy, rfl⟩ := ac_cells g2
    obtain ⟨b, rfl⟩ := hasA_bool (by kernel_rfl) h2
    exact ⟨_, twice x y hx hy b⟩
end Go.Proofs.Ytgmgpandhaeniaa
