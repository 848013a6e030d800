import Derived.Test.YtcnigofmjffamaaDoorB11q
set_option maxRecDepth 100000
set_option linter.unusedVariables false
set_option linter.unusedSimpArgs false
namespace Go.Proofs.YtcnigofmjffamaaDoor
open Go.Proofs.YtcnigofmjffamaaDoor.Sh Go.Proofs.YtcnigofmjffamaaDoor.Sh.V Go.RowKit
theorem u8_b1 (k : Nat) : u8 (k : Int) = b1 k := by
  apply UInt8.toNat_inj.1
  rw [u8_nat]; simp [b1]
theorem c43 (n : Nat) {H : VH} {k : Nat} {T : List Nat} {l : List UInt8} (hw : WS H k T l) (x : Nat) (hl : l.length < 900000) : ∃ H' T', V.callD (vF P tab (n + 2)) P false (.one (.flat .ptr)) 43 [.ptr (.ob k 0), .int .u8 (IntKind.wrap .u8 (x : Int))] H = some (.ob k 0, H') ∧ WS H' k T' (l ++ [b1 x]) ∧ Kp H H' (k :: T) ∧ (∀ t ∈ T', t ∈ T ∨ H.length ≤ t) := by
  obtain ⟨H', T', g1, g2, g3, g4⟩ := e43 n hw (x : Int) (by omega)
  rw [u8_b1] at g2
  exact ⟨H', T', callD_ptr g1, g2, g3, g4⟩
theorem c44 (n : Nat) {H : VH} {k : Nat} {T : List Nat} {l : List UInt8} (hw : WS H k T l) (s : List UInt8) (hl : l.length + s.length < 900000) : ∃ H' T', V.callD (vF P tab (n + 3)) P false (.one (.flat .ptr)) 44 [.ptr (.ob k 0), .str ⟨s.toArray⟩] H = some (.ob k 0, H') ∧ WS H' k T' (l ++ textI s) ∧ Kp H H' (k :: T) ∧ (∀ t ∈ T', t ∈ T ∨ H.length ≤ t) := by
  obtain ⟨H', T', g1, g2, g3, g4⟩ := e44 n hw s (by omega)
  exact ⟨H', T', callD_ptr g1, g2, g3, g4⟩
theorem c45 (n : Nat) {H : VH} {k : Nat} {T : List Nat} {l : List UInt8} (hw : WS H k T l) {s : VS} {ls : List (List UInt8)} (hs : IsE s (ss ls)) (hl : l.length + szs ls < 900000) (hn : ls.length < n) : ∃ H' T', V.callD (vF P tab (n + 4)) P false (.one (.flat .ptr)) 45 [.ptr (.ob k 0), .sl 9 s] H = some (.ob k 0, H') ∧ WS H' k T' (l ++ textsI ls) ∧ Kp H H' (k :: T) ∧ (∀ t ∈ T', t ∈ T ∨ H.length ≤ t) := by
  obtain ⟨H', T', g1, g2, g3, g4⟩ := e45 n hw hs hl hn
  exact ⟨H', T', callD_ptr g1, g2, g3, g4⟩
end Go.Proofs.YtcnigofmjffamaaDoor
