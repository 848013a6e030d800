import Derived.Test.YtcnigofmjffamaaDoorB11t
set_option maxRecDepth 100000
set_option linter.unusedVariables false
set_option linter.unusedSimpArgs false
namespace Go.Proofs.YtcnigofmjffamaaDoor
open Go.Proofs.YtcnigofmjffamaaDoor.Sh Go.Proofs.YtcnigofmjffamaaDoor.Sh.V Go.RowKit
theorem l171 (n : Nat) (m0 : Nat) {B k : Nat} {s48 : VS} {s49 s50 : Int} {sv : VS} {needs : List Nat} (hv : IsE sv (ns needs)) (hn : needs.length < 1000) :
    ∀ (m j : Nat) {H : VH} {T : List Nat} {acc : List UInt8}, WS H k T acc → (∀ t ∈ T, B ≤ t) → B ≤ H.length → acc.length + needs.length < 890000 + j → j ≤ needs.length → needs.length < j + m →
      ∃ T' H', L17_1 (n + 10) m0 m k s48 s49 s50 sv (needs.length : Int) (j : Int) H = L17_0 (n + 10) m0 k s48 s49 (IntKind.wrap .i64 (s50 + 1)) H' ∧ WS H' k T' (acc ++ (needs.drop j).map b1) ∧ (∀ t ∈ T', B ≤ t) ∧ (∀ i, i < B → i ≠ k → H'[i]? = H[i]?) ∧ H.length ≤ H'.length := by
  intro m
  induction m with
  | zero => intro j H T acc _ _ _ _ a b; omega
  | succ m ih =>
    intro j H T acc hw hT hB hsz h1 h2
    rw [L17_1_eq]
    by_cases hj : j < needs.length
    · rw [decide_eq_true (by omega), cond_true]
      obtain ⟨a, ha⟩ := get_of hj
      rw [rdN hv ha]
      obtain ⟨H', T', g1, g2, g3, g4⟩ := c43 (n + 8) hw a (by omega)
      rw [g1, Option.bind_some, inc_nat (by omega)]
      have e2 : needs.drop j = a :: needs.drop (j + 1) := by
        rw [List.drop_eq_getElem_cons hj]; rw [List.getElem?_eq_getElem hj] at ha; injection ha with ha; rw [ha]
      obtain ⟨T'', H'', f1, f2, f3, f4, f5⟩ := ih (j + 1) g2 (fun t ht => by
        rcases g4 t ht with h | h
        · exact hT t h
        · omega) (by have := g3.len; omega) (by simp; omega) (by omega) (by omega)
      refine ⟨T'', H'', f1, ?_, f3, ?_, by have := g3.len; omega⟩
      · rw [e2, List.map_cons]
        rw [List.append_assoc] at f2
        exact f2
      · intro i hi hik
        rw [f4 i hi hik]
        exact g3.at_ i (by omega) (fun h => by
          rcases List.mem_cons.1 h with h | h
          · exact hik h
          · have := hT i h; omega)
    · rw [decide_eq_false (by omega), cond_false, List.drop_eq_nil_of_le (by omega)]
      exact ⟨T, H, rfl, by simpa using hw, hT, fun i hi _ => rfl, Nat.le_refl _⟩
end Go.Proofs.YtcnigofmjffamaaDoor
