import Derived.Test.YtcnigofmjffamaaDoorB11n
set_option maxRecDepth 100000
set_option linter.unusedVariables false
set_option linter.unusedSimpArgs false
namespace Go.Proofs.YtcnigofmjffamaaDoor
open Go.Proofs.YtcnigofmjffamaaDoor.Sh Go.Proofs.YtcnigofmjffamaaDoor.Sh.V Go.RowKit
/-! ### The reference's Encode -/
def b1 (k : Nat) : UInt8 := UInt8.ofNat k
theorem bs_b1 (k : Nat) : [[V.int .u8 (IntKind.wrap .u8 (k : Int))]] = bs [b1 k] := by
  rw [wrap_u8_mod]
  have h : (b1 k).toNat = k % 256 := by simp [b1]
  show _ = [[V.int .u8 ((b1 k).toNat : Int)]]
  rw [h]
theorem apB {H : VH} {s x : VS} {l r : List UInt8} (h : Ap H 5 s (bs l)) (hx : IsB x r) (hb : l.length + r.length < 1000000) :
    ∃ s' H', appD true H 1 1 5 s x = some (s', H') ∧ Ap H' 5 s' (bs (l ++ r)) ∧ Kp H H' (toks s) ∧ (∀ t ∈ toks s', t ∈ toks s ∨ H.length ≤ t) := by
  have e1 : (bs l).length = l.length := by simp
  have e2 : (bs r).length = r.length := by simp
  obtain ⟨s', H', h1, h2, h3, h4, _⟩ := h.app (sz := 1) (by_ := 1) (x := x) (news := bs r) hx (by rw [e1, e2]; simp [bound]; omega) (by rw [e1, e2]; simp [bound]; omega)
  rw [← bs_app] at h2
  exact ⟨s', H', h1, h2, h3, h4⟩
theorem l151 (n : Nat) {B : Nat} {p o : Nat} {s4 : Int} (m0 : Nat) {c0 c1 c2 : V} {sv : VS} {needs : List Nat} (hv : IsE sv (ns needs)) (hn : needs.length < 1000) :
    ∀ (m j : Nat) {H : VH} {s : VS} {acc : List UInt8}, H[o]? = some (.row OT [c0, c1, c2, .sl 3 sv]) → Ap H 5 s (bs acc) → (∀ t ∈ toks s, B ≤ t ∧ t ≠ o) → B ≤ H.length → acc.length + needs.length < 900000 + j → j ≤ needs.length → needs.length < j + m →
      ∃ s' H', L15_1 n m0 m p s s4 o (j : Int) H = L15_0 n m0 p s' (IntKind.wrap .i64 (s4 + 1)) H' ∧ Ap H' 5 s' (bs (acc ++ (needs.drop j).map b1)) ∧ (∀ t ∈ toks s', B ≤ t ∧ t ≠ o) ∧ (∀ i, i < B → H'[i]? = H[i]?) ∧ H.length ≤ H'.length := by
  intro m
  induction m with
  | zero => intro j H s acc _ _ _ _ _ a b; omega
  | succ m ih =>
    intro j H s acc hO hA hT hB hsz h1 h2
    have ld3 : ldV (.flat (.slice 3)) H (.ob o 3) = some sv := by rw [ld_row hO]; exact fd_sl 3 sv
    rw [L15_1_eq, ld3, Option.bind_some, hv.len, ns_len]
    by_cases hj : j < needs.length
    · rw [decide_eq_true (by omega), cond_true, Option.bind_some]
      obtain ⟨a, ha⟩ := get_of hj
      rw [rdN hv ha]
      rw [bs_b1]
      obtain ⟨s', H', g1, g2, g3, g4⟩ := apB hA (show IsB (.fz (bs [b1 a]) (.ex 1)) [b1 a] from .fz _ _) (by simp; omega)
      rw [g1, Option.bind_some, inc_nat (by omega)]
      have hlt := lt_of_ob hO
      have tk : o ∉ toks s := fun h => (hT o h).2 rfl
      have e2 : needs.drop j = a :: needs.drop (j + 1) := by
        rw [List.drop_eq_getElem_cons hj]; rw [List.getElem?_eq_getElem hj] at ha; injection ha with ha; rw [ha]
      obtain ⟨s'', H'', f1, f2, f3, f4, f5⟩ := ih (j + 1) (g3.ob hO tk) g2 (fun t ht => by
        rcases g4 t ht with h | h
        · exact hT t h
        · omega) (by have := g3.len; omega) (by simp; omega) (by omega) (by omega)
      refine ⟨s'', H'', f1, ?_, f3, ?_, by have := g3.len; omega⟩
      · rw [e2, List.map_cons]
        rw [List.append_assoc] at f2
        exact f2
      · intro i hi
        rw [f4 i hi]
        exact g3.at_ i (by omega) (fun h => by have := hT i h; omega)
    · rw [decide_eq_false (by omega), cond_false, List.drop_eq_nil_of_le (by omega)]
      exact ⟨s, H, rfl, by simpa using hA, hT, fun i hi => rfl, Nat.le_refl _⟩
end Go.Proofs.YtcnigofmjffamaaDoor
