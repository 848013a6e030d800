import Derived.Test.YtmpobijkbmljdaaB05bh
set_option maxRecDepth 100000
set_option linter.unusedVariables false
set_option linter.unusedSimpArgs false
namespace Go.Proofs.Ytmpobijkbmljdaa
open Go.Proofs.Ytmpobijkbmljdaa.Sh Go.Proofs.Ytmpobijkbmljdaa.Sh.V Go.RowKit
/-! ### Cut at the first slash -/
theorem idx_cut : ∀ l : List UInt8, ((cutP1 l).2.2 = true → Lib.indexByte l 47 = ((cutP1 l).1.length : Int) ∧ (cutP1 l).1.length < l.length ∧ l.take (cutP1 l).1.length = (cutP1 l).1 ∧ l.drop ((cutP1 l).1.length + 1) = (cutP1 l).2.1) ∧ ((cutP1 l).2.2 = false → Lib.indexByte l 47 = -1 ∧ (cutP1 l).1 = l ∧ (cutP1 l).2.1 = [])
  | [] => ⟨fun h => (by cases h), fun _ => ⟨rfl, rfl, rfl⟩⟩
  | b :: l => by
    obtain ⟨h1, h2⟩ := idx_cut l
    by_cases hb : b = 47
    · subst hb
      refine ⟨fun _ => ?_, fun h => ?_⟩
      · have e : cutP1 (47 :: l) = ([], l, true) := by unfold cutP1; rw [if_pos rfl]
        rw [e]
        refine ⟨?_, by simp, rfl, rfl⟩
        unfold Lib.indexByte
        rfl
      · have e : cutP1 (47 :: l) = ([], l, true) := by unfold cutP1; rw [if_pos rfl]
        rw [e] at h; cases h
    · have e : cutP1 (b :: l) = (b :: (cutP1 l).1, (cutP1 l).2) := by rw [cutP1, if_neg hb]
      have hne : (b == (47 : UInt8)) = false := beq_eq_false_iff_ne.2 hb
      rw [e]
      refine ⟨fun h => ?_, fun h => ?_⟩
      · obtain ⟨a1, a2, a3, a4⟩ := h1 h
        refine ⟨?_, by simp only [List.length_cons]; omega, by simp [a3], by simp only [List.length_cons, List.drop_succ_cons]; exact a4⟩
        unfold Lib.indexByte
        rw [hne, a1]
        simp only [Bool.false_eq_true, if_false]
        rw [if_neg (by simp)]
        simp
      · obtain ⟨a1, a2, a3⟩ := h2 h
        refine ⟨?_, by simp only [a2], a3⟩
        unfold Lib.indexByte
        rw [hne, a1]
        rfl
theorem c63 (n : Nat) (l : List UInt8) (H : VH) : V.callD (vF P tab (n + 1)) P false (.one (.flat (.int .i64))) 63 [.str ⟨l.toArray⟩, .str ⟨#[47]⟩] H = some (Lib.indexByte l 47, H) := by
  refine callD_int ?_
  rw [vF_body rfl]
  show idxP [.str ⟨l.toArray⟩, .str ⟨#[47]⟩] H = _
  unfold idxP
  simp
theorem c58 (n : Nat) (l : List UInt8) (hl : l.length < 1000000) (H : VH) : V.callD (vF P tab (n + 2)) P false (.tup [(.flat .str), (.flat .str), (.flat .bool)]) 58 [.str ⟨l.toArray⟩, .str ⟨#[47]⟩] H = some ((⟨(cutP1 l).1.toArray⟩, ⟨(cutP1 l).2.1.toArray⟩, (cutP1 l).2.2, ()), H) := by
  have hb : bodyV P tab (vF P tab (n + 1)) (n + 1) 58 [.str ⟨l.toArray⟩, .str ⟨#[47]⟩] [] = some (.tup [.str ⟨(cutP1 l).1.toArray⟩, .str ⟨(cutP1 l).2.1.toArray⟩, .bool (cutP1 l).2.2], []) := by
    rw [f58_eq, c63, Option.bind_some]
    simp only
    obtain ⟨h1, h2⟩ := idx_cut l
    cases hc : (cutP1 l).2.2 with
    | true =>
      obtain ⟨a1, a2, a3, a4⟩ := h1 hc
      have hd : decide (((cutP1 l).1.length : Int) ≥ 0) = true := decide_eq_true (by omega)
      rw [a1, hd, cond_true, cutS_to l _ (by omega), Option.bind_some, show (((⟨#[47]⟩ : ByteArray).size : Nat) : Int) = 1 from rfl, inc_nat (by omega), cutS_from l _ (by omega), Option.bind_some, a3, a4]
    | false =>
      obtain ⟨a1, a2, a3⟩ := h2 hc
      rw [a1, show decide ((-1 : Int) ≥ 0) = false from rfl, cond_false, a2, a3]
  exact callD_some (.tup [.str ⟨(cutP1 l).1.toArray⟩, .str ⟨(cutP1 l).2.1.toArray⟩, .bool (cutP1 l).2.2]) (vF_lone (n := n + 1) (r := .tup [.str ⟨(cutP1 l).1.toArray⟩, .str ⟨(cutP1 l).2.1.toArray⟩, .bool (cutP1 l).2.2]) (H1 := []) rfl rfl hb rfl) rfl
theorem c48 (n : Nat) (l : List UInt8) (hl : l.length < 1000000) (H : VH) : V.callD (vF P tab (n + 3)) P false (.tup [(.flat .str), (.flat .str), (.flat .bool)]) 48 [.str ⟨l.toArray⟩, .str ⟨#[47]⟩] H = some ((⟨(cutP1 l).1.toArray⟩, ⟨(cutP1 l).2.1.toArray⟩, (cutP1 l).2.2, ()), H) := by
  have hb : bodyV P tab (vF P tab (n + 2)) (n + 2) 48 [.str ⟨l.toArray⟩, .str ⟨#[47]⟩] [] = some (.tup [.str ⟨(cutP1 l).1.toArray⟩, .str ⟨(cutP1 l).2.1.toArray⟩, .bool (cutP1 l).2.2], []) := by
    rw [f48_eq, c58 n l hl, Option.bind_some]
  exact callD_some (.tup [.str ⟨(cutP1 l).1.toArray⟩, .str ⟨(cutP1 l).2.1.toArray⟩, .bool (cutP1 l).2.2]) (vF_lone (n := n + 2) (r := .tup [.str ⟨(cutP1 l).1.toArray⟩, .str ⟨(cutP1 l).2.1.toArray⟩, .bool (cutP1 l).2.2]) (H1 := []) rfl rfl hb rfl) rfl
end Go.Proofs.Ytmpobijkbmljdaa
