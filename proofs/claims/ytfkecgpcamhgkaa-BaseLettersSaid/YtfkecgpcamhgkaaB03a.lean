import Derived.Test.YtfkecgpcamhgkaaEq
set_option linter.unusedVariables false
namespace Go.Proofs.Ytfkecgpcamhgkaa
open Go.Proofs.Ytfkecgpcamhgkaa.Sh Go.RowKit
theorem tabOK : TabOK P tab := mkTab_ok (by kernel_rfl) (by kernel_rfl)
  (fun f h => by
    have hf : f = 24 := by
      unfold among at h
      cases hb : Nat.beq 24 f with
      | true => exact (Nat.eq_of_beq_eq_true hb).symm
      | false => rw [hb] at h; cases h
    subst hf
    exact ⟨Try.f24, Extern.AbiNoEscape.same, rfl, rfl, by kernel_rfl, by kernel_rfl, fun v => rfl⟩)
  (fun f p h => by cases h)
theorem two (n : Nat) (h : Heap) : eF P tab (n + 60) 9 [] h = some (.bool true, h) := by kernel_rfl
def lenZ (x : Int) : Int := if x < 0 then 0 else (x * 8 + 4) / 5
theorem e13 (n : Nat) (x : Int) (h : Heap) (h1 : -9223372036854775808 ≤ x) (h2 : x ≤ 1125899906842624) : eF P tab (n + 1) 13 [.int .i64 x] h = some (.int .i64 (lenZ x), h) := by
  rw [eF_body rfl rfl, f13_eq]
  unfold lenZ
  by_cases hx : x < 0
  · simp [hx]
  · simp only [hx, decide_false, cond_false, if_false, quoI]
    rw [if_neg (by decide)]
    simp only [Option.bind_some, Option.some.injEq, Prod.mk.injEq, Value.int.injEq, true_and, and_true]
    have e1 : IntKind.wrap .i64 (IntKind.wrap .i64 (IntKind.wrap .i64 (x * 8) + 5) - 1) = x * 8 + 4 := by
      rw [IntWalk.i64_in (x * 8) (by omega), IntWalk.i64_in (x * 8 + 5) (by omega), IntWalk.i64_in (x * 8 + 5 - 1) (by omega)]
      omega
    rw [e1, Int.tdiv_eq_ediv_of_nonneg (by omega)]
    exact IntWalk.i64_in _ (by omega)
theorem c13 (n : Nat) (x : Int) (h : Heap) (h1 : -9223372036854775808 ≤ x) (h2 : x ≤ 1125899906842624) : callD (eF P tab (n + 1)) (.one (.flat (.int .i64))) 13 [.int .i64 x] h = some (lenZ x, h) :=
  callD_some _ (e13 n x h h1 h2) rfl
theorem c9 (n : Nat) (h : Heap) : callD (eF P tab (n + 60)) (.one (.flat .bool)) 9 [] h = some (true, h) := callD_some _ (two n h) rfl
theorem lens_ok (x : Int) (h : Heap) (h1 : -9223372036854775808 ≤ x) (h2 : x ≤ 9223372036854775807) : eF P tab 61 7 [.int .i64 x] h = some (.bool true, h) := by
  have key : ∀ y : Int, -9223372036854775808 ≤ y → y ≤ 1125899906842624 →
      ((callD (eF P tab 60) (.one (.flat (.int .i64))) 13 [.int .i64 y] h).bind fun r5 =>
      (cond (decide ((y : Int) ≤ 0))
        ((callD (eF P tab 60) (.one (.flat .bool)) 9 [] r5.2).bind fun r6 =>
          (cond r6.1
            (some (Value.bool ((r5.1 : Int) == 0), r6.2))
            (some (.bool false, r6.2))))
        ((callD (eF P tab 60) (.one (.flat .bool)) 9 [] r5.2).bind fun r7 =>
          (cond r7.1
            (cond (decide (((IntKind.wrap .i64 (5 * r5.1)) : Int) ≥ (IntKind.wrap .i64 (8 * y))))
              (some (.bool (decide (((IntKind.wrap .i64 (5 * (IntKind.wrap .i64 (r5.1 - 1)))) : Int) < (IntKind.wrap .i64 (8 * y)))), r7.2))
              (some (.bool false, r7.2)))
            (some (.bool false, r7.2)))))) = some (.bool true, h) := by
    intro y hy1 hy2
    rw [c13 59 y h hy1 hy2]
    simp only [Option.bind_some]
    rw [c9 0 h]
    simp only [Option.bind_some, cond_true]
    unfold lenZ
    by_cases h0 : y ≤ 0
    · rw [decide_eq_true h0]
      simp only [cond_true]
      congr 3
      by_cases hl : y < 0
      · simp [hl]
      · have : y = 0 := by omega
        subst this
        rfl
    · rw [decide_eq_false h0, if_neg (by omega)]
      simp only [cond_false]
      rw [decide_eq_true, decide_eq_true]
      · rfl
      · rw [IntWalk.i64_in ((y * 8 + 4) / 5 - 1) (by omega), IntWalk.i64_in (5 * ((y * 8 + 4) / 5 - 1)) (by omega), IntWalk.i64_in (8 * y) (by omega)]; omega
      · rw [IntWalk.i64_in (5 * ((y * 8 + 4) / 5)) (by omega), IntWalk.i64_in (8 * y) (by omega)]; omega
  rw [eF_body rfl rfl, f7_eq]
  by_cases hx : x > 1125899906842624
  · rw [decide_eq_true hx]
    simp only [cond_true, remI]
    rw [if_neg (by decide)]
    simp only [Option.bind_some]
    refine key _ ?_ ?_
    · rw [Int.tmod_eq_emod_of_nonneg (by omega)]; omega
    · rw [Int.tmod_eq_emod_of_nonneg (by omega)]; omega
  · rw [decide_eq_false hx]
    simp only [cond_false]
    exact key x h1 (by omega)
theorem lens_walk (x : Int) (w : World) (hw : (Lit.int .i64 x).wf = true) :
    Calls Try.prog 7 #[.int .i64 x] w fun e w' => e = .returned (.bool true) ∧ Below w.heap.size w w' :=
  walk_of tabOK (args' := [.int .i64 x]) (Sim.start w) (.cons (.int _ _) .nil) (lens_ok x [] (wf_i64 hw).1 (wf_i64 hw).2)
end Go.Proofs.Ytfkecgpcamhgkaa
