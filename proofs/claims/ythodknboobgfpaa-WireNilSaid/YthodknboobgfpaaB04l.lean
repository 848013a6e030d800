import Derived.Test.YthodknboobgfpaaB04k
set_option linter.unusedVariables false
set_option linter.unusedSimpArgs false
namespace Go.Proofs.Ythodknboobgfpaa
open Go.Proofs.Ythodknboobgfpaa.Sh Go.Proofs.Ythodknboobgfpaa.Sh.V Go.RowKit
/-- WireNil. -/
theorem wireNil (n : Nat) (a : ByteArray) (x : Int) (H : VH) : ∃ H', vF P tab (n + 62) 8 [.int .i64 x, .str a] H = some (.bool true, H') := by
  rw [vF_body rfl, f8_eq]
  cases decide (((a.size : Int) : Int) > 100) with
  | true =>
    rw [cond_true, c9 (n + 1) H, Option.bind_some]
    exact ⟨H, rfl⟩
  | false =>
    rw [cond_false, c9 (n + 1) H, Option.bind_some, cond_true]
    rw [callD_ptr (n12 (n + 59) _ H), Option.bind_some, callD_ptr (n32 (n + 59) _ H), Option.bind_some, callD_ptr (n33 (n + 1) H), Option.bind_some, callD_ptr (n29 (n + 58) _ H), Option.bind_some, callD_ptr (n30 (n + 1) _ H), Option.bind_some]
    have c13 : V.callD (vF P tab (n + 61)) P true (.one (.flat (.slice 5))) 13 [.ptr .nil] H = some (.nil, H) := by
      obtain ⟨s', H'', g1, g2, g3⟩ := callD_frz (n13 (n + 60) H) (l := []) (.inl ⟨rfl, rfl⟩)
      unfold V.callD at g1 ⊢
      rw [n13, Option.bind_some] at g1 ⊢
      show ((V.fdec (.slice 5) (.sl 5 .nil)).map fun x => (x, H)) = _
      rw [fd_sl]; rfl
    rw [c13, Option.bind_some]
    rw [show ((((VS.len .nil : Nat) : Int) : Int) == 0) = true from rfl, cond_true, callD_int (n15 (n + 1) H), Option.bind_some]
    rw [show ((0 : Int) == 0) = true from rfl, cond_true, callD_int (n18 (n + 1) H), Option.bind_some, show ((0 : Int) == 0) = true from rfl, cond_true, callD_int (n19 (n + 1) H), Option.bind_some, show ((0 : Int) == 0) = true from rfl, cond_true]
    rw [callD_str (n20 (n + 1) H), Option.bind_some, show strEq ⟨#[]⟩ ⟨#[]⟩ = true from strEq_iff [] [], cond_true, callD_sl (n23 n _ H), Option.bind_some]
    rw [show ((((VS.len .nil : Nat) : Int) : Int) == 0) = true from rfl, cond_true, callD_int (n26 (n + 60) H), Option.bind_some, show ((0 : Int) == 0) = true from rfl, cond_true, callD_bool (n25 (n + 60) H), Option.bind_some, Bool.not_false, cond_true, callD_int (n16 (n + 59) H), Option.bind_some]
    exact ⟨H, rfl⟩
theorem nil_walk (a0 : Int) (a1 : ByteArray) (w : World) (w0 : (Lit.int .i64 a0).wf = true) (w1 : a1.size ≤ 140737488351232) :
    Calls Try.prog 8 #[.int .i64 a0, .string a1] w fun e w' => e = .returned (.bool true) ∧ Below w.heap.size w w' := by
  obtain ⟨H', hq⟩ := wireNil 300 a1 a0 []
  exact V.walk_of tabOK (args1 := [.int .i64 a0, .string a1]) (args' := [.int .i64 a0, .string a1]) (Sim.start w) (.cons (.int _ _) (.cons (.str _) .nil)) (.cons (.int _ _) (.cons (.string _) .nil)) hq
end Go.Proofs.Ythodknboobgfpaa
