import Derived.Test.YthodknboobgfpaaB04i
set_option linter.unusedVariables false
set_option linter.unusedSimpArgs false
namespace Go.Proofs.Ythodknboobgfpaa
open Go.Proofs.Ythodknboobgfpaa.Sh Go.Proofs.Ythodknboobgfpaa.Sh.V Go.RowKit
theorem n37 (n : Nat) (s : VS) (H : VH) : vF P tab (n + 1) 37 [.ptr .nil, .sl 5 s] H = some (.ptr .nil, H) := by
  rw [vF_body rfl, f37_eq]; rfl
theorem n12 (n : Nat) (x : Int) (H : VH) : vF P tab (n + 2) 12 [.ptr .nil, .int .u8 x] H = some (.ptr .nil, H) := by
  rw [vF_body rfl, f12_eq, callD_ptr (n37 n _ H), Option.bind_some]
theorem n25 (n : Nat) (H : VH) : vF P tab (n + 1) 25 [.ptr .nil] H = some (.bool false, H) := by kernel_rfl
theorem n26 (n : Nat) (H : VH) : vF P tab (n + 1) 26 [.ptr .nil] H = some (.int .i64 0, H) := by kernel_rfl
theorem n16 (n : Nat) (H : VH) : vF P tab (n + 2) 16 [.ptr .nil] H = some (.int .i64 2, H) := by kernel_rfl
theorem n15 (n : Nat) (H : VH) : vF P tab (n + 60) 15 [.ptr .nil] H = some (.int .u8 0, H) := by kernel_rfl
theorem n18 (n : Nat) (H : VH) : vF P tab (n + 60) 18 [.ptr .nil] H = some (.int .i64 0, H) := by kernel_rfl
theorem n19 (n : Nat) (H : VH) : vF P tab (n + 60) 19 [.ptr .nil] H = some (.int .u64 0, H) := by kernel_rfl
theorem n20 (n : Nat) (H : VH) : vF P tab (n + 60) 20 [.ptr .nil] H = some (.str ⟨#[]⟩, H) := by kernel_rfl
theorem n13 (n : Nat) (H : VH) : vF P tab (n + 1) 13 [.ptr .nil] H = some (.sl 5 .nil, H) := by kernel_rfl
theorem n23 (n : Nat) (x : Int) (H : VH) : vF P tab (n + 61) 23 [.ptr .nil, .int .i64 x] H = some (.sl 9 .nil, H) := by
  rw [vF_body rfl, f23_eq, callD_int (n15 n H), Option.bind_some]
  simp only
  rw [callD_bool (n25 (n + 59) H), Option.bind_some]
  rfl
theorem n32 (n : Nat) (x : Int) (H : VH) : vF P tab (n + 2) 32 [.ptr .nil, .int .i64 x] H = some (.ptr .nil, H) := by
  rw [vF_body rfl, f32_eq]
  unfold shrI
  rw [if_neg (by decide), Option.bind_some, callD_ptr (n37 n _ H), Option.bind_some]
theorem n29 (n : Nat) (x : ByteArray) (H : VH) : vF P tab (n + 3) 29 [.ptr .nil, .str x] H = some (.ptr .nil, H) := by
  rw [vF_body rfl, f29_eq, callD_ptr (n32 n _ H), Option.bind_some]
  simp only
  rw [callD_ptr (n37 (n + 1) _ H), Option.bind_some]
theorem n33 (n : Nat) (H : VH) : vF P tab (n + 60) 33 [.ptr .nil, .int .u64 7] H = some (.ptr .nil, H) := by kernel_rfl
theorem n30 (n : Nat) (x : ByteArray) (H : VH) : vF P tab (n + 60) 30 [.ptr .nil, .sl 9 (.fz [[.str x]] (.ex 1))] H = some (.ptr .nil, H) := by kernel_rfl
end Go.Proofs.Ythodknboobgfpaa
