import Derived.Test.YtibdinelkpbhaaaEq
set_option maxRecDepth 100000
set_option maxHeartbeats 0
set_option linter.unusedVariables false
set_option linter.unusedSimpArgs false
namespace Go.Proofs.Ytibdinelkpbhaaa
open Go.Proofs.Ytibdinelkpbhaaa.Sh Go.Proofs.Ytibdinelkpbhaaa.Sh.V
/-! DeleteFunc and IndexFunc with the other closure (leave$1) -/
/-! again: slices.DeleteFunc[[]int,int] -/
noncomputable def L29b_0 (n m : Nat) (s0 : VS) (s1_0 : VP) (s5 : Int) (s6 : Int) (h : VH) : VRes := loopAt P tab 29 [1, 1, 1, 0, 1, 0] n [] m [.sl 3 s0, .func (.func 52) [] [.ptr s1_0], .undef, .undef, .undef, .int .i64 s5, .int .i64 s6, .undef, .undef, .undef, .undef, .undef, .undef, .undef, .undef, .undef, .undef, .undef, .undef, .undef, .undef, .undef, .undef, .undef, .undef, .undef, .undef, .undef, .undef, .undef, .undef, .undef, .undef, .undef, .undef, .undef, .undef, .undef, .undef, .undef, .undef, .undef] h
theorem L29b_0_eq (n m : Nat) (s0 : VS) (s1_0 : VP) (s5 : Int) (s6 : Int) (h : VH) : L29b_0 n (m + 1) s0 s1_0 s5 s6 h =
  (cond (decide ((s6 : Int) < ((VS.len s0 : Nat) : Int)))
    ((ixV 1 s0 s6).bind fun p1 =>
      ((ldV (.flat (.int .i64)) h p1).bind fun x2 =>
        ((callD (vF P tab n) P false (.one (.flat .bool)) 52 [.int .i64 x2, .ptr s1_0] h).bind fun r3 =>
          (cond (!r3.1)
            ((ixV 1 s0 s5).bind fun p4 =>
              ((stV r3.2 p4 [.int .i64 x2]).bind fun h5 =>
                (L29b_0 n m s0 s1_0 (IntKind.wrap .i64 (s5 + 1)) (IntKind.wrap .i64 (s6 + 1)) h5)))
            (L29b_0 n m s0 s1_0 s5 (IntKind.wrap .i64 (s6 + 1)) r3.2)))))
    ((cutD h 3 1 s0 (some s5) none none).bind fun z6 =>
      ((V.clrD P h 29 (.sl 3 z6)).bind fun h7 =>
        ((cutD h7 3 1 s0 none (some s5) none).bind fun z8 =>
          (some (.sl 3 z8, h7)))))) := by kernel_rfl
theorem f29b_eq (n : Nat) (a0 : VS) (a1_0 : VP) (h : VH) : bodyV P tab (vF P tab n) n 29 [.sl 3 a0, .func (.func 52) [] [.ptr a1_0]] h =
  ((callD (vF P tab n) P false (.one (.flat (.int .i64))) 47 [.sl 3 a0, .func (.func 52) [] [.ptr a1_0]] h).bind fun r1 =>
    (cond ((r1.1 : Int) == (-1))
      (some (.sl 3 a0, r1.2))
      (L29b_0 n n a0 a1_0 r1.1 (IntKind.wrap .i64 (r1.1 + 1)) r1.2))) := by kernel_rfl
/-! again: slices.IndexFunc[[]int,int] -/
noncomputable def L47b_0 (n m : Nat) (s0 : VS) (s1_0 : VP) (s7 : Int) (s8 : Int) (h : VH) : VRes := loopAt P tab 47 [1, 0, 1, 0] n [] m [.sl 3 s0, .func (.func 52) [] [.ptr s1_0], .undef, .undef, .undef, .undef, .undef, .int .i64 s7, .int .i64 s8, .undef, .undef, .undef, .undef, .undef, .undef, .undef, .undef, .undef, .undef] h
theorem L47b_0_eq (n m : Nat) (s0 : VS) (s1_0 : VP) (s7 : Int) (s8 : Int) (h : VH) : L47b_0 n (m + 1) s0 s1_0 s7 s8 h =
  (cond (decide ((s8 : Int) < s7))
    ((ixV 1 s0 s8).bind fun p1 =>
      ((ldV (.flat (.int .i64)) h p1).bind fun x2 =>
        ((callD (vF P tab n) P false (.one (.flat .bool)) 52 [.int .i64 x2, .ptr s1_0] h).bind fun r3 =>
          (cond r3.1
            (some (.int .i64 s8, r3.2))
            (L47b_0 n m s0 s1_0 s7 (IntKind.wrap .i64 (s8 + 1)) r3.2)))))
    (some (.int .i64 (-1), h))) := by kernel_rfl
theorem f47b_eq (n : Nat) (a0 : VS) (a1_0 : VP) (h : VH) : bodyV P tab (vF P tab n) n 47 [.sl 3 a0, .func (.func 52) [] [.ptr a1_0]] h =
  (L47b_0 n n a0 a1_0 ((VS.len a0 : Nat) : Int) 0 h) := by kernel_rfl
end Go.Proofs.Ytibdinelkpbhaaa
