import Derived.Test.YtibnelhbebognaaDoorB01l
set_option maxRecDepth 100000
set_option maxHeartbeats 0
set_option linter.unusedVariables false
set_option linter.unusedSimpArgs false
namespace Go.Proofs.YtibnelhbebognaaDoor.S
open Go.Proofs.YtibnelhbebognaaDoor.Sh Go.Proofs.YtibnelhbebognaaDoor.Sh.V
def bitsP : List V → VH → VRes := fun args H =>
  match args with
  | [.flt .f64 b] => if b < 18446744073709551616 then some (.int .u64 (canonB b : Int), H) else none
  | [.nan] => some (.int .u64 9221120237041090561, H)
  | _ => none
def notes : List (Nat × Notes) := [(4, ⟨[], [(6, [1, 2, 6, 7, 8, 9, 10, 11, 12, 13, 14, 15, 16, 17, 18, 19, 20, 21, 22, 23, 24, 25, 26, 27, 28, 29, 30, 31, 32, 33, 34, 35, 36, 37, 38, 39, 40])], []⟩),
  (16, ⟨[], [(3, [0, 1, 2, 4, 5, 9, 10, 11, 12, 13, 14, 15, 16, 17])], []⟩),
  (17, ⟨[], [(10, [0, 1, 2, 4, 5, 6, 7, 8, 9, 10, 11, 12, 13, 14, 15, 16, 17, 18, 19, 20, 21, 22, 23, 24, 25, 26, 27, 28, 29, 30, 31, 32, 33, 34, 35, 36])], []⟩),
  (44, ⟨[(7, .order [(0, true), (1, true), (2, true), (3, true), (4, true), (5, true), (6, true), (7, true), (8, true), (9, true), (10, true), (11, true), (12, false), (13, true), (14, false)]), (8, .order [(0, true), (1, true), (2, true), (3, true), (4, true), (5, true), (6, true), (7, true), (8, true), (9, true), (10, true), (11, true), (12, false), (13, true), (14, false)]), (9, .order [(0, true), (1, true), (2, true), (3, true), (4, true), (5, true), (6, true), (7, true), (8, true), (9, true), (10, true), (11, true), (12, false), (13, true), (14, false)]), (10, .order [(0, true), (1, true), (2, true), (3, true), (4, true), (5, true), (6, true), (7, true), (8, true), (9, true), (10, true), (11, true), (12, false), (13, true), (14, false)]), (17, .order [(0, true), (1, true), (2, true), (3, true), (4, true), (5, true), (6, true), (7, true), (8, true), (9, true), (10, true), (11, true), (12, false), (13, true), (14, false)]), (18, .order [(0, true), (1, true), (2, true), (3, true), (4, true), (5, true), (6, true), (7, true), (8, true), (9, true), (10, true), (11, true), (12, false), (13, true), (14, false)]), (23, .order [(0, true), (1, true), (2, true), (3, true), (4, true), (5, true), (6, true), (7, true), (8, true), (9, true), (10, true), (11, true), (12, false), (13, true), (14, false)])], [(1, [2, 3, 5, 6, 7, 8, 9, 10, 11, 12, 13, 14, 15, 16, 17, 18, 19, 20, 21, 22, 23, 24, 25, 26, 27, 28, 29, 30, 31, 32, 33, 34, 35, 36, 37, 38, 39, 40, 41, 42, 43, 44, 45, 46, 47, 48, 49, 50, 51, 52, 53, 54, 55, 56, 57, 58, 59, 60, 61, 62, 63, 64, 65, 66, 67, 68, 69, 70, 71, 72, 73, 74, 75, 76, 77, 78, 79, 80, 81, 82, 83, 84, 85, 86, 87, 88, 89, 90, 91, 92, 93, 94, 95, 96, 97, 98, 99, 100, 101, 102, 103, 104, 105, 106, 107, 108, 109, 110, 111, 112, 113, 114, 115, 116, 117, 118, 119, 120, 121, 122, 123, 124, 125, 126, 127, 128, 129, 130, 131, 132, 133, 134, 135, 136, 137, 138, 139, 140, 141, 142, 143, 144, 145, 146, 147, 148, 149, 150, 151, 152, 153, 154, 155, 156, 157, 158, 159, 160, 161, 162, 163, 164, 165, 166])], []⟩),
  (45, ⟨[], [(11, [2, 5, 6, 7, 8, 9, 17, 18, 19, 20, 21, 22, 23, 24, 25, 26, 27, 28, 29, 30, 31, 32, 33, 34, 35, 36, 37, 38, 39, 40, 41, 42, 43, 44, 45, 46, 47, 48, 49, 50, 51, 52, 53, 54, 55, 56, 57, 58, 59, 60, 61, 62, 63, 64, 65, 66, 67, 68, 69, 70, 71, 72, 73, 74, 75, 76, 77, 78, 79, 80, 81, 82, 83, 84, 85, 86, 87, 88, 89, 90, 91, 92, 93, 94, 95, 96, 97, 98, 99, 100, 101]), (18, [2, 5, 6, 7, 8, 9, 14, 15, 16, 18, 19, 20, 21, 22, 23, 24, 25, 26, 27, 28, 29, 30, 31, 32, 33, 34, 35, 36, 37, 38, 39, 40, 41, 42, 43, 44, 45, 46, 47, 48, 49, 50, 51, 52, 53, 54, 55, 56, 57, 58, 59, 60, 61, 62, 63, 64, 65, 66, 67, 68, 69, 70, 71, 72, 73, 74, 75, 76, 77, 78, 79, 80, 81, 82, 83, 84, 85, 86, 87, 88, 89, 90, 91, 92, 93, 94, 95, 96, 97, 98, 99, 100, 101])], []⟩)]
noncomputable abbrev P : Program := Tryd.prog
def reach : List Nat := [4, 10, 11, 12, 15, 16, 17, 28, 29, 30, 31, 32, 38, 39, 40, 41, 42, 43, 44, 45, 46, 47, 48, 49, 50, 51, 52]
def noteOf (f : FuncId) : Notes := (find notes f).getD ⟨[], [], []⟩
noncomputable def prims : List (FuncId × (List V → VH → VRes)) := [(14, bitsP)]
noncomputable def tab : VTab := mkVg (mkVp (mkV P noteOf reach [] (fun f => !among [] f) (among [10, 11, 12, 14, 15, 16, 17]) (fun f g => among2 [] f g) (fun f => !among [] f)) prims) globs
noncomputable def ext13 : Array Value → Sem Value := (extOf P 13).getD fun _ => .pure undef
noncomputable def ext27 : Array Value → Sem Value := (extOf P 27).getD fun _ => .pure undef
noncomputable def ext37 : Array Value → Sem Value := (extOf P 37).getD fun _ => .pure undef
/-! godown/godownlaw01.RealSums -/
noncomputable def L4v (n m : Nat) (s0 : VS) (s3 : VS) (s4 : V) (s5 : Int) (h : VH) : VRes := loopAt P tab 4 [1, 1, 1, 1, 0, 1, 0] n [] m [.sl 22 s0, .undef, .undef, .sl 23 s3, s4, .int .i64 s5, .undef, .undef, .undef, .undef, .undef, .undef, .undef, .undef, .undef, .undef, .undef, .undef, .undef, .undef, .undef, .undef, .undef, .undef, .undef, .undef, .undef, .undef, .undef, .undef, .undef, .undef, .undef, .undef, .undef, .undef, .undef, .undef, .undef, .undef, .undef] h
theorem L4v_f (n m : Nat) (s0 : VS) (s3 : VS) (a : Nat) (s5 : Int) (h : VH) : L4v n (m + 1) s0 s3 (.flt .f64 a) s5 h =
  (cond (decide ((s5 : Int) < ((VS.len s0 : Nat) : Int)))
    ((ixV 1 s0 s5).bind fun p1 =>
      ((ldV (.flat (.int .u64)) h p1).bind fun x2 =>
        ((callD (vF P tab n) P false (.one (.flat (.flt .f64))) 10 [.int .u64 x2] h).bind fun r3 =>
          ((appD true r3.2 1 8 23 s3 (.fz [[.flt .f64 r3.1]] (.ex 1))).bind fun r4 =>
            ((ixV 1 s0 s5).bind fun p5 =>
              ((ldV (.flat (.int .u64)) r4.2 p5).bind fun x6 =>
                ((callD (vF P tab n) P false (.one (.flat (.flt .f64))) 10 [.int .u64 x6] r4.2).bind fun r7 =>
                  (cond (nanOf .add (some (.flt .f64 a)) (some (.flt .f64 r7.1))) (L4v n m s0 r4.1 .nan (IntKind.wrap .i64 (s5 + 1)) r7.2) ((pvD P (.flt .f64) (binOp .add 23 (.float .f64 a) (.float .f64 r7.1))).bind fun x8 => (L4v n m s0 r4.1 (.flt .f64 x8) (IntKind.wrap .i64 (s5 + 1)) r7.2))))))))))
    ((callD (vF P tab n) P false (.one (.flat (.flt .f64))) 16 [.sl 23 s3] h).bind fun r9 =>
      ((pvD P (.int .u64) (ext13 #[.float .f64 r9.1])).bind fun x10 =>
        ((callD (vF P tab n) P false (.one (.flat (.int .u64))) 14 [.flt .f64 a] r9.2).bind fun r11 =>
          (some (.bool ((x10 : Int) == r11.1), r11.2)))))) := by kernel_rfl
theorem L4v_n (n m : Nat) (s0 : VS) (s3 : VS) (s5 : Int) (h : VH) : L4v n (m + 1) s0 s3 .nan s5 h =
  (cond (decide ((s5 : Int) < ((VS.len s0 : Nat) : Int)))
    ((ixV 1 s0 s5).bind fun p1 =>
      ((ldV (.flat (.int .u64)) h p1).bind fun x2 =>
        ((callD (vF P tab n) P false (.one (.flat (.flt .f64))) 10 [.int .u64 x2] h).bind fun r3 =>
          ((appD true r3.2 1 8 23 s3 (.fz [[.flt .f64 r3.1]] (.ex 1))).bind fun r4 =>
            ((ixV 1 s0 s5).bind fun p5 =>
              ((ldV (.flat (.int .u64)) r4.2 p5).bind fun x6 =>
                ((callD (vF P tab n) P false (.one (.flat (.flt .f64))) 10 [.int .u64 x6] r4.2).bind fun r7 =>
                  (L4v n m s0 r4.1 .nan (IntKind.wrap .i64 (s5 + 1)) r7.2))))))))
    ((callD (vF P tab n) P false (.one (.flat (.flt .f64))) 16 [.sl 23 s3] h).bind fun r9 =>
      ((pvD P (.int .u64) (ext13 #[.float .f64 r9.1])).bind fun x10 =>
        ((callD (vF P tab n) P false (.one (.flat (.int .u64))) 14 [.nan] r9.2).bind fun r11 =>
          (some (.bool ((x10 : Int) == r11.1), r11.2)))))) := by kernel_rfl
theorem f4_eq (n : Nat) (a0 : VS) (h : VH) : bodyV P tab (vF P tab n) n 4 [.sl 22 a0] h =
  ((callD (vF P tab n) P false (.one (.flat .bool)) 12 [] h).bind fun r1 =>
    (cond (!r1.1)
      ((callD (vF P tab n) P false (.one (.flat .bool)) 12 [] r1.2).bind fun r2 =>
        (some (.bool r2.1, r2.2)))
      (cond (decide ((((VS.len a0 : Nat) : Int) : Int) > 60))
        ((callD (vF P tab n) P false (.one (.flat .bool)) 12 [] r1.2).bind fun r3 =>
          (some (.bool r3.1, r3.2)))
        (L4v n n a0 .nil (.flt .f64 0) 0 r1.2)))) := by kernel_rfl
/-! godown/godownlaw01.of -/
theorem f10_eq (n : Nat) (a0 : Int) (h : VH) : bodyV P tab (vF P tab n) n 10 [.int .u64 a0] h =
  ((pvD P (.flt .f64) (ext27 #[.int .u64 a0])).bind fun x1 =>
    (some (.flt .f64 x1, h))) := by kernel_rfl
theorem f11_nan (n : Nat) (h : VH) : bodyV P tab (vF P tab n) n 11 [.nan] h =
  ((pvD P (.flt .f64) (ext27 #[.int .u64 9221120237041090561])).bind fun x2 =>
        (some (.flt .f64 x2, h))) := by kernel_rfl
/-! godown/real.Canon -/
theorem f11_eq (n : Nat) (a0 : Nat) (h : VH) : bodyV P tab (vF P tab n) n 11 [.flt .f64 a0] h =
  ((pvD P .bool (binOp .neq 23 (.float .f64 a0) (.float .f64 a0))).bind fun x1 =>
    (cond x1
      ((pvD P (.flt .f64) (ext27 #[.int .u64 9221120237041090561])).bind fun x2 =>
        (some (.flt .f64 x2, h)))
      ((pvD P .bool (binOp .eql 23 (.float .f64 a0) (.float .f64 0))).bind fun x3 =>
        (cond x3
          (some (.flt .f64 0, h))
          (some (.flt .f64 a0, h)))))) := by kernel_rfl
/-! godown/real.Bits -/
theorem f15_eq (n : Nat) (a0 : Nat) (h : VH) : bodyV P tab (vF P tab n) n 15 [.flt .f64 a0] h =
  ((callD (vF P tab n) P false (.one (.flat (.flt .f64))) 11 [.flt .f64 a0] h).bind fun r1 =>
    ((pvD P (.int .u64) (ext13 #[.float .f64 r1.1])).bind fun x2 =>
      (some (.int .u64 x2, r1.2)))) := by kernel_rfl
/-! godown/real.Sum -/
noncomputable def L16v (n m : Nat) (s3 : V) (s6 : VS) (s7 : Int) (s8 : Int) (h : VH) : VRes := loopAt P tab 16 [1, 1, 0, 1, 0] n [] m [.undef, .undef, .undef, s3, .undef, .undef, .sl 23 s6, .int .i64 s7, .int .i64 s8, .undef, .undef, .undef, .undef, .undef, .undef, .undef, .undef, .undef] h
theorem L16v_f (n m : Nat) (a : Nat) (s6 : VS) (s7 : Int) (s8 : Int) (h : VH) : L16v n (m + 1) (.flt .f64 a) s6 s7 s8 h =
  (cond (decide ((s8 : Int) < s7))
    ((ixV 1 s6 s8).bind fun p1 =>
      ((ldV (.flat (.flt .f64)) h p1).bind fun x2 =>
        (cond (nanOf .add (some (.flt .f64 a)) (some (.flt .f64 x2))) (L16v n m .nan s6 s7 (IntKind.wrap .i64 (s8 + 1)) h) ((pvD P (.flt .f64) (binOp .add 23 (.float .f64 a) (.float .f64 x2))).bind fun x8 => (L16v n m (.flt .f64 x8) s6 s7 (IntKind.wrap .i64 (s8 + 1)) h)))))
    ((callD (vF P tab n) P false (.one (.flat (.flt .f64))) 11 [.flt .f64 a] h).bind fun r4 =>
      (some (.flt .f64 r4.1, r4.2)))) := by kernel_rfl
theorem L16v_n (n m : Nat) (s6 : VS) (s7 : Int) (s8 : Int) (h : VH) : L16v n (m + 1) .nan s6 s7 s8 h =
  (cond (decide ((s8 : Int) < s7))
    ((ixV 1 s6 s8).bind fun p1 =>
      ((ldV (.flat (.flt .f64)) h p1).bind fun x2 =>
        (L16v n m .nan s6 s7 (IntKind.wrap .i64 (s8 + 1)) h)))
    ((callD (vF P tab n) P false (.one (.flat (.flt .f64))) 11 [.nan] h).bind fun r4 =>
      (some (.flt .f64 r4.1, r4.2)))) := by kernel_rfl
theorem f16_eq (n : Nat) (a0 : VS) (h : VH) : bodyV P tab (vF P tab n) n 16 [.sl 23 a0] h =
  (L16v n n (.flt .f64 0) a0 ((VS.len a0 : Nat) : Int) 0 h) := by kernel_rfl
/-! math.Copysign -/
theorem f41_eq (n : Nat) (a0 : Nat) (a1 : Nat) (h : VH) : bodyV P tab (vF P tab n) n 41 [.flt .f64 a0, .flt .f64 a1] h =
  ((pvD P (.int .u64) (ext13 #[.float .f64 a0])).bind fun x1 =>
    ((pvD P (.int .u64) (ext13 #[.float .f64 a1])).bind fun x2 =>
      ((pvD P (.flt .f64) (ext27 #[.int .u64 (bitI .or .u64 (bitI .andNot .u64 x1 9223372036854775808) (bitI .and .u64 x2 9223372036854775808))])).bind fun x3 =>
        (some (.flt .f64 x3, h))))) := by kernel_rfl
end Go.Proofs.YtibnelhbebognaaDoor.S
