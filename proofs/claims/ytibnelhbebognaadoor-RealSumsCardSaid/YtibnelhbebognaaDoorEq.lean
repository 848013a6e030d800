import Derived.Test.YtibnelhbebognaaDoorB01k
set_option maxRecDepth 100000
set_option maxHeartbeats 0
set_option linter.unusedVariables false
set_option linter.unusedSimpArgs false
namespace Go.Proofs.YtibnelhbebognaaDoor
open Go.Proofs.YtibnelhbebognaaDoor.Sh Go.Proofs.YtibnelhbebognaaDoor.Sh.V
def notes : List (Nat × Notes) := [(9, ⟨[], [(5, [1, 2, 5, 6, 7, 8, 9, 10, 11, 12, 13, 14, 15, 16, 17, 18, 19, 20, 21, 22, 23, 24, 25, 26, 27, 28, 29, 30, 31, 32, 33, 34, 35, 36, 37, 38, 39, 40, 41, 42, 43, 44, 45, 46, 47, 48, 49, 50, 51, 52, 53, 54, 55, 56, 57, 58, 59, 60, 61, 62, 63]), (11, [0, 1, 2, 4, 8, 9, 10, 11, 12, 13, 14, 15, 16, 17, 18, 19, 20, 21, 22, 23, 24, 25, 26, 27, 28, 29, 30, 31, 32, 33, 34, 35, 36, 37, 38, 39, 40, 41, 42, 43, 44, 45, 46, 47, 48, 49, 50, 51, 52, 53, 54, 55, 56, 57, 58, 59, 60, 61, 62, 63])], []⟩),
  (16, ⟨[], [(3, [0, 1, 2, 4, 5, 9, 10, 11, 12, 13, 14, 15, 16, 17])], []⟩),
  (17, ⟨[], [(10, [0, 1, 2, 4, 5, 6, 7, 8, 9, 10, 11, 12, 13, 14, 15, 16, 17, 18, 19, 20, 21, 22, 23, 24, 25, 26, 27, 28, 29, 30, 31, 32, 33, 34, 35, 36])], []⟩),
  (25, ⟨[], [(3, [0, 1, 2, 4, 5, 6, 10, 11, 12, 13, 14, 15, 16, 17, 18, 19])], []⟩),
  (26, ⟨[], [(3, [1, 2, 5, 6, 7, 8, 9, 10, 11, 12, 13, 14, 15, 16, 17, 18, 19, 20, 21, 22, 23, 24, 25])], []⟩),
  (44, ⟨[(7, .order [(0, true), (1, true), (2, true), (3, true), (4, true), (5, true), (6, true), (7, true), (8, true), (9, true), (10, true), (11, true), (12, false), (13, true), (14, false)]), (8, .order [(0, true), (1, true), (2, true), (3, true), (4, true), (5, true), (6, true), (7, true), (8, true), (9, true), (10, true), (11, true), (12, false), (13, true), (14, false)]), (9, .order [(0, true), (1, true), (2, true), (3, true), (4, true), (5, true), (6, true), (7, true), (8, true), (9, true), (10, true), (11, true), (12, false), (13, true), (14, false)]), (10, .order [(0, true), (1, true), (2, true), (3, true), (4, true), (5, true), (6, true), (7, true), (8, true), (9, true), (10, true), (11, true), (12, false), (13, true), (14, false)]), (17, .order [(0, true), (1, true), (2, true), (3, true), (4, true), (5, true), (6, true), (7, true), (8, true), (9, true), (10, true), (11, true), (12, false), (13, true), (14, false)]), (18, .order [(0, true), (1, true), (2, true), (3, true), (4, true), (5, true), (6, true), (7, true), (8, true), (9, true), (10, true), (11, true), (12, false), (13, true), (14, false)]), (23, .order [(0, true), (1, true), (2, true), (3, true), (4, true), (5, true), (6, true), (7, true), (8, true), (9, true), (10, true), (11, true), (12, false), (13, true), (14, false)])], [(1, [2, 3, 5, 6, 7, 8, 9, 10, 11, 12, 13, 14, 15, 16, 17, 18, 19, 20, 21, 22, 23, 24, 25, 26, 27, 28, 29, 30, 31, 32, 33, 34, 35, 36, 37, 38, 39, 40, 41, 42, 43, 44, 45, 46, 47, 48, 49, 50, 51, 52, 53, 54, 55, 56, 57, 58, 59, 60, 61, 62, 63, 64, 65, 66, 67, 68, 69, 70, 71, 72, 73, 74, 75, 76, 77, 78, 79, 80, 81, 82, 83, 84, 85, 86, 87, 88, 89, 90, 91, 92, 93, 94, 95, 96, 97, 98, 99, 100, 101, 102, 103, 104, 105, 106, 107, 108, 109, 110, 111, 112, 113, 114, 115, 116, 117, 118, 119, 120, 121, 122, 123, 124, 125, 126, 127, 128, 129, 130, 131, 132, 133, 134, 135, 136, 137, 138, 139, 140, 141, 142, 143, 144, 145, 146, 147, 148, 149, 150, 151, 152, 153, 154, 155, 156, 157, 158, 159, 160, 161, 162, 163, 164, 165, 166])], []⟩),
  (45, ⟨[], [(11, [2, 5, 6, 7, 8, 9, 17, 18, 19, 20, 21, 22, 23, 24, 25, 26, 27, 28, 29, 30, 31, 32, 33, 34, 35, 36, 37, 38, 39, 40, 41, 42, 43, 44, 45, 46, 47, 48, 49, 50, 51, 52, 53, 54, 55, 56, 57, 58, 59, 60, 61, 62, 63, 64, 65, 66, 67, 68, 69, 70, 71, 72, 73, 74, 75, 76, 77, 78, 79, 80, 81, 82, 83, 84, 85, 86, 87, 88, 89, 90, 91, 92, 93, 94, 95, 96, 97, 98, 99, 100, 101]), (18, [2, 5, 6, 7, 8, 9, 14, 15, 16, 18, 19, 20, 21, 22, 23, 24, 25, 26, 27, 28, 29, 30, 31, 32, 33, 34, 35, 36, 37, 38, 39, 40, 41, 42, 43, 44, 45, 46, 47, 48, 49, 50, 51, 52, 53, 54, 55, 56, 57, 58, 59, 60, 61, 62, 63, 64, 65, 66, 67, 68, 69, 70, 71, 72, 73, 74, 75, 76, 77, 78, 79, 80, 81, 82, 83, 84, 85, 86, 87, 88, 89, 90, 91, 92, 93, 94, 95, 96, 97, 98, 99, 100, 101])], []⟩)]
noncomputable abbrev P : Program := Tryd.prog
def reach : List Nat := [3, 6, 7, 8, 9, 10, 11, 12, 14, 15, 16, 17, 20, 21, 22, 23, 24, 25, 26, 28, 29, 30, 31, 32, 35, 36, 38, 39, 40, 41, 42, 43, 44, 45, 46, 47, 48, 49, 50, 51, 52]
def noteOf (f : FuncId) : Notes := (find notes f).getD ⟨[], [], []⟩
noncomputable def tab : VTab := mkVg (mkV P noteOf reach [] (fun f => !among [] f) (among [10, 11, 12, 14, 15, 16, 17, 20, 21, 22, 23, 24, 25, 26, 35]) (fun f g => among2 [] f g) (fun f => !among [] f)) globs
noncomputable def ext13 : Array Value → Sem Value := (extOf P 13).getD fun _ => .pure undef
noncomputable def ext27 : Array Value → Sem Value := (extOf P 27).getD fun _ => .pure undef
noncomputable def ext37 : Array Value → Sem Value := (extOf P 37).getD fun _ => .pure undef
/-! godown/godownlaw01.RealCanons -/
theorem f3_eq (n : Nat) (a0 : Int) (h : VH) : bodyV P tab (vF P tab n) n 3 [.int .u64 a0] h =
  ((callD (vF P tab n) P false (.one (.flat (.flt .f64))) 10 [.int .u64 a0] h).bind fun r1 =>
    ((callD (vF P tab n) P false (.one (.flat (.flt .f64))) 11 [.flt .f64 r1.1] r1.2).bind fun r2 =>
      ((callD (vF P tab n) P false (.one (.flat .bool)) 12 [] r2.2).bind fun r3 =>
        (cond r3.1
          ((pvD P (.int .u64) (ext13 #[.float .f64 r2.1])).bind fun x4 =>
            ((callD (vF P tab n) P false (.one (.flat (.int .u64))) 14 [.flt .f64 r1.1] r3.2).bind fun r5 =>
              (cond ((x4 : Int) == r5.1)
                ((callD (vF P tab n) P false (.one (.flat (.int .u64))) 15 [.flt .f64 r1.1] r5.2).bind fun r6 =>
                  ((callD (vF P tab n) P false (.one (.flat (.int .u64))) 14 [.flt .f64 r1.1] r6.2).bind fun r7 =>
                    (cond ((r6.1 : Int) == r7.1)
                      ((callD (vF P tab n) P false (.one (.flat (.int .u64))) 15 [.flt .f64 r2.1] r7.2).bind fun r8 =>
                        ((callD (vF P tab n) P false (.one (.flat (.int .u64))) 15 [.flt .f64 r1.1] r8.2).bind fun r9 =>
                        (cond ((r8.1 : Int) == r9.1)
                        ((pvD P .bool (binOp .neq 23 (.float .f64 r1.1) (.float .f64 r1.1))).bind fun x10 =>
                        (cond x10
                        (some (.bool true, r9.2))
                        ((pvD P .bool (binOp .eql 23 (.float .f64 r2.1) (.float .f64 r1.1))).bind fun x11 =>
                        (some (.bool x11, r9.2)))))
                        (some (.bool false, r9.2)))))
                      (some (.bool false, r7.2)))))
                (some (.bool false, r5.2)))))
          (some (.bool false, r3.2)))))) := by kernel_rfl
/-! godown/godownlaw01.RealOrder -/
theorem f6_eq (n : Nat) (a0 : Int) (a1 : Int) (a2 : Int) (h : VH) : bodyV P tab (vF P tab n) n 6 [.int .u64 a0, .int .u64 a1, .int .u64 a2] h =
  ((callD (vF P tab n) P false (.one (.flat (.flt .f64))) 10 [.int .u64 a0] h).bind fun r1 =>
    ((callD (vF P tab n) P false (.one (.flat (.flt .f64))) 10 [.int .u64 a1] r1.2).bind fun r2 =>
      ((callD (vF P tab n) P false (.one (.flat (.flt .f64))) 10 [.int .u64 a2] r2.2).bind fun r3 =>
        ((callD (vF P tab n) P false (.one (.flat .bool)) 20 [.flt .f64 r1.1, .flt .f64 r2.1] r3.2).bind fun r4 =>
          ((callD (vF P tab n) P false (.one (.flat .bool)) 21 [.flt .f64 r1.1, .flt .f64 r2.1] r4.2).bind fun r5 =>
            (cond (!(r4.1 == r5.1))
              (some (.bool false, r5.2))
              ((callD (vF P tab n) P false (.one (.flat .bool)) 20 [.flt .f64 r1.1, .flt .f64 r1.1] r5.2).bind fun r6 =>
                (cond r6.1
                  (some (.bool false, r6.2))
                  ((callD (vF P tab n) P false (.one (.flat .bool)) 20 [.flt .f64 r1.1, .flt .f64 r2.1] r6.2).bind fun r7 =>
                    (cond r7.1
                      ((callD (vF P tab n) P false (.one (.flat .bool)) 20 [.flt .f64 r2.1, .flt .f64 r1.1] r7.2).bind fun r8 =>
                        (cond r8.1
                        (some (.bool false, r8.2))
                        ((callD (vF P tab n) P false (.one (.flat .bool)) 20 [.flt .f64 r1.1, .flt .f64 r2.1] r8.2).bind fun r9 =>
                        (cond r9.1
                        ((callD (vF P tab n) P false (.one (.flat .bool)) 20 [.flt .f64 r2.1, .flt .f64 r3.1] r9.2).bind fun r10 =>
                        (cond r10.1
                        ((callD (vF P tab n) P false (.one (.flat .bool)) 20 [.flt .f64 r1.1, .flt .f64 r3.1] r10.2).bind fun r11 =>
                        (cond (!r11.1)
                        (some (.bool false, r11.2))
                        ((callD (vF P tab n) P false (.one (.flat .bool)) 12 [] r11.2).bind fun r12 =>
                        (cond r12.1
                        ((callD (vF P tab n) P false (.one (.flat .bool)) 22 [.flt .f64 r1.1, .flt .f64 r2.1] r12.2).bind fun r13 =>
                        ((callD (vF P tab n) P false (.one (.flat .bool)) 20 [.flt .f64 r1.1, .flt .f64 r2.1] r13.2).bind fun r14 =>
                        (cond (!r14.1)
                        ((callD (vF P tab n) P false (.one (.flat .bool)) 20 [.flt .f64 r2.1, .flt .f64 r1.1] r14.2).bind fun r15 =>
                        (cond (r13.1 == (!r15.1))
                        ((pvD P .bool (binOp .eql 23 (.float .f64 r1.1) (.float .f64 r1.1))).bind fun x16 =>
                        (cond x16
                        (some (.bool true, r15.2))
                        ((callD (vF P tab n) P false (.one (.flat .bool)) 20 [.flt .f64 r1.1, .flt .f64 r2.1] r15.2).bind fun r17 =>
                        (some (.bool (!r17.1), r17.2)))))
                        (some (.bool false, r15.2))))
                        (cond (r13.1 == false)
                        ((pvD P .bool (binOp .eql 23 (.float .f64 r1.1) (.float .f64 r1.1))).bind fun x18 =>
                        (cond x18
                        (some (.bool true, r14.2))
                        ((callD (vF P tab n) P false (.one (.flat .bool)) 20 [.flt .f64 r1.1, .flt .f64 r2.1] r14.2).bind fun r19 =>
                        (some (.bool (!r19.1), r19.2)))))
                        (some (.bool false, r14.2))))))
                        (some (.bool false, r12.2))))))
                        ((callD (vF P tab n) P false (.one (.flat .bool)) 12 [] r10.2).bind fun r20 =>
                        (cond r20.1
                        ((callD (vF P tab n) P false (.one (.flat .bool)) 22 [.flt .f64 r1.1, .flt .f64 r2.1] r20.2).bind fun r21 =>
                        ((callD (vF P tab n) P false (.one (.flat .bool)) 20 [.flt .f64 r1.1, .flt .f64 r2.1] r21.2).bind fun r22 =>
                        (cond (!r22.1)
                        ((callD (vF P tab n) P false (.one (.flat .bool)) 20 [.flt .f64 r2.1, .flt .f64 r1.1] r22.2).bind fun r23 =>
                        (cond (r21.1 == (!r23.1))
                        ((pvD P .bool (binOp .eql 23 (.float .f64 r1.1) (.float .f64 r1.1))).bind fun x24 =>
                        (cond x24
                        (some (.bool true, r23.2))
                        ((callD (vF P tab n) P false (.one (.flat .bool)) 20 [.flt .f64 r1.1, .flt .f64 r2.1] r23.2).bind fun r25 =>
                        (some (.bool (!r25.1), r25.2)))))
                        (some (.bool false, r23.2))))
                        (cond (r21.1 == false)
                        ((pvD P .bool (binOp .eql 23 (.float .f64 r1.1) (.float .f64 r1.1))).bind fun x26 =>
                        (cond x26
                        (some (.bool true, r22.2))
                        ((callD (vF P tab n) P false (.one (.flat .bool)) 20 [.flt .f64 r1.1, .flt .f64 r2.1] r22.2).bind fun r27 =>
                        (some (.bool (!r27.1), r27.2)))))
                        (some (.bool false, r22.2))))))
                        (some (.bool false, r20.2))))))
                        ((callD (vF P tab n) P false (.one (.flat .bool)) 12 [] r9.2).bind fun r28 =>
                        (cond r28.1
                        ((callD (vF P tab n) P false (.one (.flat .bool)) 22 [.flt .f64 r1.1, .flt .f64 r2.1] r28.2).bind fun r29 =>
                        ((callD (vF P tab n) P false (.one (.flat .bool)) 20 [.flt .f64 r1.1, .flt .f64 r2.1] r29.2).bind fun r30 =>
                        (cond (!r30.1)
                        ((callD (vF P tab n) P false (.one (.flat .bool)) 20 [.flt .f64 r2.1, .flt .f64 r1.1] r30.2).bind fun r31 =>
                        (cond (r29.1 == (!r31.1))
                        ((pvD P .bool (binOp .eql 23 (.float .f64 r1.1) (.float .f64 r1.1))).bind fun x32 =>
                        (cond x32
                        (some (.bool true, r31.2))
                        ((callD (vF P tab n) P false (.one (.flat .bool)) 20 [.flt .f64 r1.1, .flt .f64 r2.1] r31.2).bind fun r33 =>
                        (some (.bool (!r33.1), r33.2)))))
                        (some (.bool false, r31.2))))
                        (cond (r29.1 == false)
                        ((pvD P .bool (binOp .eql 23 (.float .f64 r1.1) (.float .f64 r1.1))).bind fun x34 =>
                        (cond x34
                        (some (.bool true, r30.2))
                        ((callD (vF P tab n) P false (.one (.flat .bool)) 20 [.flt .f64 r1.1, .flt .f64 r2.1] r30.2).bind fun r35 =>
                        (some (.bool (!r35.1), r35.2)))))
                        (some (.bool false, r30.2))))))
                        (some (.bool false, r28.2))))))))
                      ((callD (vF P tab n) P false (.one (.flat .bool)) 20 [.flt .f64 r1.1, .flt .f64 r2.1] r7.2).bind fun r36 =>
                        (cond r36.1
                        ((callD (vF P tab n) P false (.one (.flat .bool)) 20 [.flt .f64 r2.1, .flt .f64 r3.1] r36.2).bind fun r37 =>
                        (cond r37.1
                        ((callD (vF P tab n) P false (.one (.flat .bool)) 20 [.flt .f64 r1.1, .flt .f64 r3.1] r37.2).bind fun r38 =>
                        (cond (!r38.1)
                        (some (.bool false, r38.2))
                        ((callD (vF P tab n) P false (.one (.flat .bool)) 12 [] r38.2).bind fun r39 =>
                        (cond r39.1
                        ((callD (vF P tab n) P false (.one (.flat .bool)) 22 [.flt .f64 r1.1, .flt .f64 r2.1] r39.2).bind fun r40 =>
                        ((callD (vF P tab n) P false (.one (.flat .bool)) 20 [.flt .f64 r1.1, .flt .f64 r2.1] r40.2).bind fun r41 =>
                        (cond (!r41.1)
                        ((callD (vF P tab n) P false (.one (.flat .bool)) 20 [.flt .f64 r2.1, .flt .f64 r1.1] r41.2).bind fun r42 =>
                        (cond (r40.1 == (!r42.1))
                        ((pvD P .bool (binOp .eql 23 (.float .f64 r1.1) (.float .f64 r1.1))).bind fun x43 =>
                        (cond x43
                        (some (.bool true, r42.2))
                        ((callD (vF P tab n) P false (.one (.flat .bool)) 20 [.flt .f64 r1.1, .flt .f64 r2.1] r42.2).bind fun r44 =>
                        (some (.bool (!r44.1), r44.2)))))
                        (some (.bool false, r42.2))))
                        (cond (r40.1 == false)
                        ((pvD P .bool (binOp .eql 23 (.float .f64 r1.1) (.float .f64 r1.1))).bind fun x45 =>
                        (cond x45
                        (some (.bool true, r41.2))
                        ((callD (vF P tab n) P false (.one (.flat .bool)) 20 [.flt .f64 r1.1, .flt .f64 r2.1] r41.2).bind fun r46 =>
                        (some (.bool (!r46.1), r46.2)))))
                        (some (.bool false, r41.2))))))
                        (some (.bool false, r39.2))))))
                        ((callD (vF P tab n) P false (.one (.flat .bool)) 12 [] r37.2).bind fun r47 =>
                        (cond r47.1
                        ((callD (vF P tab n) P false (.one (.flat .bool)) 22 [.flt .f64 r1.1, .flt .f64 r2.1] r47.2).bind fun r48 =>
                        ((callD (vF P tab n) P false (.one (.flat .bool)) 20 [.flt .f64 r1.1, .flt .f64 r2.1] r48.2).bind fun r49 =>
                        (cond (!r49.1)
                        ((callD (vF P tab n) P false (.one (.flat .bool)) 20 [.flt .f64 r2.1, .flt .f64 r1.1] r49.2).bind fun r50 =>
                        (cond (r48.1 == (!r50.1))
                        ((pvD P .bool (binOp .eql 23 (.float .f64 r1.1) (.float .f64 r1.1))).bind fun x51 =>
                        (cond x51
                        (some (.bool true, r50.2))
                        ((callD (vF P tab n) P false (.one (.flat .bool)) 20 [.flt .f64 r1.1, .flt .f64 r2.1] r50.2).bind fun r52 =>
                        (some (.bool (!r52.1), r52.2)))))
                        (some (.bool false, r50.2))))
                        (cond (r48.1 == false)
                        ((pvD P .bool (binOp .eql 23 (.float .f64 r1.1) (.float .f64 r1.1))).bind fun x53 =>
                        (cond x53
                        (some (.bool true, r49.2))
                        ((callD (vF P tab n) P false (.one (.flat .bool)) 20 [.flt .f64 r1.1, .flt .f64 r2.1] r49.2).bind fun r54 =>
                        (some (.bool (!r54.1), r54.2)))))
                        (some (.bool false, r49.2))))))
                        (some (.bool false, r47.2))))))
                        ((callD (vF P tab n) P false (.one (.flat .bool)) 12 [] r36.2).bind fun r55 =>
                        (cond r55.1
                        ((callD (vF P tab n) P false (.one (.flat .bool)) 22 [.flt .f64 r1.1, .flt .f64 r2.1] r55.2).bind fun r56 =>
                        ((callD (vF P tab n) P false (.one (.flat .bool)) 20 [.flt .f64 r1.1, .flt .f64 r2.1] r56.2).bind fun r57 =>
                        (cond (!r57.1)
                        ((callD (vF P tab n) P false (.one (.flat .bool)) 20 [.flt .f64 r2.1, .flt .f64 r1.1] r57.2).bind fun r58 =>
                        (cond (r56.1 == (!r58.1))
                        ((pvD P .bool (binOp .eql 23 (.float .f64 r1.1) (.float .f64 r1.1))).bind fun x59 =>
                        (cond x59
                        (some (.bool true, r58.2))
                        ((callD (vF P tab n) P false (.one (.flat .bool)) 20 [.flt .f64 r1.1, .flt .f64 r2.1] r58.2).bind fun r60 =>
                        (some (.bool (!r60.1), r60.2)))))
                        (some (.bool false, r58.2))))
                        (cond (r56.1 == false)
                        ((pvD P .bool (binOp .eql 23 (.float .f64 r1.1) (.float .f64 r1.1))).bind fun x61 =>
                        (cond x61
                        (some (.bool true, r57.2))
                        ((callD (vF P tab n) P false (.one (.flat .bool)) 20 [.flt .f64 r1.1, .flt .f64 r2.1] r57.2).bind fun r62 =>
                        (some (.bool (!r62.1), r62.2)))))
                        (some (.bool false, r57.2))))))
                        (some (.bool false, r55.2)))))))))))))))) := by kernel_rfl
/-! godown/godownlaw01.RealSigns -/
theorem f7_eq (n : Nat) (a0 : Int) (a1 : Int) (h : VH) : bodyV P tab (vF P tab n) n 7 [.int .u64 a0, .int .u64 a1] h =
  ((callD (vF P tab n) P false (.one (.flat (.flt .f64))) 10 [.int .u64 a0] h).bind fun r1 =>
    ((callD (vF P tab n) P false (.one (.flat (.flt .f64))) 10 [.int .u64 a1] r1.2).bind fun r2 =>
      ((pvD P .bool (binOp .neq 23 (.float .f64 r1.1) (.float .f64 r1.1))).bind fun x3 =>
        (cond x3
          ((callD (vF P tab n) P false (.one (.flat .bool)) 12 [] r2.2).bind fun r4 =>
            (cond r4.1
              ((pvD P .bool (binOp .eql 23 (.float .f64 r1.1) (.float .f64 r1.1))).bind fun x5 =>
                (cond x5
                  (some (.bool true, r4.2))
                  ((pvD P (.flt .f64) (Op.unary .neg (.float .f64 r1.1))).bind fun x6 =>
                    ((callD (vF P tab n) P false (.one (.flat .bool)) 22 [.flt .f64 r1.1, .flt .f64 x6] r4.2).bind fun r7 =>
                      (some (.bool r7.1, r7.2))))))
              (some (.bool false, r4.2))))
          ((pvD P .bool (binOp .neq 23 (.float .f64 r2.1) (.float .f64 r2.1))).bind fun x8 =>
            (cond x8
              ((callD (vF P tab n) P false (.one (.flat .bool)) 12 [] r2.2).bind fun r9 =>
                (cond r9.1
                  ((pvD P .bool (binOp .eql 23 (.float .f64 r1.1) (.float .f64 r1.1))).bind fun x10 =>
                    (cond x10
                      (some (.bool true, r9.2))
                      ((pvD P (.flt .f64) (Op.unary .neg (.float .f64 r1.1))).bind fun x11 =>
                        ((callD (vF P tab n) P false (.one (.flat .bool)) 22 [.flt .f64 r1.1, .flt .f64 x11] r9.2).bind fun r12 =>
                        (some (.bool r12.1, r12.2))))))
                  (some (.bool false, r9.2))))
              ((callD (vF P tab n) P false (.one (.flat .bool)) 12 [] r2.2).bind fun r13 =>
                (cond r13.1
                  ((callD (vF P tab n) P false (.one (.flat .bool)) 20 [.flt .f64 r1.1, .flt .f64 r2.1] r13.2).bind fun r14 =>
                    ((pvD P (.flt .f64) (Op.unary .neg (.float .f64 r2.1))).bind fun x15 =>
                      ((pvD P (.flt .f64) (Op.unary .neg (.float .f64 r1.1))).bind fun x16 =>
                        ((callD (vF P tab n) P false (.one (.flat .bool)) 20 [.flt .f64 x15, .flt .f64 x16] r14.2).bind fun r17 =>
                        (cond (r14.1 == r17.1)
                        ((pvD P (.flt .f64) (Op.unary .neg (.float .f64 r1.1))).bind fun x18 =>
                        ((callD (vF P tab n) P false (.one (.flat .bool)) 22 [.flt .f64 r1.1, .flt .f64 x18] r17.2).bind fun r19 =>
                        ((pvD P .bool (binOp .eql 23 (.float .f64 r1.1) (.float .f64 0))).bind fun x20 =>
                        (some (.bool (r19.1 == x20), r19.2)))))
                        (some (.bool false, r17.2)))))))
                  (some (.bool false, r13.2)))))))))) := by kernel_rfl
/-! godown/godownlaw01.RealOf -/
theorem f8_eq (n : Nat) (a0 : Int) (h : VH) : bodyV P tab (vF P tab n) n 8 [.int .u64 a0] h =
  ((callD (vF P tab n) P false (.tup [(.flat (.flt .f64)), (.flat (.int .i64))]) 23 [.int .u64 a0] h).bind fun r1 =>
    ((callD (vF P tab n) P false (.tup [(.flat (.flt .f64)), (.flat (.int .i64))]) 24 [.int .u64 a0] r1.2).bind fun r2 =>
      (cond ((r1.1.2.1 : Int) != r2.1.2.1)
        (some (.bool false, r2.2))
        ((pvD P (.int .u64) (ext13 #[.float .f64 r1.1.1])).bind fun x3 =>
          ((pvD P (.int .u64) (ext13 #[.float .f64 r2.1.1])).bind fun x4 =>
            (cond ((x3 : Int) != x4)
              (some (.bool false, r2.2))
              ((callD (vF P tab n) P false (.one (.flat (.flt .f64))) 10 [.int .u64 a0] r2.2).bind fun r5 =>
                ((callD (vF P tab n) P false (.one (.flat (.int .u64))) 15 [.flt .f64 r5.1] r5.2).bind fun r6 =>
                  ((callD (vF P tab n) P false (.tup [(.flat (.flt .f64)), (.flat (.int .i64))]) 23 [.int .u64 r6.1] r6.2).bind fun r7 =>
                    ((callD (vF P tab n) P false (.one (.flat .bool)) 12 [] r7.2).bind fun r8 =>
                      (cond r8.1
                        (cond ((r7.1.2.1 : Int) == 0)
                        ((callD (vF P tab n) P false (.one (.flat (.flt .f64))) 10 [.int .u64 a0] r8.2).bind fun r9 =>
                        ((callD (vF P tab n) P false (.one (.flat .bool)) 22 [.flt .f64 r7.1.1, .flt .f64 r9.1] r9.2).bind fun r10 =>
                        (cond r10.1
                        (cond ((r1.1.2.1 : Int) != 0)
                        (some (.bool true, r10.2))
                        ((callD (vF P tab n) P false (.one (.flat (.int .u64))) 15 [.flt .f64 r1.1.1] r10.2).bind fun r11 =>
                        (some (.bool ((r11.1 : Int) == a0), r11.2))))
                        (some (.bool false, r10.2)))))
                        (some (.bool false, r8.2)))
                        (some (.bool false, r8.2))))))))))))) := by kernel_rfl
/-! godown/godownlaw01.RealMost -/
noncomputable def L9_0 (n m : Nat) (s0 : VS) (s3 : VS) (s4 : Int) (h : VH) : VRes := loopAt P tab 9 [1, 1, 1, 0, 1, 0] n [] m [.sl 22 s0, .undef, .undef, .sl 23 s3, .int .i64 s4, .undef, .undef, .undef, .undef, .undef, .undef, .undef, .undef, .undef, .undef, .undef, .undef, .undef, .undef, .undef, .undef, .undef, .undef, .undef, .undef, .undef, .undef, .undef, .undef, .undef, .undef, .undef, .undef, .undef, .undef, .undef, .undef, .undef, .undef, .undef, .undef, .undef, .undef, .undef, .undef, .undef, .undef, .undef, .undef, .undef, .undef, .undef, .undef, .undef, .undef, .undef, .undef, .undef, .undef, .undef, .undef, .undef, .undef, .undef] h
noncomputable def L9_1 (n m : Nat) (s3 : VS) (s5 : Nat) (s6 : Bool) (s7 : Int) (h : VH) : VRes := loopAt P tab 9 [1, 1, 1, 1, 1, 1, 0, 1, 0] n [] m [.undef, .undef, .undef, .sl 23 s3, .undef, .flt .f64 s5, .bool s6, .int .i64 s7, .undef, .undef, .undef, .undef, .undef, .undef, .undef, .undef, .undef, .undef, .undef, .undef, .undef, .undef, .undef, .undef, .undef, .undef, .undef, .undef, .undef, .undef, .undef, .undef, .undef, .undef, .undef, .undef, .undef, .undef, .undef, .undef, .undef, .undef, .undef, .undef, .undef, .undef, .undef, .undef, .undef, .undef, .undef, .undef, .undef, .undef, .undef, .undef, .undef, .undef, .undef, .undef, .undef, .undef, .undef, .undef] h
theorem L9_0_eq (n m : Nat) (s0 : VS) (s3 : VS) (s4 : Int) (h : VH) : L9_0 n (m + 1) s0 s3 s4 h =
  (cond (decide ((s4 : Int) < ((VS.len s0 : Nat) : Int)))
    ((ixV 1 s0 s4).bind fun p1 =>
      ((ldV (.flat (.int .u64)) h p1).bind fun x2 =>
        ((callD (vF P tab n) P false (.one (.flat (.flt .f64))) 10 [.int .u64 x2] h).bind fun r3 =>
          ((appD true r3.2 1 8 23 s3 (.fz [[.flt .f64 r3.1]] (.ex 1))).bind fun r4 =>
            (L9_0 n m s0 r4.1 (IntKind.wrap .i64 (s4 + 1)) r4.2)))))
    ((callD (vF P tab n) P false (.one (.flat (.flt .f64))) 25 [.sl 23 s3] h).bind fun r5 =>
      (L9_1 n n s3 r5.1 ((((VS.len s3 : Nat) : Int) : Int) == 0) 0 r5.2))) := by kernel_rfl
theorem L9_1_eq (n m : Nat) (s3 : VS) (s5 : Nat) (s6 : Bool) (s7 : Int) (h : VH) : L9_1 n (m + 1) s3 s5 s6 s7 h =
  (cond (decide ((s7 : Int) < ((VS.len s3 : Nat) : Int)))
    (cond s6
      ((ixV 1 s3 s7).bind fun p1 =>
        ((ldV (.flat (.flt .f64)) h p1).bind fun x2 =>
          ((callD (vF P tab n) P false (.one (.flat .bool)) 20 [.flt .f64 s5, .flt .f64 x2] h).bind fun r3 =>
            (cond r3.1
              (some (.bool false, r3.2))
              (L9_1 n m s3 s5 true (IntKind.wrap .i64 (s7 + 1)) r3.2)))))
      ((ixV 1 s3 s7).bind fun p4 =>
        ((ldV (.flat (.flt .f64)) h p4).bind fun x5 =>
          ((callD (vF P tab n) P false (.one (.flat .bool)) 22 [.flt .f64 s5, .flt .f64 x5] h).bind fun r6 =>
            ((ixV 1 s3 s7).bind fun p7 =>
              ((ldV (.flat (.flt .f64)) r6.2 p7).bind fun x8 =>
                ((callD (vF P tab n) P false (.one (.flat .bool)) 20 [.flt .f64 s5, .flt .f64 x8] r6.2).bind fun r9 =>
                  (cond r9.1
                    (some (.bool false, r9.2))
                    (L9_1 n m s3 s5 r6.1 (IntKind.wrap .i64 (s7 + 1)) r9.2)))))))))
    (cond s6
      ((pvD P (.int .u64) (ext13 #[.float .f64 s5])).bind fun x10 =>
        ((callD (vF P tab n) P false (.one (.flat (.int .u64))) 26 [.sl 23 s3] h).bind fun r11 =>
          (some (.bool ((x10 : Int) == r11.1), r11.2))))
      (some (.bool false, h)))) := by kernel_rfl
theorem f9_eq (n : Nat) (a0 : VS) (h : VH) : bodyV P tab (vF P tab n) n 9 [.sl 22 a0] h =
  ((callD (vF P tab n) P false (.one (.flat .bool)) 12 [] h).bind fun r1 =>
    (cond (!r1.1)
      ((callD (vF P tab n) P false (.one (.flat .bool)) 12 [] r1.2).bind fun r2 =>
        (some (.bool r2.1, r2.2)))
      (cond (decide ((((VS.len a0 : Nat) : Int) : Int) > 60))
        ((callD (vF P tab n) P false (.one (.flat .bool)) 12 [] r1.2).bind fun r3 =>
          (some (.bool r3.1, r3.2)))
        (L9_0 n n a0 .nil 0 r1.2)))) := by kernel_rfl
/-! godown/godownlaw01.of -/
theorem f10_eq (n : Nat) (a0 : Int) (h : VH) : bodyV P tab (vF P tab n) n 10 [.int .u64 a0] h =
  ((pvD P (.flt .f64) (ext27 #[.int .u64 a0])).bind fun x1 =>
    (some (.flt .f64 x1, h))) := by kernel_rfl
/-! godown/real.Canon -/
theorem f11_eq (n : Nat) (a0 : Nat) (h : VH) : bodyV P tab (vF P tab n) n 11 [.flt .f64 a0] h =
  ((pvD P .bool (binOp .neq 23 (.float .f64 a0) (.float .f64 a0))).bind fun x1 =>
    (cond x1
      ((pvD P (.flt .f64) (ext27 #[.int .u64 9221120237041090561])).bind fun x2 =>
        (some (.flt .f64 x2, h)))
      ((pvD P .bool (binOp .eql 23 (.float .f64 a0) (.float .f64 0))).bind fun x3 =>
        (cond x3
          (some (.flt .f64 0, h))
          (some (.flt .f64 a0, h)))))) := by kernel_rfl
/-! godown/godownref01.Bits -/
theorem f14_eq (n : Nat) (a0 : Nat) (h : VH) : bodyV P tab (vF P tab n) n 14 [.flt .f64 a0] h =
  ((pvD P (.int .u64) (ext13 #[.float .f64 a0])).bind fun x1 =>
    ((remI x1 9223372036854775808).bind fun x2 =>
      (cond (decide ((x2 : Int) > 9218868437227405312))
        (some (.int .u64 9221120237041090561, h))
        (cond ((x1 : Int) == 9223372036854775808)
          (some (.int .u64 0, h))
          (some (.int .u64 x1, h)))))) := by kernel_rfl
/-! godown/real.Bits -/
theorem f15_eq (n : Nat) (a0 : Nat) (h : VH) : bodyV P tab (vF P tab n) n 15 [.flt .f64 a0] h =
  ((callD (vF P tab n) P false (.one (.flat (.flt .f64))) 11 [.flt .f64 a0] h).bind fun r1 =>
    ((pvD P (.int .u64) (ext13 #[.float .f64 r1.1])).bind fun x2 =>
      (some (.int .u64 x2, r1.2)))) := by kernel_rfl
/-! godown/real.Less -/
theorem f20_eq (n : Nat) (a0 : Nat) (a1 : Nat) (h : VH) : bodyV P tab (vF P tab n) n 20 [.flt .f64 a0, .flt .f64 a1] h =
  ((pvD P .bool (binOp .neq 23 (.float .f64 a0) (.float .f64 a0))).bind fun x1 =>
    (cond x1
      ((pvD P .bool (binOp .eql 23 (.float .f64 a0) (.float .f64 a0))).bind fun x2 =>
        (some (.bool x2, h)))
      ((pvD P .bool (binOp .neq 23 (.float .f64 a1) (.float .f64 a1))).bind fun x3 =>
        (cond x3
          ((pvD P .bool (binOp .eql 23 (.float .f64 a0) (.float .f64 a0))).bind fun x4 =>
            (some (.bool x4, h)))
          ((pvD P .bool (binOp .lss 23 (.float .f64 a0) (.float .f64 a1))).bind fun x5 =>
            (some (.bool x5, h))))))) := by kernel_rfl
/-! godown/godownref01.Less -/
theorem f21_eq (n : Nat) (a0 : Nat) (a1 : Nat) (h : VH) : bodyV P tab (vF P tab n) n 21 [.flt .f64 a0, .flt .f64 a1] h =
  ((callD (vF P tab n) P false (.one (.flat (.int .u64))) 35 [.flt .f64 a0] h).bind fun r1 =>
    ((callD (vF P tab n) P false (.one (.flat (.int .u64))) 35 [.flt .f64 a1] r1.2).bind fun r2 =>
      (some (.bool (decide ((r1.1 : Int) < r2.1)), r2.2)))) := by kernel_rfl
/-! godown/real.Same -/
theorem f22_eq (n : Nat) (a0 : Nat) (a1 : Nat) (h : VH) : bodyV P tab (vF P tab n) n 22 [.flt .f64 a0, .flt .f64 a1] h =
  ((callD (vF P tab n) P false (.one (.flat (.int .u64))) 15 [.flt .f64 a0] h).bind fun r1 =>
    ((callD (vF P tab n) P false (.one (.flat (.int .u64))) 15 [.flt .f64 a1] r1.2).bind fun r2 =>
      (some (.bool ((r1.1 : Int) == r2.1), r2.2)))) := by kernel_rfl
/-! godown/real.Of -/
theorem f23_eq (n : Nat) (a0 : Int) (h : VH) : bodyV P tab (vF P tab n) n 23 [.int .u64 a0] h =
  ((pvD P (.flt .f64) (ext27 #[.int .u64 a0])).bind fun x1 =>
    ((callD (vF P tab n) P false (.one (.flat (.int .u64))) 15 [.flt .f64 x1] h).bind fun r2 =>
      (cond ((r2.1 : Int) != a0)
        (some (.tup [.flt .f64 0, .int .i64 2], r2.2))
        (some (.tup [.flt .f64 x1, .int .i64 0], r2.2))))) := by kernel_rfl
/-! godown/godownref01.Of -/
theorem f24_eq (n : Nat) (a0 : Int) (h : VH) : bodyV P tab (vF P tab n) n 24 [.int .u64 a0] h =
  ((remI a0 9223372036854775808).bind fun x1 =>
    (cond (decide ((x1 : Int) > 9218868437227405312))
      (cond ((a0 : Int) != 9221120237041090561)
        (some (.tup [.flt .f64 0, .int .i64 2], h))
        (cond ((a0 : Int) == 9223372036854775808)
          (some (.tup [.flt .f64 0, .int .i64 2], h))
          ((pvD P (.flt .f64) (ext27 #[.int .u64 a0])).bind fun x2 =>
            (some (.tup [.flt .f64 x2, .int .i64 0], h)))))
      (cond ((a0 : Int) == 9223372036854775808)
        (some (.tup [.flt .f64 0, .int .i64 2], h))
        ((pvD P (.flt .f64) (ext27 #[.int .u64 a0])).bind fun x3 =>
          (some (.tup [.flt .f64 x3, .int .i64 0], h)))))) := by kernel_rfl
/-! godown/real.Most -/
noncomputable def L25_0 (n m : Nat) (s3 : Nat) (s7 : VS) (s8 : Int) (s9 : Int) (h : VH) : VRes := loopAt P tab 25 [1, 1, 0, 1, 0] n [] m [.undef, .undef, .undef, .flt .f64 s3, .undef, .undef, .undef, .sl 23 s7, .int .i64 s8, .int .i64 s9, .undef, .undef, .undef, .undef, .undef, .undef, .undef, .undef, .undef, .undef] h
theorem L25_0_eq (n m : Nat) (s3 : Nat) (s7 : VS) (s8 : Int) (s9 : Int) (h : VH) : L25_0 n (m + 1) s3 s7 s8 s9 h =
  (cond (decide ((s9 : Int) < s8))
    ((ixV 1 s7 s9).bind fun p1 =>
      ((ldV (.flat (.flt .f64)) h p1).bind fun x2 =>
        ((callD (vF P tab n) P false (.one (.flat .bool)) 20 [.flt .f64 s3, .flt .f64 x2] h).bind fun r3 =>
          (cond r3.1
            (L25_0 n m x2 s7 s8 (IntKind.wrap .i64 (s9 + 1)) r3.2)
            (L25_0 n m s3 s7 s8 (IntKind.wrap .i64 (s9 + 1)) r3.2)))))
    ((callD (vF P tab n) P false (.one (.flat (.flt .f64))) 11 [.flt .f64 s3] h).bind fun r4 =>
      (some (.flt .f64 r4.1, r4.2)))) := by kernel_rfl
theorem f25_eq (n : Nat) (a0 : VS) (h : VH) : bodyV P tab (vF P tab n) n 25 [.sl 23 a0] h =
  ((callD (vF P tab n) P false (.one (.flat (.flt .f64))) 36 [.int .i64 (-1)] h).bind fun r1 =>
    (L25_0 n n r1.1 a0 ((VS.len a0 : Nat) : Int) 0 r1.2)) := by kernel_rfl
/-! godown/godownref01.Most -/
noncomputable def L26_0 (n m : Nat) (s0 : VS) (s3 : Nat) (s4 : Int) (h : VH) : VRes := loopAt P tab 26 [1, 1, 0, 1, 0] n [] m [.sl 23 s0, .undef, .undef, .flt .f64 s3, .int .i64 s4, .undef, .undef, .undef, .undef, .undef, .undef, .undef, .undef, .undef, .undef, .undef, .undef, .undef, .undef, .undef, .undef, .undef, .undef, .undef, .undef, .undef] h
theorem L26_0_eq (n m : Nat) (s0 : VS) (s3 : Nat) (s4 : Int) (h : VH) : L26_0 n (m + 1) s0 s3 s4 h =
  (cond (decide ((s4 : Int) < ((VS.len s0 : Nat) : Int)))
    ((ixV 1 s0 s4).bind fun p1 =>
      ((ldV (.flat (.flt .f64)) h p1).bind fun x2 =>
        ((callD (vF P tab n) P false (.one (.flat (.int .u64))) 35 [.flt .f64 x2] h).bind fun r3 =>
          ((callD (vF P tab n) P false (.one (.flat (.int .u64))) 35 [.flt .f64 s3] r3.2).bind fun r4 =>
            (cond (decide ((r3.1 : Int) > r4.1))
              ((ixV 1 s0 s4).bind fun p5 =>
                ((ldV (.flat (.flt .f64)) r4.2 p5).bind fun x6 =>
                  (L26_0 n m s0 x6 (IntKind.wrap .i64 (s4 + 1)) r4.2)))
              (L26_0 n m s0 s3 (IntKind.wrap .i64 (s4 + 1)) r4.2))))))
    ((callD (vF P tab n) P false (.one (.flat (.int .u64))) 14 [.flt .f64 s3] h).bind fun r7 =>
      (some (.int .u64 r7.1, r7.2)))) := by kernel_rfl
theorem f26_eq (n : Nat) (a0 : VS) (h : VH) : bodyV P tab (vF P tab n) n 26 [.sl 23 a0] h =
  ((pvD P (.flt .f64) (ext27 #[.int .u64 18442240474082181120])).bind fun x1 =>
    (L26_0 n n a0 x1 0 h)) := by kernel_rfl
/-! godown/godownref01.key -/
theorem f35_eq (n : Nat) (a0 : Nat) (h : VH) : bodyV P tab (vF P tab n) n 35 [.flt .f64 a0] h =
  ((callD (vF P tab n) P false (.one (.flat (.int .u64))) 14 [.flt .f64 a0] h).bind fun r1 =>
    (cond ((r1.1 : Int) == 9221120237041090561)
      (some (.int .u64 18446744073709551615, r1.2))
      (cond (decide ((r1.1 : Int) ≥ 9223372036854775808))
        (some (.int .u64 (IntKind.wrap .u64 (18446744073709551615 - r1.1)), r1.2))
        (some (.int .u64 (IntKind.wrap .u64 (r1.1 + 9223372036854775808)), r1.2))))) := by kernel_rfl
/-! math.Inf -/
theorem f36_eq (n : Nat) (a0 : Int) (h : VH) : bodyV P tab (vF P tab n) n 36 [.int .i64 a0] h =
  (cond (decide ((a0 : Int) ≥ 0))
    ((pvD P (.flt .f64) (ext27 #[.int .u64 9218868437227405312])).bind fun x1 =>
      (some (.flt .f64 x1, h)))
    ((pvD P (.flt .f64) (ext27 #[.int .u64 18442240474082181120])).bind fun x2 =>
      (some (.flt .f64 x2, h)))) := by kernel_rfl
/-! math.Copysign -/
theorem f41_eq (n : Nat) (a0 : Nat) (a1 : Nat) (h : VH) : bodyV P tab (vF P tab n) n 41 [.flt .f64 a0, .flt .f64 a1] h =
  ((pvD P (.int .u64) (ext13 #[.float .f64 a0])).bind fun x1 =>
    ((pvD P (.int .u64) (ext13 #[.float .f64 a1])).bind fun x2 =>
      ((pvD P (.flt .f64) (ext27 #[.int .u64 (bitI .or .u64 (bitI .andNot .u64 x1 9223372036854775808) (bitI .and .u64 x2 9223372036854775808))])).bind fun x3 =>
        (some (.flt .f64 x3, h))))) := by kernel_rfl
end Go.Proofs.YtibnelhbebognaaDoor
