import Derived.Test.YtaifjlpgggimaaaVb
import Derived.Test.YtaifjlpgggimaaaProg
set_option maxRecDepth 100000
set_option maxHeartbeats 0
set_option linter.unusedVariables false
set_option linter.unusedSimpArgs false
namespace Go.Proofs.Ytaifjlpgggimaaa
open Go.Proofs.Ytaifjlpgggimaaa.Sh Go.Proofs.Ytaifjlpgggimaaa.Sh.V
def notes : List (Nat × Notes) := [(3, ⟨[], [(6, [1, 2, 6, 7, 8, 9, 10, 11, 12, 13, 14, 15, 16, 17, 18, 19, 20, 21, 22, 23, 24, 25, 26, 27, 28, 29, 30, 31, 32, 33, 34, 35, 36, 37, 38, 39, 40, 41, 42, 43, 44, 45, 46, 47, 48, 49, 50, 51, 52, 53, 54, 55, 56])], []⟩),
  (4, ⟨[], [(8, [0, 1, 3, 4, 5, 6, 12, 13, 14, 15, 16, 17, 18, 19, 20, 21, 22, 23, 24, 25, 26, 27, 28, 29, 30, 31, 32, 33, 34, 35, 36, 37, 38, 39, 40, 41, 42, 43, 44, 45, 46, 47, 48, 49, 50, 51, 52, 53, 54, 55, 56, 57, 58, 59, 60, 61, 62, 63, 64, 65, 66, 67, 68, 69, 70, 71, 72, 73, 74, 75, 76, 77, 78, 79, 80, 81, 82, 83, 84, 85, 86, 87, 88, 89, 90, 91, 92, 93, 94, 95, 96, 97])], []⟩),
  (6, ⟨[], [(6, [0, 2, 3, 4, 8, 9, 10, 11, 12, 13, 14, 15, 16, 17, 18, 19, 20, 21, 22, 23, 24, 25, 26, 27, 28, 29, 30, 31, 32, 33, 34, 35, 36, 37, 38, 39, 40, 41, 42, 43, 44, 45, 46, 47, 48, 49, 50, 51, 52, 53, 54, 55, 56, 57, 58, 59, 60, 61, 62, 63, 64, 65, 66, 67, 68, 69])], []⟩),
  (10, ⟨[], [(2, [2, 3, 4, 6, 7, 8, 9, 10, 11, 12, 13, 14, 15, 16, 17, 18, 19, 20, 21, 22, 23, 24, 25])], []⟩),
  (14, ⟨[(6, .tail 8)], [(4, [2, 3, 4, 6, 7, 8, 9, 10, 11, 12, 13, 14, 15, 16, 17, 18, 19, 20, 21, 22, 23, 24, 25, 26])], []⟩),
  (15, ⟨[], [(6, [1, 2, 3, 4, 6, 7, 8, 9, 10, 11, 12, 13, 14, 15, 16, 17, 18, 19, 20, 21, 22, 23, 24, 25, 26, 27, 28, 29, 30, 31, 32, 33, 34, 35])], []⟩),
  (18, ⟨[], [(3, [2, 3, 4, 7, 8, 9, 10, 11, 12, 13, 14, 15, 16, 17, 18, 19, 20, 21, 22, 23, 24, 25, 26, 27, 28])], []⟩),
  (19, ⟨[], [(2, [1, 2, 3, 4, 6, 7, 8, 9, 10, 11, 12, 13, 14, 15, 16, 17, 18, 19, 20, 21, 22, 23, 24, 25, 26, 27, 28, 29, 30, 31, 32, 33, 34, 35, 36, 37, 38, 39, 40, 41, 42, 43, 44, 45, 46, 47, 48])], []⟩),
  (21, ⟨[], [(4, [2, 3, 4, 6, 7, 8, 9, 10, 11, 12, 13, 14, 15, 16, 17, 18, 19, 20, 21, 22, 23, 24, 25])], []⟩),
  (30, ⟨[], [(3, [0, 1, 2, 3, 4, 6, 7, 8, 9, 13, 14, 15, 16, 17, 18, 19, 20, 21, 22])], []⟩)]
noncomputable abbrev P : Program := Try.prog
def reach : List Nat := [3, 4, 5, 6, 8, 9, 10, 11, 12, 13, 14, 15, 16, 17, 18, 19, 20, 21, 22, 23, 24, 25, 26, 27, 28, 29, 30, 31, 32, 33]
def noteOf (f : FuncId) : Notes := (find notes f).getD ⟨[], [], []⟩
noncomputable def tab : VTab := mkV P noteOf reach [] (fun f => !among [9] f) (among [9, 10, 11, 12, 14, 18, 19, 20, 21]) (fun f g => among2 [] f g) (fun f => !among [6] f)
/-! godown/godownlaw13.FrameThere -/
noncomputable def L3_0 (n m : Nat) (s0 : VS) (s3 : VS) (s4 : VS) (s5 : Int) (h : VH) : VRes := loopAt P tab 3 [1, 1, 1, 1, 0, 1, 0] n [] m [.sl 25 s0, .undef, .undef, .sl 5 s3, .sl 25 s4, .int .i64 s5, .undef, .undef, .undef, .undef, .undef, .undef, .undef, .undef, .undef, .undef, .undef, .undef, .undef, .undef, .undef, .undef, .undef, .undef, .undef, .undef, .undef, .undef, .undef, .undef, .undef, .undef, .undef, .undef, .undef, .undef, .undef, .undef, .undef, .undef, .undef, .undef, .undef, .undef, .undef, .undef, .undef, .undef, .undef, .undef, .undef, .undef, .undef, .undef, .undef, .undef, .undef] h
theorem L3_0_eq (n m : Nat) (s0 : VS) (s3 : VS) (s4 : VS) (s5 : Int) (h : VH) : L3_0 n (m + 1) s0 s3 s4 s5 h =
  (cond (decide ((s5 : Int) < ((VS.len s0 : Nat) : Int)))
    ((ixV 1 s0 s5).bind fun p1 =>
      ((ldV (.flat (.slice 5)) h p1).bind fun x2 =>
        (cond ((((VS.len x2 : Nat) : Int) : Int) == 0)
          (L3_0 n m s0 s3 s4 (IntKind.wrap .i64 (s5 + 1)) h)
          ((ixV 1 s0 s5).bind fun p3 =>
            ((ldV (.flat (.slice 5)) h p3).bind fun x4 =>
              ((callD (vF P tab n) P false (.one (.flat (.slice 5))) 12 [.sl 5 x4] h).bind fun r5 =>
                ((callD (vF P tab n) P false (.one (.flat (.slice 5))) 11 [.sl 5 s3, .sl 5 r5.1] r5.2).bind fun r6 =>
                  ((ixV 1 s0 s5).bind fun p7 =>
                    ((ldV (.flat (.slice 5)) r6.2 p7).bind fun x8 =>
                      (if List.all [.sl 5 x8] closed1 = true then
                        ((appD true r6.2 1 24 25 s4 (.fz [[.sl 5 (VS.strip x8)]] (.ex 1))).bind fun r9 =>
                        (L3_0 n m s0 r6.1 r9.1 (IntKind.wrap .i64 (s5 + 1)) r9.2))
                        else none))))))))))
    ((callD (vF P tab n) P false (.one (.flat .ptr)) 13 [] h).bind fun r10 =>
      ((callD (vF P tab n) P false (.one (.flat (.slice 25))) 15 [.ptr r10.1, .sl 5 s3] r10.2).bind fun r11 =>
        ((callD (vF P tab n) P false (.one (.flat .bool)) 14 [.sl 25 r11.1, .sl 25 s4] r11.2).bind fun r12 =>
          (cond r12.1
            ((callD (vF P tab n) P false (.one (.flat (.int .i64))) 16 [.ptr r10.1] r12.2).bind fun r13 =>
              (cond ((r13.1 : Int) == 0)
                ((callD (vF P tab n) P false (.one (.flat .bool)) 17 [.ptr r10.1] r13.2).bind fun r14 =>
                  (some (.bool (!r14.1), r14.2)))
                (some (.bool false, r13.2))))
            (some (.bool false, r12.2))))))) := by kernel_rfl
theorem f3_eq (n : Nat) (a0 : VS) (h : VH) : bodyV P tab (vF P tab n) n 3 [.sl 25 a0] h =
  ((callD (vF P tab n) P false (.one (.flat .bool)) 9 [] h).bind fun r1 =>
    (cond (!r1.1)
      ((callD (vF P tab n) P false (.one (.flat .bool)) 9 [] r1.2).bind fun r2 =>
        (some (.bool r2.1, r2.2)))
      ((callD (vF P tab n) P false (.one (.flat .bool)) 10 [.sl 25 a0, .sl 5 .nil] r1.2).bind fun r3 =>
        (cond (!r3.1)
          ((callD (vF P tab n) P false (.one (.flat .bool)) 9 [] r3.2).bind fun r4 =>
            (some (.bool r4.1, r4.2)))
          (L3_0 n n a0 .nil .nil 0 r3.2))))) := by kernel_rfl
/-! godown/godownlaw13.FramePieces -/
noncomputable def L4_0 (n m : Nat) (s2 : VS) (s7 : VS) (s8 : VP) (s9 : VS) (s10 : Int) (s11 : Int) (h : VH) : VRes := loopAt P tab 4 [1, 1, 1, 1, 1, 1, 0, 1, 0] n [] m [.undef, .undef, .sl 5 s2, .undef, .undef, .undef, .undef, .sl 5 s7, .ptr s8, .sl 25 s9, .int .i64 s10, .int .i64 s11, .undef, .undef, .undef, .undef, .undef, .undef, .undef, .undef, .undef, .undef, .undef, .undef, .undef, .undef, .undef, .undef, .undef, .undef, .undef, .undef, .undef, .undef, .undef, .undef, .undef, .undef, .undef, .undef, .undef, .undef, .undef, .undef, .undef, .undef, .undef, .undef, .undef, .undef, .undef, .undef, .undef, .undef, .undef, .undef, .undef, .undef, .undef, .undef, .undef, .undef, .undef, .undef, .undef, .undef, .undef, .undef, .undef, .undef, .undef, .undef, .undef, .undef, .undef, .undef, .undef, .undef, .undef, .undef, .undef, .undef, .undef, .undef, .undef, .undef, .undef, .undef, .undef, .undef, .undef, .undef, .undef, .undef, .undef, .undef, .undef, .undef] h
theorem L4_0_eq (n m : Nat) (s2 : VS) (s7 : VS) (s8 : VP) (s9 : VS) (s10 : Int) (s11 : Int) (h : VH) : L4_0 n (m + 1) s2 s7 s8 s9 s10 s11 h =
  (cond (decide ((s11 : Int) ≤ ((VS.len s2 : Nat) : Int)))
    (cond (decide ((s11 : Int) < ((VS.len s2 : Nat) : Int)))
      ((ixV 1 s2 s11).bind fun p1 =>
        ((ldV (.flat (.int .u8)) h p1).bind fun x2 =>
          (cond (decide (((IntKind.wrap .i64 (s10 + (IntKind.wrap .i64 x2))) : Int) < ((VS.len s7 : Nat) : Int)))
            ((ixV 1 s2 s11).bind fun p3 =>
              ((ldV (.flat (.int .u8)) h p3).bind fun x4 =>
                ((cutD h 5 1 s7 (some s10) (some (IntKind.wrap .i64 (s10 + (IntKind.wrap .i64 x4)))) none).bind fun z5 =>
                  ((callD (vF P tab n) P false (.one (.flat (.slice 25))) 15 [.ptr s8, .sl 5 z5] h).bind fun r6 =>
                    ((appD true r6.2 1 24 25 s9 r6.1).bind fun r7 =>
                      ((cutD r7.2 5 1 s7 none (some (IntKind.wrap .i64 (s10 + (IntKind.wrap .i64 x4)))) none).bind fun z8 =>
                        ((callD (vF P tab n) P false (.tup [(.flat (.slice 25)), (.flat (.int .i64)), (.flat .bool)]) 19 [.sl 5 z8] r7.2).bind fun r9 =>
                        ((callD (vF P tab n) P false (.one (.flat .bool)) 14 [.sl 25 r7.1, .sl 25 r9.1.1] r9.2).bind fun r10 =>
                        (cond (!r10.1)
                        (some (.bool false, r10.2))
                        ((callD (vF P tab n) P false (.one (.flat (.int .i64))) 16 [.ptr s8] r10.2).bind fun r11 =>
                        (cond ((r11.1 : Int) != r9.1.2.1)
                        (some (.bool false, r11.2))
                        ((callD (vF P tab n) P false (.one (.flat .bool)) 17 [.ptr s8] r11.2).bind fun r12 =>
                        (cond (!(r12.1 == r9.1.2.2.1))
                        (some (.bool false, r12.2))
                        (L4_0 n m s2 s7 s8 r7.1 (IntKind.wrap .i64 (s10 + (IntKind.wrap .i64 x4))) (IntKind.wrap .i64 (s11 + 1)) r12.2))))))))))))))
            ((cutD h 5 1 s7 (some s10) (some ((VS.len s7 : Nat) : Int)) none).bind fun z13 =>
              ((callD (vF P tab n) P false (.one (.flat (.slice 25))) 15 [.ptr s8, .sl 5 z13] h).bind fun r14 =>
                ((appD true r14.2 1 24 25 s9 r14.1).bind fun r15 =>
                  ((cutD r15.2 5 1 s7 none (some ((VS.len s7 : Nat) : Int)) none).bind fun z16 =>
                    ((callD (vF P tab n) P false (.tup [(.flat (.slice 25)), (.flat (.int .i64)), (.flat .bool)]) 19 [.sl 5 z16] r15.2).bind fun r17 =>
                      ((callD (vF P tab n) P false (.one (.flat .bool)) 14 [.sl 25 r15.1, .sl 25 r17.1.1] r17.2).bind fun r18 =>
                        (cond (!r18.1)
                        (some (.bool false, r18.2))
                        ((callD (vF P tab n) P false (.one (.flat (.int .i64))) 16 [.ptr s8] r18.2).bind fun r19 =>
                        (cond ((r19.1 : Int) != r17.1.2.1)
                        (some (.bool false, r19.2))
                        ((callD (vF P tab n) P false (.one (.flat .bool)) 17 [.ptr s8] r19.2).bind fun r20 =>
                        (cond (!(r20.1 == r17.1.2.2.1))
                        (some (.bool false, r20.2))
                        (L4_0 n m s2 s7 s8 r15.1 ((VS.len s7 : Nat) : Int) (IntKind.wrap .i64 (s11 + 1)) r20.2)))))))))))))))
      ((cutD h 5 1 s7 (some s10) (some ((VS.len s7 : Nat) : Int)) none).bind fun z21 =>
        ((callD (vF P tab n) P false (.one (.flat (.slice 25))) 15 [.ptr s8, .sl 5 z21] h).bind fun r22 =>
          ((appD true r22.2 1 24 25 s9 r22.1).bind fun r23 =>
            ((cutD r23.2 5 1 s7 none (some ((VS.len s7 : Nat) : Int)) none).bind fun z24 =>
              ((callD (vF P tab n) P false (.tup [(.flat (.slice 25)), (.flat (.int .i64)), (.flat .bool)]) 19 [.sl 5 z24] r23.2).bind fun r25 =>
                ((callD (vF P tab n) P false (.one (.flat .bool)) 14 [.sl 25 r23.1, .sl 25 r25.1.1] r25.2).bind fun r26 =>
                  (cond (!r26.1)
                    (some (.bool false, r26.2))
                    ((callD (vF P tab n) P false (.one (.flat (.int .i64))) 16 [.ptr s8] r26.2).bind fun r27 =>
                      (cond ((r27.1 : Int) != r25.1.2.1)
                        (some (.bool false, r27.2))
                        ((callD (vF P tab n) P false (.one (.flat .bool)) 17 [.ptr s8] r27.2).bind fun r28 =>
                        (cond (!(r28.1 == r25.1.2.2.1))
                        (some (.bool false, r28.2))
                        (L4_0 n m s2 s7 s8 r23.1 ((VS.len s7 : Nat) : Int) (IntKind.wrap .i64 (s11 + 1)) r28.2)))))))))))))
    (some (.bool true, h))) := by kernel_rfl
theorem f4_eq (n : Nat) (a0 : VS) (a1 : VS) (a2 : VS) (h : VH) : bodyV P tab (vF P tab n) n 4 [.sl 25 a0, .sl 5 a1, .sl 5 a2] h =
  ((callD (vF P tab n) P false (.one (.flat .bool)) 9 [] h).bind fun r1 =>
    (cond (!r1.1)
      ((callD (vF P tab n) P false (.one (.flat .bool)) 9 [] r1.2).bind fun r2 =>
        (some (.bool r2.1, r2.2)))
      ((callD (vF P tab n) P false (.one (.flat .bool)) 10 [.sl 25 a0, .sl 5 a1] r1.2).bind fun r3 =>
        (cond (!r3.1)
          ((callD (vF P tab n) P false (.one (.flat .bool)) 9 [] r3.2).bind fun r4 =>
            (some (.bool r4.1, r4.2)))
          (cond (decide ((((VS.len a2 : Nat) : Int) : Int) > 60))
            ((callD (vF P tab n) P false (.one (.flat .bool)) 9 [] r3.2).bind fun r5 =>
              (some (.bool r5.1, r5.2)))
            ((callD (vF P tab n) P false (.one (.flat (.slice 5))) 18 [.sl 25 a0, .sl 5 a1] r3.2).bind fun r6 =>
              ((callD (vF P tab n) P false (.one (.flat .ptr)) 13 [] r6.2).bind fun r7 =>
                (L4_0 n n a2 r6.1 r7.1 .nil 0 0 r7.2)))))))) := by kernel_rfl
/-! godown/godownlaw13.FrameBreaks -/
theorem f5_eq (n : Nat) (a0 : VS) (a1 : Int) (a2 : VS) (h : VH) : bodyV P tab (vF P tab n) n 5 [.sl 25 a0, .int .u16 a1, .sl 5 a2] h =
  ((callD (vF P tab n) P false (.one (.flat .bool)) 9 [] h).bind fun r1 =>
    (cond (!r1.1)
      ((callD (vF P tab n) P false (.one (.flat .bool)) 9 [] r1.2).bind fun r2 =>
        (some (.bool r2.1, r2.2)))
      ((callD (vF P tab n) P false (.one (.flat .bool)) 10 [.sl 25 a0, .sl 5 a2] r1.2).bind fun r3 =>
        (cond (!r3.1)
          ((callD (vF P tab n) P false (.one (.flat .bool)) 9 [] r3.2).bind fun r4 =>
            (some (.bool r4.1, r4.2)))
          (cond (decide ((a1 : Int) ≥ 1))
            (cond (decide ((a1 : Int) ≤ 2048))
              ((shrI .u16 0 8).bind fun x5 =>
                ((callD (vF P tab n) P false (.one (.flat (.slice 5))) 18 [.sl 25 a0, .sl 5 (.fz [[.int .u8 (IntKind.wrap .u8 x5)], [.int .u8 (IntKind.wrap .u8 0)]] (.ex 2))] r3.2).bind fun r6 =>
                  ((callD (vF P tab n) P false (.one (.flat .ptr)) 13 [] r6.2).bind fun r7 =>
                    ((callD (vF P tab n) P false (.one (.flat (.slice 25))) 15 [.ptr r7.1, .sl 5 r6.1] r7.2).bind fun r8 =>
                      (cond ((((VS.len r8.1 : Nat) : Int) : Int) == ((VS.len a0 : Nat) : Int))
                        ((callD (vF P tab n) P false (.one (.flat .bool)) 17 [.ptr r7.1] r8.2).bind fun r9 =>
                        (cond r9.1
                        ((callD (vF P tab n) P false (.one (.flat (.int .i64))) 16 [.ptr r7.1] r9.2).bind fun r10 =>
                        (cond ((r10.1 : Int) == 0)
                        ((callD (vF P tab n) P false (.one (.flat (.slice 5))) 20 [.sl 5 (.fz [[.int .u8 1]] (.ex 1))] r10.2).bind fun r11 =>
                        ((callD (vF P tab n) P false (.one (.flat (.slice 5))) 11 [.sl 5 r11.1, .sl 5 a2] r11.2).bind fun r12 =>
                        ((callD (vF P tab n) P false (.one (.flat (.slice 25))) 15 [.ptr r7.1, .sl 5 r12.1] r12.2).bind fun r13 =>
                        (cond ((((VS.len r13.1 : Nat) : Int) : Int) == 0)
                        ((callD (vF P tab n) P false (.one (.flat .bool)) 17 [.ptr r7.1] r13.2).bind fun r14 =>
                        (some (.bool r14.1, r14.2)))
                        (some (.bool false, r13.2))))))
                        (some (.bool false, r10.2))))
                        (some (.bool false, r9.2))))
                        (some (.bool false, r8.2)))))))
              ((shrI .u16 a1 8).bind fun x15 =>
                ((callD (vF P tab n) P false (.one (.flat (.slice 5))) 18 [.sl 25 a0, .sl 5 (.fz [[.int .u8 (IntKind.wrap .u8 x15)], [.int .u8 (IntKind.wrap .u8 a1)]] (.ex 2))] r3.2).bind fun r16 =>
                  ((callD (vF P tab n) P false (.one (.flat .ptr)) 13 [] r16.2).bind fun r17 =>
                    ((callD (vF P tab n) P false (.one (.flat (.slice 25))) 15 [.ptr r17.1, .sl 5 r16.1] r17.2).bind fun r18 =>
                      (cond ((((VS.len r18.1 : Nat) : Int) : Int) == ((VS.len a0 : Nat) : Int))
                        ((callD (vF P tab n) P false (.one (.flat .bool)) 17 [.ptr r17.1] r18.2).bind fun r19 =>
                        (cond r19.1
                        ((callD (vF P tab n) P false (.one (.flat (.int .i64))) 16 [.ptr r17.1] r19.2).bind fun r20 =>
                        (cond ((r20.1 : Int) == 0)
                        ((callD (vF P tab n) P false (.one (.flat (.slice 5))) 20 [.sl 5 (.fz [[.int .u8 1]] (.ex 1))] r20.2).bind fun r21 =>
                        ((callD (vF P tab n) P false (.one (.flat (.slice 5))) 11 [.sl 5 r21.1, .sl 5 a2] r21.2).bind fun r22 =>
                        ((callD (vF P tab n) P false (.one (.flat (.slice 25))) 15 [.ptr r17.1, .sl 5 r22.1] r22.2).bind fun r23 =>
                        (cond ((((VS.len r23.1 : Nat) : Int) : Int) == 0)
                        ((callD (vF P tab n) P false (.one (.flat .bool)) 17 [.ptr r17.1] r23.2).bind fun r24 =>
                        (some (.bool r24.1, r24.2)))
                        (some (.bool false, r23.2))))))
                        (some (.bool false, r20.2))))
                        (some (.bool false, r19.2))))
                        (some (.bool false, r18.2))))))))
            ((shrI .u16 a1 8).bind fun x25 =>
              ((callD (vF P tab n) P false (.one (.flat (.slice 5))) 18 [.sl 25 a0, .sl 5 (.fz [[.int .u8 (IntKind.wrap .u8 x25)], [.int .u8 (IntKind.wrap .u8 a1)]] (.ex 2))] r3.2).bind fun r26 =>
                ((callD (vF P tab n) P false (.one (.flat .ptr)) 13 [] r26.2).bind fun r27 =>
                  ((callD (vF P tab n) P false (.one (.flat (.slice 25))) 15 [.ptr r27.1, .sl 5 r26.1] r27.2).bind fun r28 =>
                    (cond ((((VS.len r28.1 : Nat) : Int) : Int) == ((VS.len a0 : Nat) : Int))
                      ((callD (vF P tab n) P false (.one (.flat .bool)) 17 [.ptr r27.1] r28.2).bind fun r29 =>
                        (cond r29.1
                        ((callD (vF P tab n) P false (.one (.flat (.int .i64))) 16 [.ptr r27.1] r29.2).bind fun r30 =>
                        (cond ((r30.1 : Int) == 0)
                        ((callD (vF P tab n) P false (.one (.flat (.slice 5))) 20 [.sl 5 (.fz [[.int .u8 1]] (.ex 1))] r30.2).bind fun r31 =>
                        ((callD (vF P tab n) P false (.one (.flat (.slice 5))) 11 [.sl 5 r31.1, .sl 5 a2] r31.2).bind fun r32 =>
                        ((callD (vF P tab n) P false (.one (.flat (.slice 25))) 15 [.ptr r27.1, .sl 5 r32.1] r32.2).bind fun r33 =>
                        (cond ((((VS.len r33.1 : Nat) : Int) : Int) == 0)
                        ((callD (vF P tab n) P false (.one (.flat .bool)) 17 [.ptr r27.1] r33.2).bind fun r34 =>
                        (some (.bool r34.1, r34.2)))
                        (some (.bool false, r33.2))))))
                        (some (.bool false, r30.2))))
                        (some (.bool false, r29.2))))
                      (some (.bool false, r28.2)))))))))))) := by kernel_rfl
/-! godown/godownlaw13.FrameLong -/
noncomputable def L6_0 (n m : Nat) (s1 : Int) (s5 : Int) (s6 : VS) (s7 : Int) (h : VH) : VRes := loopAt P tab 6 [1, 1, 1, 1, 0, 1, 0] n [] m [.undef, .int .u8 s1, .undef, .undef, .undef, .int .i64 s5, .sl 5 s6, .int .i64 s7, .undef, .undef, .undef, .undef, .undef, .undef, .undef, .undef, .undef, .undef, .undef, .undef, .undef, .undef, .undef, .undef, .undef, .undef, .undef, .undef, .undef, .undef, .undef, .undef, .undef, .undef, .undef, .undef, .undef, .undef, .undef, .undef, .undef, .undef, .undef, .undef, .undef, .undef, .undef, .undef, .undef, .undef, .undef, .undef, .undef, .undef, .undef, .undef, .undef, .undef, .undef, .undef, .undef, .undef, .undef, .undef, .undef, .undef, .undef, .undef, .undef, .undef] h
theorem L6_0_eq (n m : Nat) (s1 : Int) (s5 : Int) (s6 : VS) (s7 : Int) (h : VH) : L6_0 n (m + 1) s1 s5 s6 s7 h =
  (cond (decide ((s7 : Int) < s5))
    ((ixV 1 s6 s7).bind fun p1 =>
      ((stV h p1 [.int .u8 s1]).bind fun h2 =>
        (L6_0 n m s1 s5 s6 (IntKind.wrap .i64 (s7 + 1)) h2)))
    ((callD (vF P tab n) P false (.one (.flat .ptr)) 13 [] h).bind fun r3 =>
      ((callD (vF P tab n) P false (.one (.flat (.slice 5))) 12 [.sl 5 s6] r3.2).bind fun r4 =>
        ((cutD r4.2 5 1 r4.1 none (some (IntKind.wrap .i64 (((VS.len r4.1 : Nat) : Int) - 1))) none).bind fun z5 =>
          ((callD (vF P tab n) P false (.one (.flat (.slice 25))) 15 [.ptr r3.1, .sl 5 z5] r4.2).bind fun r6 =>
            ((callD (vF P tab n) P false (.one (.flat (.int .i64))) 16 [.ptr r3.1] r6.2).bind fun r7 =>
              ((cutD r7.2 5 1 r4.1 (some (IntKind.wrap .i64 (((VS.len r4.1 : Nat) : Int) - 1))) none none).bind fun z8 =>
                ((callD (vF P tab n) P false (.one (.flat (.slice 25))) 15 [.ptr r3.1, .sl 5 z8] r7.2).bind fun r9 =>
                  (cond ((((VS.len r6.1 : Nat) : Int) : Int) == 0)
                    (cond ((r7.1 : Int) == (IntKind.wrap .i64 (s5 + 1)))
                      (cond ((((VS.len r9.1 : Nat) : Int) : Int) == 1)
                        ((ixV 1 r9.1 0).bind fun p10 =>
                        ((ldV (.flat (.slice 5)) r9.2 p10).bind fun x11 =>
                        ((callD (vF P tab n) P false (.one (.flat .bool)) 21 [.sl 5 x11, .sl 5 s6] r9.2).bind fun r12 =>
                        (some (.bool r12.1, r12.2)))))
                        (some (.bool false, r9.2)))
                      (some (.bool false, r9.2)))
                    (some (.bool false, r9.2))))))))))) := by kernel_rfl
theorem f6_eq (n : Nat) (a0 : Int) (a1 : Int) (h : VH) : bodyV P tab (vF P tab n) n 6 [.int .u16 a0, .int .u8 a1] h =
  ((callD (vF P tab n) P false (.one (.flat .bool)) 9 [] h).bind fun r1 =>
    (cond (!r1.1)
      (some (.bool false, r1.2))
      ((remI a0 3).bind fun x2 =>
        ((mkD P false r1.2 5 (IntKind.wrap .i64 (2048 - (IntKind.wrap .i64 x2))) (IntKind.wrap .i64 (2048 - (IntKind.wrap .i64 x2)))).bind fun r3 =>
          (L6_0 n n a1 (IntKind.wrap .i64 (2048 - (IntKind.wrap .i64 x2))) r3.1 0 r3.2))))) := by kernel_rfl
/-! godown/godownlaw13.FrameHeld -/
theorem f8_eq (n : Nat) (a0 : VS) (a1 : Int) (h : VH) : bodyV P tab (vF P tab n) n 8 [.sl 5 a0, .int .u8 a1] h =
  ((callD (vF P tab n) P false (.one (.flat .bool)) 9 [] h).bind fun r1 =>
    (cond (!r1.1)
      ((callD (vF P tab n) P false (.one (.flat .bool)) 9 [] r1.2).bind fun r2 =>
        (some (.bool r2.1, r2.2)))
      (cond (decide ((((VS.len a0 : Nat) : Int) : Int) > 200))
        ((callD (vF P tab n) P false (.one (.flat .bool)) 9 [] r1.2).bind fun r3 =>
          (some (.bool r3.1, r3.2)))
        (cond ((((VS.len a0 : Nat) : Int) : Int) == 0)
          ((callD (vF P tab n) P false (.one (.flat .bool)) 9 [] r1.2).bind fun r4 =>
            (some (.bool r4.1, r4.2)))
          ((callD (vF P tab n) P false (.one (.flat (.slice 5))) 20 [.sl 5 a0] r1.2).bind fun r5 =>
            ((remI (IntKind.wrap .i64 a1) ((VS.len r5.1 : Nat) : Int)).bind fun x6 =>
              ((callD (vF P tab n) P false (.one (.flat .ptr)) 13 [] r5.2).bind fun r7 =>
                ((cutD r7.2 5 1 r5.1 none (some x6) none).bind fun z8 =>
                  ((callD (vF P tab n) P false (.one (.flat (.slice 25))) 15 [.ptr r7.1, .sl 5 z8] r7.2).bind fun r9 =>
                    (cond ((((VS.len r9.1 : Nat) : Int) : Int) == 0)
                      ((callD (vF P tab n) P false (.one (.flat (.int .i64))) 16 [.ptr r7.1] r9.2).bind fun r10 =>
                        (cond ((r10.1 : Int) == x6)
                        ((callD (vF P tab n) P false (.one (.flat .bool)) 17 [.ptr r7.1] r10.2).bind fun r11 =>
                        (cond (!r11.1)
                        ((cutD r11.2 5 1 r5.1 (some x6) none none).bind fun z12 =>
                        ((callD (vF P tab n) P false (.one (.flat (.slice 25))) 15 [.ptr r7.1, .sl 5 z12] r11.2).bind fun r13 =>
                        (cond ((((VS.len r13.1 : Nat) : Int) : Int) == 1)
                        ((callD (vF P tab n) P false (.one (.flat (.int .i64))) 16 [.ptr r7.1] r13.2).bind fun r14 =>
                        (some (.bool ((r14.1 : Int) == 0), r14.2)))
                        (some (.bool false, r13.2)))))
                        (some (.bool false, r11.2))))
                        (some (.bool false, r10.2))))
                      (some (.bool false, r9.2)))))))))))) := by kernel_rfl
/-! godown/godownlaw13.one -/
theorem f9_eq (n : Nat)  (h : VH) : bodyV P tab (vF P tab n) n 9 [] h =
  ((callD (vF P tab n) P false (.one (.flat .ptr)) 13 [] h).bind fun r1 =>
    ((callD (vF P tab n) P false (.one (.flat (.slice 25))) 15 [.ptr r1.1, .sl 5 (.hp r1.2.length 0 3)] (r1.2 ++ [.row 5 [.int .u8 0, .int .u8 1, .int .u8 97]])).bind fun r2 =>
      (if 25 = 25 ∧ (rowV (r2.2 ++ [.row 5 [.int .u8 97]]) r2.2.length).isSome = true then
        ((callD (vF P tab n) P false (.one (.flat (.slice 5))) 12 [.sl 5 (.hp r2.2.length 0 1)] (r2.2 ++ [.row 5 [.int .u8 97]])).bind fun r3 =>
          ((callD (vF P tab n) P false (.one (.flat .bool)) 21 [.sl 5 r3.1, .sl 5 (.hp r3.2.length 0 3)] (r3.2 ++ [.row 5 [.int .u8 0, .int .u8 1, .int .u8 97]])).bind fun r4 =>
            (cond r4.1
              (cond ((((VS.len r2.1 : Nat) : Int) : Int) == 1)
                ((ixV 1 r2.1 0).bind fun p5 =>
                  ((ldV (.flat (.slice 5)) r4.2 p5).bind fun x6 =>
                    (if 25 = 25 ∧ (rowV (r4.2 ++ [.row 5 [.int .u8 97]]) r4.2.length).isSome = true then
                      ((callD (vF P tab n) P false (.one (.flat .bool)) 21 [.sl 5 x6, .sl 5 (.hp r4.2.length 0 1)] (r4.2 ++ [.row 5 [.int .u8 97]])).bind fun r7 =>
                        (some (.bool r7.1, r7.2)))
                      else none)))
                (some (.bool false, r4.2)))
              (some (.bool false, r4.2)))))
        else none))) := by kernel_rfl
/-! godown/godownlaw13.small -/
noncomputable def L10_0 (n m : Nat) (s0 : VS) (s1 : VS) (s5 : Int) (h : VH) : VRes := loopAt P tab 10 [1, 0, 1, 0] n [] m [.sl 25 s0, .sl 5 s1, .undef, .undef, .undef, .int .i64 s5, .undef, .undef, .undef, .undef, .undef, .undef, .undef, .undef, .undef, .undef, .undef, .undef, .undef, .undef, .undef, .undef, .undef, .undef, .undef, .undef] h
theorem L10_0_eq (n m : Nat) (s0 : VS) (s1 : VS) (s5 : Int) (h : VH) : L10_0 n (m + 1) s0 s1 s5 h =
  (cond (decide ((s5 : Int) < ((VS.len s0 : Nat) : Int)))
    ((ixV 1 s0 s5).bind fun p1 =>
      ((ldV (.flat (.slice 5)) h p1).bind fun x2 =>
        (cond (decide ((((VS.len x2 : Nat) : Int) : Int) > 200))
          (some (.bool false, h))
          (L10_0 n m s0 s1 (IntKind.wrap .i64 (s5 + 1)) h))))
    (cond (decide ((((VS.len s0 : Nat) : Int) : Int) ≤ 8))
      (some (.bool (decide ((((VS.len s1 : Nat) : Int) : Int) ≤ 100)), h))
      (some (.bool false, h)))) := by kernel_rfl
theorem f10_eq (n : Nat) (a0 : VS) (a1 : VS) (h : VH) : bodyV P tab (vF P tab n) n 10 [.sl 25 a0, .sl 5 a1] h =
  (L10_0 n n a0 a1 0 h) := by kernel_rfl
/-! godown/godownref01.Join -/
theorem f11_eq (n : Nat) (a0 : VS) (a1 : VS) (h : VH) : bodyV P tab (vF P tab n) n 11 [.sl 5 a0, .sl 5 a1] h =
  ((appD true h 1 1 5 .nil a0).bind fun r1 =>
    ((appD true r1.2 1 1 5 r1.1 a1).bind fun r2 =>
      (some (.sl 5 r2.1, r2.2)))) := by kernel_rfl
/-! godown/frame.Frame -/
theorem f12_eq (n : Nat) (a0 : VS) (h : VH) : bodyV P tab (vF P tab n) n 12 [.sl 5 a0] h =
  ((strV (h ++ [.row (46 + boxK) [.sl 5 .nil]]) 5 a0).bind fun z1 =>
    ((callD (vF P tab n) P false (.one (.flat .ptr)) 22 [.ptr (.ob h.length 0), .str z1] (h ++ [.row (46 + boxK) [.sl 5 .nil]])).bind fun r2 =>
      ((callD (vF P tab n) P false (.one (.flat (.slice 5))) 23 [.ptr r2.1] r2.2).bind fun r3 =>
        (some (.sl 5 r3.1, r3.2))))) := by kernel_rfl
/-! godown/frame.New -/
theorem f13_eq (n : Nat)  (h : VH) : bodyV P tab (vF P tab n) n 13 [] h =
  (some (.ptr (.ob h.length 0), (h ++ [.row (50 + boxK) [.sl 5 .nil, .bool false]]))) := by kernel_rfl
/-! godown/godownlaw13.same -/
noncomputable def L14_0 (n m : Nat) (s0 : VS) (s1 : VS) (s5 : Int) (h : VH) : VRes := loopAt P tab 14 [1, 1, 0, 1, 0] n [] m [.sl 25 s0, .sl 25 s1, .undef, .undef, .undef, .int .i64 s5, .undef, .undef, .undef, .undef, .undef, .undef, .undef, .undef, .undef, .undef, .undef, .undef, .undef, .undef, .undef, .undef, .undef, .undef, .undef, .undef, .undef] h
theorem L14_0_eq (n m : Nat) (s0 : VS) (s1 : VS) (s5 : Int) (h : VH) : L14_0 n (m + 1) s0 s1 s5 h =
  (cond (decide ((s5 : Int) < ((VS.len s0 : Nat) : Int)))
    ((ixV 1 s0 s5).bind fun p1 =>
      ((ldV (.flat (.slice 5)) h p1).bind fun x2 =>
        ((ixV 1 s1 s5).bind fun p3 =>
          ((ldV (.flat (.slice 5)) h p3).bind fun x4 =>
            ((callD (vF P tab n) P false (.one (.flat .bool)) 21 [.sl 5 x2, .sl 5 x4] h).bind fun r5 =>
              (cond (!r5.1)
                (some (.bool false, r5.2))
                (L14_0 n m s0 s1 (IntKind.wrap .i64 (s5 + 1)) r5.2)))))))
    (some (.bool true, h))) := by kernel_rfl
theorem f14_eq (n : Nat) (a0 : VS) (a1 : VS) (h : VH) : bodyV P tab (vF P tab n) n 14 [.sl 25 a0, .sl 25 a1] h =
  (cond ((((VS.len a0 : Nat) : Int) : Int) != ((VS.len a1 : Nat) : Int))
    (some (.bool false, h))
    (L14_0 n n a0 a1 0 h)) := by kernel_rfl
/-! (*godown/frame.Stream).Feed -/
noncomputable def L15_0 (n m : Nat) (s0 : VP) (s5 : VS) (h : VH) : VRes := loopAt P tab 15 [1, 1, 1, 1, 0, 0] n [] m [.ptr s0, .undef, .undef, .undef, .undef, .sl 25 s5, .undef, .undef, .undef, .undef, .undef, .undef, .undef, .undef, .undef, .undef, .undef, .undef, .undef, .undef, .undef, .undef, .undef, .undef, .undef, .undef, .undef, .undef, .undef, .undef, .undef, .undef, .undef, .undef, .undef, .undef] h
theorem L15_0_eq (n m : Nat) (s0 : VP) (s5 : VS) (h : VH) : L15_0 n (m + 1) s0 s5 h =
  (cond (!VP.isNil s0)
    ((callD (vF P tab n) P false (.tup [(.flat (.slice 5)), (.flat .bool)]) 25 [.ptr s0] h).bind fun r1 =>
      (cond (!r1.1.2.1)
        (some (.sl 25 s5, r1.2))
        (if List.all [.sl 5 r1.1.1] closed1 = true then
          ((appD true r1.2 1 24 25 s5 (.fz [[.sl 5 (VS.strip r1.1.1)]] (.ex 1))).bind fun r2 =>
            (L15_0 n m s0 r2.1 r2.2))
          else none)))
    (some (.sl 25 s5, h))) := by kernel_rfl
theorem f15_eq (n : Nat) (a0 : VP) (a1 : VS) (h : VH) : bodyV P tab (vF P tab n) n 15 [.ptr a0, .sl 5 a1] h =
  ((callD (vF P tab n) P false (.one (.flat .bool)) 17 [.ptr a0] h).bind fun r1 =>
    (cond r1.1
      (some (.sl 25 .nil, r1.2))
      (cond (!VP.isNil a0)
        ((nn a0).bind fun p2 =>
          ((atO p2 0).bind fun p3 =>
            ((ldV (.flat (.slice 5)) r1.2 p3).bind fun x4 =>
              ((callD (vF P tab n) P false (.one (.flat (.slice 5))) 24 [.sl 5 x4] r1.2).bind fun r5 =>
                ((appD true r5.2 1 1 5 r5.1 a1).bind fun r6 =>
                  ((nn a0).bind fun p7 =>
                    ((atO p7 0).bind fun p8 =>
                      ((stV r6.2 p8 [.sl 5 r6.1]).bind fun h9 =>
                        (L15_0 n n a0 .nil h9)))))))))
        (L15_0 n n a0 .nil r1.2)))) := by kernel_rfl
/-! (*godown/frame.Stream).Held -/
theorem f16_eq (n : Nat) (a0 : VP) (h : VH) : bodyV P tab (vF P tab n) n 16 [.ptr a0] h =
  (cond (VP.isNil a0)
    (some (.int .i64 0, h))
    ((nn a0).bind fun p1 =>
      ((atO p1 0).bind fun p2 =>
        ((ldV (.flat (.slice 5)) h p2).bind fun x3 =>
          (some (.int .i64 ((VS.len x3 : Nat) : Int), h)))))) := by kernel_rfl
/-! (*godown/frame.Stream).Broken -/
theorem f17_eq (n : Nat) (a0 : VP) (h : VH) : bodyV P tab (vF P tab n) n 17 [.ptr a0] h =
  (cond (!VP.isNil a0)
    ((nn a0).bind fun p1 =>
      ((atO p1 1).bind fun p2 =>
        ((ldV (.flat .bool) h p2).bind fun x3 =>
          (some (.bool x3, h)))))
    (some (.bool false, h))) := by kernel_rfl
/-! godown/godownlaw13.stream -/
noncomputable def L18_0 (n m : Nat) (s0 : VS) (s1 : VS) (s5 : VS) (s6 : Int) (h : VH) : VRes := loopAt P tab 18 [1, 1, 0, 1, 0] n [] m [.sl 25 s0, .sl 5 s1, .undef, .undef, .undef, .sl 5 s5, .int .i64 s6, .undef, .undef, .undef, .undef, .undef, .undef, .undef, .undef, .undef, .undef, .undef, .undef, .undef, .undef, .undef, .undef, .undef, .undef, .undef, .undef, .undef, .undef] h
theorem L18_0_eq (n m : Nat) (s0 : VS) (s1 : VS) (s5 : VS) (s6 : Int) (h : VH) : L18_0 n (m + 1) s0 s1 s5 s6 h =
  (cond (decide ((s6 : Int) < ((VS.len s0 : Nat) : Int)))
    ((ixV 1 s0 s6).bind fun p1 =>
      ((ldV (.flat (.slice 5)) h p1).bind fun x2 =>
        (cond ((((VS.len x2 : Nat) : Int) : Int) == 0)
          ((callD (vF P tab n) P false (.one (.flat (.slice 5))) 20 [.sl 5 (.fz [[.int .u8 7]] (.ex 1))] h).bind fun r3 =>
            ((callD (vF P tab n) P false (.one (.flat (.slice 5))) 11 [.sl 5 s5, .sl 5 r3.1] r3.2).bind fun r4 =>
              (L18_0 n m s0 s1 r4.1 (IntKind.wrap .i64 (s6 + 1)) r4.2)))
          ((callD (vF P tab n) P false (.one (.flat (.slice 5))) 20 [.sl 5 x2] h).bind fun r5 =>
            ((callD (vF P tab n) P false (.one (.flat (.slice 5))) 11 [.sl 5 s5, .sl 5 r5.1] r5.2).bind fun r6 =>
              (L18_0 n m s0 s1 r6.1 (IntKind.wrap .i64 (s6 + 1)) r6.2))))))
    ((callD (vF P tab n) P false (.one (.flat (.slice 5))) 11 [.sl 5 s5, .sl 5 s1] h).bind fun r7 =>
      (some (.sl 5 r7.1, r7.2)))) := by kernel_rfl
theorem f18_eq (n : Nat) (a0 : VS) (a1 : VS) (h : VH) : bodyV P tab (vF P tab n) n 18 [.sl 25 a0, .sl 5 a1] h =
  (L18_0 n n a0 a1 .nil 0 h) := by kernel_rfl
/-! godown/godownref13.All -/
noncomputable def L19_0 (n m : Nat) (s0 : VS) (s5 : VS) (h : VH) : VRes := loopAt P tab 19 [1, 1, 0, 0] n [] m [.sl 5 s0, .undef, .undef, .undef, .undef, .sl 25 s5, .undef, .undef, .undef, .undef, .undef, .undef, .undef, .undef, .undef, .undef, .undef, .undef, .undef, .undef, .undef, .undef, .undef, .undef, .undef, .undef, .undef, .undef, .undef, .undef, .undef, .undef, .undef, .undef, .undef, .undef, .undef, .undef, .undef, .undef, .undef, .undef, .undef, .undef, .undef, .undef, .undef, .undef, .undef] h
theorem L19_0_eq (n m : Nat) (s0 : VS) (s5 : VS) (h : VH) : L19_0 n (m + 1) s0 s5 h =
  (cond (decide ((((VS.len s0 : Nat) : Int) : Int) ≥ 2))
    ((ixV 1 s0 0).bind fun p1 =>
      ((ldV (.flat (.int .u8)) h p1).bind fun x2 =>
        ((ixV 1 s0 1).bind fun p3 =>
          ((ldV (.flat (.int .u8)) h p3).bind fun x4 =>
            (cond (decide (((IntKind.wrap .i64 ((IntKind.wrap .i64 (256 * (IntKind.wrap .i64 x2))) + (IntKind.wrap .i64 x4))) : Int) < 1))
              (some (.tup [.sl 25 s5, .int .i64 0, .bool true], h))
              (cond (decide (((IntKind.wrap .i64 ((IntKind.wrap .i64 (256 * (IntKind.wrap .i64 x2))) + (IntKind.wrap .i64 x4))) : Int) > 2048))
                (some (.tup [.sl 25 s5, .int .i64 0, .bool true], h))
                (cond (decide (((IntKind.wrap .i64 (((VS.len s0 : Nat) : Int) - 2)) : Int) < (IntKind.wrap .i64 ((IntKind.wrap .i64 (256 * (IntKind.wrap .i64 x2))) + (IntKind.wrap .i64 x4)))))
                  (some (.tup [.sl 25 s5, .int .i64 ((VS.len s0 : Nat) : Int), .bool false], h))
                  ((cutD h 5 1 s0 (some 2) (some (IntKind.wrap .i64 (2 + (IntKind.wrap .i64 ((IntKind.wrap .i64 (256 * (IntKind.wrap .i64 x2))) + (IntKind.wrap .i64 x4)))))) none).bind fun z5 =>
                    (if List.all [.sl 5 z5] closed1 = true then
                      ((appD true h 1 24 25 s5 (.fz [[.sl 5 (VS.strip z5)]] (.ex 1))).bind fun r6 =>
                        ((cutD r6.2 5 1 s0 (some (IntKind.wrap .i64 (2 + (IntKind.wrap .i64 ((IntKind.wrap .i64 (256 * (IntKind.wrap .i64 x2))) + (IntKind.wrap .i64 x4)))))) none none).bind fun z7 =>
                        (L19_0 n m z7 r6.1 r6.2)))
                      else none)))))))))
    (some (.tup [.sl 25 s5, .int .i64 ((VS.len s0 : Nat) : Int), .bool false], h))) := by kernel_rfl
theorem f19_eq (n : Nat) (a0 : VS) (h : VH) : bodyV P tab (vF P tab n) n 19 [.sl 5 a0] h =
  (L19_0 n n a0 .nil h) := by kernel_rfl
/-! godown/godownref13.Frame -/
theorem f20_eq (n : Nat) (a0 : VS) (h : VH) : bodyV P tab (vF P tab n) n 20 [.sl 5 a0] h =
  ((quoI .i64 ((VS.len a0 : Nat) : Int) 256).bind fun x1 =>
    ((remI ((VS.len a0 : Nat) : Int) 256).bind fun x2 =>
      ((callD (vF P tab n) P false (.one (.flat (.slice 5))) 11 [.sl 5 (.fz [[.int .u8 (IntKind.wrap .u8 x1)], [.int .u8 (IntKind.wrap .u8 x2)]] (.ex 2)), .sl 5 a0] h).bind fun r3 =>
        (some (.sl 5 r3.1, r3.2))))) := by kernel_rfl
/-! godown/godownref01.Bytes -/
noncomputable def L21_0 (n m : Nat) (s0 : VS) (s1 : VS) (s5 : Int) (h : VH) : VRes := loopAt P tab 21 [1, 1, 0, 1, 0] n [] m [.sl 5 s0, .sl 5 s1, .undef, .undef, .undef, .int .i64 s5, .undef, .undef, .undef, .undef, .undef, .undef, .undef, .undef, .undef, .undef, .undef, .undef, .undef, .undef, .undef, .undef, .undef, .undef, .undef, .undef] h
theorem L21_0_eq (n m : Nat) (s0 : VS) (s1 : VS) (s5 : Int) (h : VH) : L21_0 n (m + 1) s0 s1 s5 h =
  (cond (decide ((s5 : Int) < ((VS.len s0 : Nat) : Int)))
    ((ixV 1 s0 s5).bind fun p1 =>
      ((ldV (.flat (.int .u8)) h p1).bind fun x2 =>
        ((ixV 1 s1 s5).bind fun p3 =>
          ((ldV (.flat (.int .u8)) h p3).bind fun x4 =>
            (cond ((x2 : Int) != x4)
              (some (.bool false, h))
              (L21_0 n m s0 s1 (IntKind.wrap .i64 (s5 + 1)) h))))))
    (some (.bool true, h))) := by kernel_rfl
theorem f21_eq (n : Nat) (a0 : VS) (a1 : VS) (h : VH) : bodyV P tab (vF P tab n) n 21 [.sl 5 a0, .sl 5 a1] h =
  (cond ((((VS.len a0 : Nat) : Int) : Int) != ((VS.len a1 : Nat) : Int))
    (some (.bool false, h))
    (L21_0 n n a0 a1 0 h)) := by kernel_rfl
/-! (*godown/wire.Writer).Text -/
theorem f22_eq (n : Nat) (a0 : VP) (a1 : ByteArray) (h : VH) : bodyV P tab (vF P tab n) n 22 [.ptr a0, .str a1] h =
  ((callD (vF P tab n) P false (.one (.flat .ptr)) 26 [.ptr a0, .int .i64 ((a1).size : Int)] h).bind fun r1 =>
    ((callD (vF P tab n) P false (.one (.flat .ptr)) 27 [.ptr r1.1, .sl 5 (.fz (bytesE a1) .no)] r1.2).bind fun r2 =>
      (some (.ptr r2.1, r2.2)))) := by kernel_rfl
/-! (*godown/wire.Writer).Bytes -/
theorem f23_eq (n : Nat) (a0 : VP) (h : VH) : bodyV P tab (vF P tab n) n 23 [.ptr a0] h =
  (cond (VP.isNil a0)
    (some (.sl 5 .nil, h))
    ((nn a0).bind fun p1 =>
      ((atO p1 0).bind fun p2 =>
        ((ldV (.flat (.slice 5)) h p2).bind fun x3 =>
          ((callD (vF P tab n) P false (.one (.flat (.slice 5))) 24 [.sl 5 x3] h).bind fun r4 =>
            (some (.sl 5 r4.1, r4.2))))))) := by kernel_rfl
/-! bytes.Clone -/
theorem f24_eq (n : Nat) (a0 : VS) (h : VH) : bodyV P tab (vF P tab n) n 24 [.sl 5 a0] h =
  (cond (VS.isNil a0)
    (some (.sl 5 .nil, h))
    ((appD true h 1 1 5 (.fz [] (.ex 0)) a0).bind fun r1 =>
      (some (.sl 5 r1.1, r1.2)))) := by kernel_rfl
/-! (*godown/frame.Stream).next -/
theorem f25_eq (n : Nat) (a0 : VP) (h : VH) : bodyV P tab (vF P tab n) n 25 [.ptr a0] h =
  ((nn a0).bind fun p1 =>
    ((atO p1 0).bind fun p2 =>
      ((ldV (.flat (.slice 5)) h p2).bind fun x3 =>
        (cond (decide ((((VS.len x3 : Nat) : Int) : Int) < 2))
          (some (.tup [.sl 5 .nil, .bool false], h))
          ((nn a0).bind fun p4 =>
            ((atO p4 0).bind fun p5 =>
              ((ldV (.flat (.slice 5)) h p5).bind fun x6 =>
                ((cutD h 5 1 x6 none (some 2) none).bind fun z7 =>
                  ((callD (vF P tab n) P false (.one (.flat .ptr)) 28 [.sl 5 z7] h).bind fun r8 =>
                    ((callD (vF P tab n) P false (.one (.flat (.int .i64))) 29 [.ptr r8.1] r8.2).bind fun r9 =>
                      (cond ((r9.1 : Int) == 0)
                        ((nn a0).bind fun p10 =>
                        ((atO p10 0).bind fun p11 =>
                        ((stV r9.2 p11 [.sl 5 .nil]).bind fun h12 =>
                        ((nn a0).bind fun p13 =>
                        ((atO p13 1).bind fun p14 =>
                        ((stV h12 p14 [.bool true]).bind fun h15 =>
                        (some (.tup [.sl 5 .nil, .bool false], h15))))))))
                        (cond (decide ((r9.1 : Int) > 2048))
                        ((nn a0).bind fun p16 =>
                        ((atO p16 0).bind fun p17 =>
                        ((stV r9.2 p17 [.sl 5 .nil]).bind fun h18 =>
                        ((nn a0).bind fun p19 =>
                        ((atO p19 1).bind fun p20 =>
                        ((stV h18 p20 [.bool true]).bind fun h21 =>
                        (some (.tup [.sl 5 .nil, .bool false], h21))))))))
                        ((nn a0).bind fun p22 =>
                        ((atO p22 0).bind fun p23 =>
                        ((ldV (.flat (.slice 5)) r9.2 p23).bind fun x24 =>
                        (cond (decide ((((VS.len x24 : Nat) : Int) : Int) < (IntKind.wrap .i64 (2 + r9.1))))
                        (some (.tup [.sl 5 .nil, .bool false], r9.2))
                        ((nn a0).bind fun p25 =>
                        ((atO p25 0).bind fun p26 =>
                        ((ldV (.flat (.slice 5)) r9.2 p26).bind fun x27 =>
                        ((cutD r9.2 5 1 x27 (some 2) (some (IntKind.wrap .i64 (2 + r9.1))) none).bind fun z28 =>
                        ((callD (vF P tab n) P false (.one (.flat (.slice 5))) 24 [.sl 5 z28] r9.2).bind fun r29 =>
                        ((nn a0).bind fun p30 =>
                        ((atO p30 0).bind fun p31 =>
                        ((ldV (.flat (.slice 5)) r29.2 p31).bind fun x32 =>
                        ((cutD r29.2 5 1 x32 (some (IntKind.wrap .i64 (2 + r9.1))) none none).bind fun z33 =>
                        ((nn a0).bind fun p34 =>
                        ((atO p34 0).bind fun p35 =>
                        ((stV r29.2 p35 [.sl 5 z33]).bind fun h36 =>
                        (some (.tup [.sl 5 r29.1, .bool true], h36)))))))))))))))))))))))))))))) := by kernel_rfl
/-! (*godown/wire.Writer).Num -/
theorem f26_eq (n : Nat) (a0 : VP) (a1 : Int) (h : VH) : bodyV P tab (vF P tab n) n 26 [.ptr a0, .int .i64 a1] h =
  ((shrI .i64 a1 8).bind fun x1 =>
    ((callD (vF P tab n) P false (.one (.flat .ptr)) 27 [.ptr a0, .sl 5 (.fz [[.int .u8 (IntKind.wrap .u8 x1)], [.int .u8 (IntKind.wrap .u8 a1)]] (.ex 2))] h).bind fun r2 =>
      (some (.ptr r2.1, r2.2)))) := by kernel_rfl
/-! (*godown/wire.Writer).lay -/
theorem f27_eq (n : Nat) (a0 : VP) (a1 : VS) (h : VH) : bodyV P tab (vF P tab n) n 27 [.ptr a0, .sl 5 a1] h =
  (cond (!VP.isNil a0)
    ((nn a0).bind fun p1 =>
      ((atO p1 0).bind fun p2 =>
        ((ldV (.flat (.slice 5)) h p2).bind fun x3 =>
          ((appD true h 1 1 5 x3 a1).bind fun r4 =>
            ((nn a0).bind fun p5 =>
              ((atO p5 0).bind fun p6 =>
                ((stV r4.2 p6 [.sl 5 r4.1]).bind fun h7 =>
                  (some (.ptr a0, h7)))))))))
    (some (.ptr a0, h))) := by kernel_rfl
/-! godown/wire.NewReader -/
theorem f28_eq (n : Nat) (a0 : VS) (h : VH) : bodyV P tab (vF P tab n) n 28 [.sl 5 a0] h =
  ((callD (vF P tab n) P false (.one (.flat (.slice 5))) 24 [.sl 5 a0] h).bind fun r1 =>
    (some (.ptr (.ob r1.2.length 0), (r1.2 ++ [.row (58 + boxK) [.sl 5 r1.1, .bool false]])))) := by kernel_rfl
/-! (*godown/wire.Reader).Num -/
theorem f29_eq (n : Nat) (a0 : VP) (h : VH) : bodyV P tab (vF P tab n) n 29 [.ptr a0] h =
  ((callD (vF P tab n) P false (.one (.flat (.int .u64))) 30 [.ptr a0, .int .i64 2] h).bind fun r1 =>
    (some (.int .i64 (IntKind.wrap .i64 r1.1), r1.2))) := by kernel_rfl
/-! (*godown/wire.Reader).number -/
noncomputable def L30_0 (n m : Nat) (s5 : Int) (s10 : VS) (s11 : Int) (s12 : Int) (h : VH) : VRes := loopAt P tab 30 [1, 1, 0, 1, 0] n [] m [.undef, .undef, .undef, .undef, .undef, .int .u64 s5, .undef, .undef, .undef, .undef, .sl 5 s10, .int .i64 s11, .int .i64 s12, .undef, .undef, .undef, .undef, .undef, .undef, .undef, .undef, .undef, .undef] h
theorem L30_0_eq (n m : Nat) (s5 : Int) (s10 : VS) (s11 : Int) (s12 : Int) (h : VH) : L30_0 n (m + 1) s5 s10 s11 s12 h =
  (cond (decide ((s12 : Int) < s11))
    ((ixV 1 s10 s12).bind fun p1 =>
      ((ldV (.flat (.int .u8)) h p1).bind fun x2 =>
        ((shlI .u64 s5 8).bind fun x3 =>
          (L30_0 n m (bitI .or .u64 x3 (IntKind.wrap .u64 x2)) s10 s11 (IntKind.wrap .i64 (s12 + 1)) h))))
    (some (.int .u64 s5, h))) := by kernel_rfl
theorem f30_eq (n : Nat) (a0 : VP) (a1 : Int) (h : VH) : bodyV P tab (vF P tab n) n 30 [.ptr a0, .int .i64 a1] h =
  ((callD (vF P tab n) P false (.one (.flat (.slice 5))) 31 [.ptr a0, .int .i64 a1] h).bind fun r1 =>
    (L30_0 n n 0 r1.1 ((VS.len r1.1 : Nat) : Int) 0 r1.2)) := by kernel_rfl
/-! (*godown/wire.Reader).take -/
theorem f31_eq (n : Nat) (a0 : VP) (a1 : Int) (h : VH) : bodyV P tab (vF P tab n) n 31 [.ptr a0, .int .i64 a1] h =
  ((callD (vF P tab n) P false (.one (.flat .bool)) 32 [.ptr a0] h).bind fun r1 =>
    (cond (!r1.1)
      (some (.sl 5 .nil, r1.2))
      ((nn a0).bind fun p2 =>
        ((atO p2 0).bind fun p3 =>
          ((ldV (.flat (.slice 5)) r1.2 p3).bind fun x4 =>
            (cond (decide ((a1 : Int) > ((VS.len x4 : Nat) : Int)))
              ((callD (vF P tab n) P false (.tup []) 33 [.ptr a0] r1.2).bind fun r5 =>
                (some (.sl 5 .nil, r5.2)))
              ((nn a0).bind fun p6 =>
                ((atO p6 0).bind fun p7 =>
                  ((ldV (.flat (.slice 5)) r1.2 p7).bind fun x8 =>
                    ((cutD r1.2 5 1 x8 none (some a1) (some a1)).bind fun z9 =>
                      ((nn a0).bind fun p10 =>
                        ((atO p10 0).bind fun p11 =>
                        ((ldV (.flat (.slice 5)) r1.2 p11).bind fun x12 =>
                        ((cutD r1.2 5 1 x12 (some a1) none none).bind fun z13 =>
                        ((nn a0).bind fun p14 =>
                        ((atO p14 0).bind fun p15 =>
                        ((stV r1.2 p15 [.sl 5 z13]).bind fun h16 =>
                        (some (.sl 5 z9, h16))))))))))))))))))) := by kernel_rfl
/-! (*godown/wire.Reader).OK -/
theorem f32_eq (n : Nat) (a0 : VP) (h : VH) : bodyV P tab (vF P tab n) n 32 [.ptr a0] h =
  (cond (!VP.isNil a0)
    ((nn a0).bind fun p1 =>
      ((atO p1 1).bind fun p2 =>
        ((ldV (.flat .bool) h p2).bind fun x3 =>
          (some (.bool (!x3), h)))))
    (some (.bool false, h))) := by kernel_rfl
/-! (*godown/wire.Reader).give -/
theorem f33_eq (n : Nat) (a0 : VP) (h : VH) : bodyV P tab (vF P tab n) n 33 [.ptr a0] h =
  ((nn a0).bind fun p1 =>
    ((atO p1 0).bind fun p2 =>
      ((stV h p2 [.sl 5 .nil]).bind fun h3 =>
        ((nn a0).bind fun p4 =>
          ((atO p4 1).bind fun p5 =>
            ((stV h3 p5 [.bool true]).bind fun h6 =>
              (some (.tup [], h6)))))))) := by kernel_rfl
end Go.Proofs.Ytaifjlpgggimaaa
