import Derived.Test.YtaifjlpgggimaaaVc
import Derived.Test.YtaifjlpgggimaaaProg
set_option maxRecDepth 100000
set_option maxHeartbeats 0
set_option linter.unusedVariables false
set_option linter.unusedSimpArgs false
namespace Go.Proofs.Ytaifjlpgggimaaa
open Go.Proofs.Ytaifjlpgggimaaa.Sh Go.Proofs.Ytaifjlpgggimaaa.Sh.V
def notes : List (Nat × Notes) := [(7, ⟨[], [(8, [2, 3, 4, 9, 10, 11, 12, 13, 14, 15, 16, 17, 18, 19, 20, 21, 22, 23, 24, 25, 26, 27, 28, 29, 30, 31, 32, 33, 34, 35, 36, 37, 38, 39, 40, 41, 42, 43, 44, 45, 46, 47, 48, 49, 50, 51, 52, 53, 54, 55, 56, 57, 58, 59, 60, 61, 62, 63, 64, 65, 66, 67, 68, 69, 70, 71, 72, 73, 74, 75, 76, 77, 78, 79, 80, 81, 82, 83, 84, 85, 86, 87, 88, 89, 90, 91, 92, 93, 94, 95, 96, 97, 98, 99, 100, 101, 102, 103, 104, 105, 106, 107, 108, 109]), (15, [2, 3, 4, 6, 8, 11, 12, 13, 14, 15, 16, 17, 18, 19, 20, 21, 22, 23, 24, 25, 26, 27, 28, 29, 30, 31, 32, 33, 34, 35, 36, 37, 38, 39, 40, 41, 42, 43, 44, 45, 46, 47, 48, 49, 50, 51, 52, 53, 54, 55, 56, 57, 58, 59, 60, 61, 62, 63, 64, 65, 66, 67, 68, 69, 70, 71, 72, 73, 74, 75, 76, 77, 78, 79, 80, 81, 82, 83, 84, 85, 86, 87, 88, 89, 90, 91, 92, 93, 94, 95, 96, 97, 98, 99, 100, 101, 102, 103, 104, 105, 106, 107, 108, 109])], []⟩),
  (15, ⟨[], [(6, [1, 2, 3, 4, 6, 7, 8, 9, 10, 11, 12, 13, 14, 15, 16, 17, 18, 19, 20, 21, 22, 23, 24, 25, 26, 27, 28, 29, 30, 31, 32, 33, 34, 35])], []⟩),
  (21, ⟨[], [(4, [2, 3, 4, 6, 7, 8, 9, 10, 11, 12, 13, 14, 15, 16, 17, 18, 19, 20, 21, 22, 23, 24, 25])], []⟩),
  (30, ⟨[], [(3, [0, 1, 2, 3, 4, 6, 7, 8, 9, 13, 14, 15, 16, 17, 18, 19, 20, 21, 22])], []⟩)]
noncomputable abbrev P : Program := Try.prog
def reach : List Nat := [7, 9, 11, 12, 13, 15, 16, 17, 20, 21, 22, 23, 24, 25, 26, 27, 28, 29, 30, 31, 32, 33]
def noteOf (f : FuncId) : Notes := (find notes f).getD ⟨[], [], []⟩
noncomputable def tab : VTab := mkV P noteOf reach [] (fun f => !among [7, 9, 11, 15, 24, 25] f) (among [9, 12, 19, 20, 21]) (fun f g => among2 [(20, 11), (28, 24)] f g) (fun f => !among [] f)
/-! godown/godownlaw13.FrameOwn -/
noncomputable def L7_0 (n m : Nat) (s0 : VS) (s1 : Int) (s5 : VS) (s6 : VS) (s7 : VP) (s8 : Int) (h : VH) : VRes := loopAt P tab 7 [1, 1, 1, 1, 1, 1, 0, 1, 0] n [] m [.sl 5 s0, .int .u8 s1, .undef, .undef, .undef, .sl 5 s5, .sl 5 s6, .ptr s7, .int .i64 s8, .undef, .undef, .undef, .undef, .undef, .undef, .undef, .undef, .undef, .undef, .undef, .undef, .undef, .undef, .undef, .undef, .undef, .undef, .undef, .undef, .undef, .undef, .undef, .undef, .undef, .undef, .undef, .undef, .undef, .undef, .undef, .undef, .undef, .undef, .undef, .undef, .undef, .undef, .undef, .undef, .undef, .undef, .undef, .undef, .undef, .undef, .undef, .undef, .undef, .undef, .undef, .undef, .undef, .undef, .undef, .undef, .undef, .undef, .undef, .undef, .undef, .undef, .undef, .undef, .undef, .undef, .undef, .undef, .undef, .undef, .undef, .undef, .undef, .undef, .undef, .undef, .undef, .undef, .undef, .undef, .undef, .undef, .undef, .undef, .undef, .undef, .undef, .undef, .undef, .undef, .undef, .undef, .undef, .undef, .undef, .undef, .undef, .undef, .undef, .undef, .undef] h
noncomputable def L7_1 (n m : Nat) (s0 : VS) (s1 : Int) (s5 : VS) (s7 : VP) (s9 : VS) (s10 : Int) (h : VH) : VRes := loopAt P tab 7 [1, 1, 1, 1, 1, 1, 1, 1, 1, 0, 1, 0] n [] m [.sl 5 s0, .int .u8 s1, .undef, .undef, .undef, .sl 5 s5, .undef, .ptr s7, .undef, .sl 25 s9, .int .i64 s10, .undef, .undef, .undef, .undef, .undef, .undef, .undef, .undef, .undef, .undef, .undef, .undef, .undef, .undef, .undef, .undef, .undef, .undef, .undef, .undef, .undef, .undef, .undef, .undef, .undef, .undef, .undef, .undef, .undef, .undef, .undef, .undef, .undef, .undef, .undef, .undef, .undef, .undef, .undef, .undef, .undef, .undef, .undef, .undef, .undef, .undef, .undef, .undef, .undef, .undef, .undef, .undef, .undef, .undef, .undef, .undef, .undef, .undef, .undef, .undef, .undef, .undef, .undef, .undef, .undef, .undef, .undef, .undef, .undef, .undef, .undef, .undef, .undef, .undef, .undef, .undef, .undef, .undef, .undef, .undef, .undef, .undef, .undef, .undef, .undef, .undef, .undef, .undef, .undef, .undef, .undef, .undef, .undef, .undef, .undef, .undef, .undef, .undef, .undef] h
theorem L7_0_eq (n m : Nat) (s0 : VS) (s1 : Int) (s5 : VS) (s6 : VS) (s7 : VP) (s8 : Int) (h : VH) : L7_0 n (m + 1) s0 s1 s5 s6 s7 s8 h =
  (cond (decide ((s8 : Int) < ((VS.len s6 : Nat) : Int)))
    ((ixV 1 s6 s8).bind fun p1 =>
      ((stV h p1 [.int .u8 s1]).bind fun h2 =>
        (L7_0 n m s0 s1 s5 s6 s7 (IntKind.wrap .i64 (s8 + 1)) h2)))
    ((cutD h 5 1 s5 (some (IntKind.wrap .i64 (((VS.len s5 : Nat) : Int) - 1))) none none).bind fun z3 =>
      ((callD (vF P tab n) P false (.one (.flat (.slice 25))) 15 [.ptr s7, .sl 5 z3] h).bind fun r4 =>
        (cond ((((VS.len r4.1 : Nat) : Int) : Int) != 1)
          (some (.bool false, r4.2))
          ((ixV 1 r4.1 0).bind fun p5 =>
            ((ldV (.flat (.slice 5)) r4.2 p5).bind fun x6 =>
              ((callD (vF P tab n) P false (.one (.flat .bool)) 21 [.sl 5 x6, .sl 5 s0] r4.2).bind fun r7 =>
                (cond (!r7.1)
                  (some (.bool false, r7.2))
                  (L7_1 n n s0 s1 s5 s7 r4.1 0 r7.2))))))))) := by kernel_rfl
theorem L7_1_eq (n m : Nat) (s0 : VS) (s1 : Int) (s5 : VS) (s7 : VP) (s9 : VS) (s10 : Int) (h : VH) : L7_1 n (m + 1) s0 s1 s5 s7 s9 s10 h =
  ((ixV 1 s9 0).bind fun p1 =>
    ((ldV (.flat (.slice 5)) h p1).bind fun x2 =>
      (cond (decide ((s10 : Int) < ((VS.len x2 : Nat) : Int)))
        ((ixV 1 s9 0).bind fun p3 =>
          ((ldV (.flat (.slice 5)) h p3).bind fun x4 =>
            ((ixV 1 x4 s10).bind fun p5 =>
              ((stV h p5 [.int .u8 s1]).bind fun h6 =>
                (L7_1 n m s0 s1 s5 s7 s9 (IntKind.wrap .i64 (s10 + 1)) h6)))))
        ((callD (vF P tab n) P false (.one (.flat (.slice 25))) 15 [.ptr s7, .sl 5 s5] h).bind fun r7 =>
          (cond ((((VS.len r7.1 : Nat) : Int) : Int) == 1)
            ((ixV 1 r7.1 0).bind fun p8 =>
              ((ldV (.flat (.slice 5)) r7.2 p8).bind fun x9 =>
                ((callD (vF P tab n) P false (.one (.flat .bool)) 21 [.sl 5 x9, .sl 5 s0] r7.2).bind fun r10 =>
                  (cond r10.1
                    ((callD (vF P tab n) P false (.one (.flat (.slice 25))) 15 [.ptr .nil, .sl 5 s5] r10.2).bind fun r11 =>
                      (cond ((((VS.len r11.1 : Nat) : Int) : Int) == 0)
                        ((callD (vF P tab n) P false (.one (.flat .bool)) 17 [.ptr .nil] r11.2).bind fun r12 =>
                        (cond (!r12.1)
                        ((callD (vF P tab n) P false (.one (.flat (.int .i64))) 16 [.ptr .nil] r12.2).bind fun r13 =>
                        (some (.bool ((r13.1 : Int) == 0), r13.2)))
                        (some (.bool false, r12.2))))
                        (some (.bool false, r11.2))))
                    (some (.bool false, r10.2))))))
            (some (.bool false, r7.2))))))) := by kernel_rfl
theorem f7_eq (n : Nat) (a0 : VS) (a1 : Int) (h : VH) : bodyV P tab (vF P tab n) n 7 [.sl 5 a0, .int .u8 a1] h =
  ((callD (vF P tab n) P false (.one (.flat .bool)) 9 [] h).bind fun r1 =>
    (cond (!r1.1)
      ((callD (vF P tab n) P false (.one (.flat .bool)) 9 [] r1.2).bind fun r2 =>
        (some (.bool r2.1, r2.2)))
      (cond ((((VS.len a0 : Nat) : Int) : Int) == 0)
        ((callD (vF P tab n) P false (.one (.flat .bool)) 9 [] r1.2).bind fun r3 =>
          (some (.bool r3.1, r3.2)))
        (cond (decide ((((VS.len a0 : Nat) : Int) : Int) > 100))
          ((callD (vF P tab n) P false (.one (.flat .bool)) 9 [] r1.2).bind fun r4 =>
            (some (.bool r4.1, r4.2)))
          ((callD (vF P tab n) P false (.one (.flat (.slice 5))) 20 [.sl 5 a0] r1.2).bind fun r5 =>
            ((cutD r5.2 5 1 r5.1 none (some (IntKind.wrap .i64 (((VS.len r5.1 : Nat) : Int) - 1))) none).bind fun z6 =>
              ((callD (vF P tab n) P false (.one (.flat (.slice 5))) 11 [.sl 5 z6, .sl 5 .nil] r5.2).bind fun r7 =>
                ((callD (vF P tab n) P false (.one (.flat .ptr)) 13 [] r7.2).bind fun r8 =>
                  ((callD (vF P tab n) P false (.one (.flat (.slice 25))) 15 [.ptr r8.1, .sl 5 r7.1] r8.2).bind fun r9 =>
                    (L7_0 n n a0 a1 r5.1 r7.1 r8.1 0 r9.2)))))))))) := by kernel_rfl
/-! godown/godownlaw13.one -/
theorem f9_eq (n : Nat)  (h : VH) : bodyV P tab (vF P tab n) n 9 [] h =
  ((callD (vF P tab n) P false (.one (.flat .ptr)) 13 [] h).bind fun r1 =>
    ((callD (vF P tab n) P false (.one (.flat (.slice 25))) 15 [.ptr r1.1, .sl 5 (.hp r1.2.length 0 3)] (r1.2 ++ [.row 5 [.int .u8 0, .int .u8 1, .int .u8 97]])).bind fun r2 =>
      (if 25 = 25 ∧ isRowV (r2.2 ++ [.row 5 [.int .u8 97]]) r2.2.length 5 = true ∧ 5 < boxK then
        ((callD (vF P tab n) P false (.one (.flat (.slice 5))) 12 [.sl 5 (.hp r2.2.length 0 1)] (r2.2 ++ [.row 5 [.int .u8 97]])).bind fun r3 =>
          ((callD (vF P tab n) P false (.one (.flat .bool)) 21 [.sl 5 r3.1, .sl 5 (.hp r3.2.length 0 3)] (r3.2 ++ [.row 5 [.int .u8 0, .int .u8 1, .int .u8 97]])).bind fun r4 =>
            (cond r4.1
              (cond ((((VS.len r2.1 : Nat) : Int) : Int) == 1)
                ((ixV 1 r2.1 0).bind fun p5 =>
                  ((ldV (.flat (.slice 5)) r4.2 p5).bind fun x6 =>
                    (if 25 = 25 ∧ isRowV (r4.2 ++ [.row 5 [.int .u8 97]]) r4.2.length 5 = true ∧ 5 < boxK then
                      ((callD (vF P tab n) P false (.one (.flat .bool)) 21 [.sl 5 x6, .sl 5 (.hp r4.2.length 0 1)] (r4.2 ++ [.row 5 [.int .u8 97]])).bind fun r7 =>
                        (some (.bool r7.1, r7.2)))
                      else none)))
                (some (.bool false, r4.2)))
              (some (.bool false, r4.2)))))
        else none))) := by kernel_rfl
/-! godown/godownref01.Join -/
theorem f11_eq (n : Nat) (a0 : VS) (a1 : VS) (h : VH) : bodyV P tab (vF P tab n) n 11 [.sl 5 a0, .sl 5 a1] h =
  ((appD false h 1 1 5 .nil a0).bind fun r1 =>
    ((appD false r1.2 1 1 5 r1.1 a1).bind fun r2 =>
      (some (.sl 5 r2.1, r2.2)))) := by kernel_rfl
/-! godown/frame.Frame -/
theorem f12_eq (n : Nat) (a0 : VS) (h : VH) : bodyV P tab (vF P tab n) n 12 [.sl 5 a0] h =
  ((strV (h ++ [.row (46 + boxK) [.sl 5 .nil]]) 5 a0).bind fun z1 =>
    ((callD (vF P tab n) P false (.one (.flat .ptr)) 22 [.ptr (.ob h.length 0), .str z1] (h ++ [.row (46 + boxK) [.sl 5 .nil]])).bind fun r2 =>
      ((callD (vF P tab n) P false (.one (.flat (.slice 5))) 23 [.ptr r2.1] r2.2).bind fun r3 =>
        (some (.sl 5 r3.1, r3.2))))) := by kernel_rfl
/-! godown/frame.New -/
theorem f13_eq (n : Nat)  (h : VH) : bodyV P tab (vF P tab n) n 13 [] h =
  (some (.ptr (.ob h.length 0), (h ++ [.row (50 + boxK) [.sl 5 .nil, .bool false]]))) := by kernel_rfl
/-! (*godown/frame.Stream).Feed -/
noncomputable def L15_0 (n m : Nat) (s0 : VP) (s5 : VS) (h : VH) : VRes := loopAt P tab 15 [1, 1, 1, 1, 0, 0] n [] m [.ptr s0, .undef, .undef, .undef, .undef, .sl 25 s5, .undef, .undef, .undef, .undef, .undef, .undef, .undef, .undef, .undef, .undef, .undef, .undef, .undef, .undef, .undef, .undef, .undef, .undef, .undef, .undef, .undef, .undef, .undef, .undef, .undef, .undef, .undef, .undef, .undef, .undef] h
theorem L15_0_eq (n m : Nat) (s0 : VP) (s5 : VS) (h : VH) : L15_0 n (m + 1) s0 s5 h =
  (cond (!VP.isNil s0)
    ((callD (vF P tab n) P false (.tup [(.flat (.slice 5)), (.flat .bool)]) 25 [.ptr s0] h).bind fun r1 =>
      (cond (!r1.1.2.1)
        (some (.sl 25 s5, r1.2))
        ((appD false (r1.2 ++ [.row 25 [.sl 5 r1.1.1]]) 1 24 25 s5 (.hp r1.2.length 0 1)).bind fun r2 =>
          (L15_0 n m s0 r2.1 r2.2))))
    (some (.sl 25 s5, h))) := by kernel_rfl
theorem f15_eq (n : Nat) (a0 : VP) (a1 : VS) (h : VH) : bodyV P tab (vF P tab n) n 15 [.ptr a0, .sl 5 a1] h =
  ((callD (vF P tab n) P false (.one (.flat .bool)) 17 [.ptr a0] h).bind fun r1 =>
    (cond r1.1
      (some (.sl 25 .nil, r1.2))
      (cond (!VP.isNil a0)
        ((nn a0).bind fun p2 =>
          ((atO p2 0).bind fun p3 =>
            ((ldV (.flat (.slice 5)) r1.2 p3).bind fun x4 =>
              ((callD (vF P tab n) P false (.one (.flat (.slice 5))) 24 [.sl 5 x4] r1.2).bind fun r5 =>
                ((appD false r5.2 1 1 5 r5.1 a1).bind fun r6 =>
                  ((nn a0).bind fun p7 =>
                    ((atO p7 0).bind fun p8 =>
                      ((stV r6.2 p8 [.sl 5 r6.1]).bind fun h9 =>
                        (L15_0 n n a0 .nil h9)))))))))
        (L15_0 n n a0 .nil r1.2)))) := by kernel_rfl
/-! (*godown/frame.Stream).Held -/
theorem f16_eq (n : Nat) (a0 : VP) (h : VH) : bodyV P tab (vF P tab n) n 16 [.ptr a0] h =
  (cond (VP.isNil a0)
    (some (.int .i64 0, h))
    ((nn a0).bind fun p1 =>
      ((atO p1 0).bind fun p2 =>
        ((ldV (.flat (.slice 5)) h p2).bind fun x3 =>
          (some (.int .i64 ((VS.len x3 : Nat) : Int), h)))))) := by kernel_rfl
/-! (*godown/frame.Stream).Broken -/
theorem f17_eq (n : Nat) (a0 : VP) (h : VH) : bodyV P tab (vF P tab n) n 17 [.ptr a0] h =
  (cond (!VP.isNil a0)
    ((nn a0).bind fun p1 =>
      ((atO p1 1).bind fun p2 =>
        ((ldV (.flat .bool) h p2).bind fun x3 =>
          (some (.bool x3, h)))))
    (some (.bool false, h))) := by kernel_rfl
/-! godown/godownref13.Frame -/
theorem f20_eq (n : Nat) (a0 : VS) (h : VH) : bodyV P tab (vF P tab n) n 20 [.sl 5 a0] h =
  ((quoI .i64 ((VS.len a0 : Nat) : Int) 256).bind fun x1 =>
    ((remI ((VS.len a0 : Nat) : Int) 256).bind fun x2 =>
      ((callD (vF P tab n) P true (.one (.flat (.slice 5))) 11 [.sl 5 (.fz [[.int .u8 (IntKind.wrap .u8 x1)], [.int .u8 (IntKind.wrap .u8 x2)]] (.ex 2)), .sl 5 a0] h).bind fun r3 =>
        (some (.sl 5 r3.1, r3.2))))) := by kernel_rfl
/-! godown/godownref01.Bytes -/
noncomputable def L21_0 (n m : Nat) (s0 : VS) (s1 : VS) (s5 : Int) (h : VH) : VRes := loopAt P tab 21 [1, 1, 0, 1, 0] n [] m [.sl 5 s0, .sl 5 s1, .undef, .undef, .undef, .int .i64 s5, .undef, .undef, .undef, .undef, .undef, .undef, .undef, .undef, .undef, .undef, .undef, .undef, .undef, .undef, .undef, .undef, .undef, .undef, .undef, .undef] h
theorem L21_0_eq (n m : Nat) (s0 : VS) (s1 : VS) (s5 : Int) (h : VH) : L21_0 n (m + 1) s0 s1 s5 h =
  (cond (decide ((s5 : Int) < ((VS.len s0 : Nat) : Int)))
    ((ixV 1 s0 s5).bind fun p1 =>
      ((ldV (.flat (.int .u8)) h p1).bind fun x2 =>
        ((ixV 1 s1 s5).bind fun p3 =>
          ((ldV (.flat (.int .u8)) h p3).bind fun x4 =>
            (cond ((x2 : Int) != x4)
              (some (.bool false, h))
              (L21_0 n m s0 s1 (IntKind.wrap .i64 (s5 + 1)) h))))))
    (some (.bool true, h))) := by kernel_rfl
theorem f21_eq (n : Nat) (a0 : VS) (a1 : VS) (h : VH) : bodyV P tab (vF P tab n) n 21 [.sl 5 a0, .sl 5 a1] h =
  (cond ((((VS.len a0 : Nat) : Int) : Int) != ((VS.len a1 : Nat) : Int))
    (some (.bool false, h))
    (L21_0 n n a0 a1 0 h)) := by kernel_rfl
/-! (*godown/wire.Writer).Text -/
theorem f22_eq (n : Nat) (a0 : VP) (a1 : ByteArray) (h : VH) : bodyV P tab (vF P tab n) n 22 [.ptr a0, .str a1] h =
  ((callD (vF P tab n) P false (.one (.flat .ptr)) 26 [.ptr a0, .int .i64 ((a1).size : Int)] h).bind fun r1 =>
    ((callD (vF P tab n) P false (.one (.flat .ptr)) 27 [.ptr r1.1, .sl 5 (.fz (bytesE a1) .no)] r1.2).bind fun r2 =>
      (some (.ptr r2.1, r2.2)))) := by kernel_rfl
/-! (*godown/wire.Writer).Bytes -/
theorem f23_eq (n : Nat) (a0 : VP) (h : VH) : bodyV P tab (vF P tab n) n 23 [.ptr a0] h =
  (cond (VP.isNil a0)
    (some (.sl 5 .nil, h))
    ((nn a0).bind fun p1 =>
      ((atO p1 0).bind fun p2 =>
        ((ldV (.flat (.slice 5)) h p2).bind fun x3 =>
          ((callD (vF P tab n) P false (.one (.flat (.slice 5))) 24 [.sl 5 x3] h).bind fun r4 =>
            (some (.sl 5 r4.1, r4.2))))))) := by kernel_rfl
/-! bytes.Clone -/
theorem f24_eq (n : Nat) (a0 : VS) (h : VH) : bodyV P tab (vF P tab n) n 24 [.sl 5 a0] h =
  (cond (VS.isNil a0)
    (some (.sl 5 .nil, h))
    ((appD false (h ++ [.row 5 []]) 1 1 5 (.hp h.length 0 0) a0).bind fun r1 =>
      (some (.sl 5 r1.1, r1.2)))) := by kernel_rfl
/-! (*godown/frame.Stream).next -/
theorem f25_eq (n : Nat) (a0 : VP) (h : VH) : bodyV P tab (vF P tab n) n 25 [.ptr a0] h =
  ((nn a0).bind fun p1 =>
    ((atO p1 0).bind fun p2 =>
      ((ldV (.flat (.slice 5)) h p2).bind fun x3 =>
        (cond (decide ((((VS.len x3 : Nat) : Int) : Int) < 2))
          (some (.tup [.sl 5 .nil, .bool false], h))
          ((nn a0).bind fun p4 =>
            ((atO p4 0).bind fun p5 =>
              ((ldV (.flat (.slice 5)) h p5).bind fun x6 =>
                ((cutD h 5 1 x6 none (some 2) none).bind fun z7 =>
                  ((callD (vF P tab n) P false (.one (.flat .ptr)) 28 [.sl 5 z7] h).bind fun r8 =>
                    ((callD (vF P tab n) P false (.one (.flat (.int .i64))) 29 [.ptr r8.1] r8.2).bind fun r9 =>
                      (cond ((r9.1 : Int) == 0)
                        ((nn a0).bind fun p10 =>
                        ((atO p10 0).bind fun p11 =>
                        ((stV r9.2 p11 [.sl 5 .nil]).bind fun h12 =>
                        ((nn a0).bind fun p13 =>
                        ((atO p13 1).bind fun p14 =>
                        ((stV h12 p14 [.bool true]).bind fun h15 =>
                        (some (.tup [.sl 5 .nil, .bool false], h15))))))))
                        (cond (decide ((r9.1 : Int) > 2048))
                        ((nn a0).bind fun p16 =>
                        ((atO p16 0).bind fun p17 =>
                        ((stV r9.2 p17 [.sl 5 .nil]).bind fun h18 =>
                        ((nn a0).bind fun p19 =>
                        ((atO p19 1).bind fun p20 =>
                        ((stV h18 p20 [.bool true]).bind fun h21 =>
                        (some (.tup [.sl 5 .nil, .bool false], h21))))))))
                        ((nn a0).bind fun p22 =>
                        ((atO p22 0).bind fun p23 =>
                        ((ldV (.flat (.slice 5)) r9.2 p23).bind fun x24 =>
                        (cond (decide ((((VS.len x24 : Nat) : Int) : Int) < (IntKind.wrap .i64 (2 + r9.1))))
                        (some (.tup [.sl 5 .nil, .bool false], r9.2))
                        ((nn a0).bind fun p25 =>
                        ((atO p25 0).bind fun p26 =>
                        ((ldV (.flat (.slice 5)) r9.2 p26).bind fun x27 =>
                        ((cutD r9.2 5 1 x27 (some 2) (some (IntKind.wrap .i64 (2 + r9.1))) none).bind fun z28 =>
                        ((callD (vF P tab n) P false (.one (.flat (.slice 5))) 24 [.sl 5 z28] r9.2).bind fun r29 =>
                        ((nn a0).bind fun p30 =>
                        ((atO p30 0).bind fun p31 =>
                        ((ldV (.flat (.slice 5)) r29.2 p31).bind fun x32 =>
                        ((cutD r29.2 5 1 x32 (some (IntKind.wrap .i64 (2 + r9.1))) none none).bind fun z33 =>
                        ((nn a0).bind fun p34 =>
                        ((atO p34 0).bind fun p35 =>
                        ((stV r29.2 p35 [.sl 5 z33]).bind fun h36 =>
                        (some (.tup [.sl 5 r29.1, .bool true], h36)))))))))))))))))))))))))))))) := by kernel_rfl
/-! (*godown/wire.Writer).Num -/
theorem f26_eq (n : Nat) (a0 : VP) (a1 : Int) (h : VH) : bodyV P tab (vF P tab n) n 26 [.ptr a0, .int .i64 a1] h =
  ((shrI .i64 a1 8).bind fun x1 =>
    ((callD (vF P tab n) P false (.one (.flat .ptr)) 27 [.ptr a0, .sl 5 (.fz [[.int .u8 (IntKind.wrap .u8 x1)], [.int .u8 (IntKind.wrap .u8 a1)]] (.ex 2))] h).bind fun r2 =>
      (some (.ptr r2.1, r2.2)))) := by kernel_rfl
/-! (*godown/wire.Writer).lay -/
theorem f27_eq (n : Nat) (a0 : VP) (a1 : VS) (h : VH) : bodyV P tab (vF P tab n) n 27 [.ptr a0, .sl 5 a1] h =
  (cond (!VP.isNil a0)
    ((nn a0).bind fun p1 =>
      ((atO p1 0).bind fun p2 =>
        ((ldV (.flat (.slice 5)) h p2).bind fun x3 =>
          ((appD true h 1 1 5 x3 a1).bind fun r4 =>
            ((nn a0).bind fun p5 =>
              ((atO p5 0).bind fun p6 =>
                ((stV r4.2 p6 [.sl 5 r4.1]).bind fun h7 =>
                  (some (.ptr a0, h7)))))))))
    (some (.ptr a0, h))) := by kernel_rfl
/-! godown/wire.NewReader -/
theorem f28_eq (n : Nat) (a0 : VS) (h : VH) : bodyV P tab (vF P tab n) n 28 [.sl 5 a0] h =
  ((callD (vF P tab n) P true (.one (.flat (.slice 5))) 24 [.sl 5 a0] h).bind fun r1 =>
    (some (.ptr (.ob r1.2.length 0), (r1.2 ++ [.row (58 + boxK) [.sl 5 r1.1, .bool false]])))) := by kernel_rfl
/-! (*godown/wire.Reader).Num -/
theorem f29_eq (n : Nat) (a0 : VP) (h : VH) : bodyV P tab (vF P tab n) n 29 [.ptr a0] h =
  ((callD (vF P tab n) P false (.one (.flat (.int .u64))) 30 [.ptr a0, .int .i64 2] h).bind fun r1 =>
    (some (.int .i64 (IntKind.wrap .i64 r1.1), r1.2))) := by kernel_rfl
/-! (*godown/wire.Reader).number -/
noncomputable def L30_0 (n m : Nat) (s5 : Int) (s10 : VS) (s11 : Int) (s12 : Int) (h : VH) : VRes := loopAt P tab 30 [1, 1, 0, 1, 0] n [] m [.undef, .undef, .undef, .undef, .undef, .int .u64 s5, .undef, .undef, .undef, .undef, .sl 5 s10, .int .i64 s11, .int .i64 s12, .undef, .undef, .undef, .undef, .undef, .undef, .undef, .undef, .undef, .undef] h
theorem L30_0_eq (n m : Nat) (s5 : Int) (s10 : VS) (s11 : Int) (s12 : Int) (h : VH) : L30_0 n (m + 1) s5 s10 s11 s12 h =
  (cond (decide ((s12 : Int) < s11))
    ((ixV 1 s10 s12).bind fun p1 =>
      ((ldV (.flat (.int .u8)) h p1).bind fun x2 =>
        ((shlI .u64 s5 8).bind fun x3 =>
          (L30_0 n m (bitI .or .u64 x3 (IntKind.wrap .u64 x2)) s10 s11 (IntKind.wrap .i64 (s12 + 1)) h))))
    (some (.int .u64 s5, h))) := by kernel_rfl
theorem f30_eq (n : Nat) (a0 : VP) (a1 : Int) (h : VH) : bodyV P tab (vF P tab n) n 30 [.ptr a0, .int .i64 a1] h =
  ((callD (vF P tab n) P false (.one (.flat (.slice 5))) 31 [.ptr a0, .int .i64 a1] h).bind fun r1 =>
    (L30_0 n n 0 r1.1 ((VS.len r1.1 : Nat) : Int) 0 r1.2)) := by kernel_rfl
/-! (*godown/wire.Reader).take -/
theorem f31_eq (n : Nat) (a0 : VP) (a1 : Int) (h : VH) : bodyV P tab (vF P tab n) n 31 [.ptr a0, .int .i64 a1] h =
  ((callD (vF P tab n) P false (.one (.flat .bool)) 32 [.ptr a0] h).bind fun r1 =>
    (cond (!r1.1)
      (some (.sl 5 .nil, r1.2))
      ((nn a0).bind fun p2 =>
        ((atO p2 0).bind fun p3 =>
          ((ldV (.flat (.slice 5)) r1.2 p3).bind fun x4 =>
            (cond (decide ((a1 : Int) > ((VS.len x4 : Nat) : Int)))
              ((callD (vF P tab n) P false (.tup []) 33 [.ptr a0] r1.2).bind fun r5 =>
                (some (.sl 5 .nil, r5.2)))
              ((nn a0).bind fun p6 =>
                ((atO p6 0).bind fun p7 =>
                  ((ldV (.flat (.slice 5)) r1.2 p7).bind fun x8 =>
                    ((cutD r1.2 5 1 x8 none (some a1) (some a1)).bind fun z9 =>
                      ((nn a0).bind fun p10 =>
                        ((atO p10 0).bind fun p11 =>
                        ((ldV (.flat (.slice 5)) r1.2 p11).bind fun x12 =>
                        ((cutD r1.2 5 1 x12 (some a1) none none).bind fun z13 =>
                        ((nn a0).bind fun p14 =>
                        ((atO p14 0).bind fun p15 =>
                        ((stV r1.2 p15 [.sl 5 z13]).bind fun h16 =>
                        (some (.sl 5 z9, h16))))))))))))))))))) := by kernel_rfl
/-! (*godown/wire.Reader).OK -/
theorem f32_eq (n : Nat) (a0 : VP) (h : VH) : bodyV P tab (vF P tab n) n 32 [.ptr a0] h =
  (cond (!VP.isNil a0)
    ((nn a0).bind fun p1 =>
      ((atO p1 1).bind fun p2 =>
        ((ldV (.flat .bool) h p2).bind fun x3 =>
          (some (.bool (!x3), h)))))
    (some (.bool false, h))) := by kernel_rfl
/-! (*godown/wire.Reader).give -/
theorem f33_eq (n : Nat) (a0 : VP) (h : VH) : bodyV P tab (vF P tab n) n 33 [.ptr a0] h =
  ((nn a0).bind fun p1 =>
    ((atO p1 0).bind fun p2 =>
      ((stV h p2 [.sl 5 .nil]).bind fun h3 =>
        ((nn a0).bind fun p4 =>
          ((atO p4 1).bind fun p5 =>
            ((stV h3 p5 [.bool true]).bind fun h6 =>
              (some (.tup [], h6)))))))) := by kernel_rfl
end Go.Proofs.Ytaifjlpgggimaaa
