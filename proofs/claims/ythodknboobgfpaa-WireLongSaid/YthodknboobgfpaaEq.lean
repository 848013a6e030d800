import Derived.Test.YthodknboobgfpaaVb
import Derived.Test.YthodknboobgfpaaProg
set_option maxRecDepth 100000
set_option maxHeartbeats 0
set_option linter.unusedVariables false
set_option linter.unusedSimpArgs false
namespace Go.Proofs.Ythodknboobgfpaa
open Go.Proofs.Ythodknboobgfpaa.Sh Go.Proofs.Ythodknboobgfpaa.Sh.V
def notes : List (Nat × Notes) := [(3, ⟨[(23, .order [(0, true), (2, true), (3, true), (4, true), (5, true), (1, false), (6, true)])], [(6, [0, 2, 3, 4, 5, 9, 10, 11, 12, 13, 14, 15, 16, 17, 18, 19, 20, 21, 22, 23, 24, 25, 26, 27, 28, 29, 30, 31, 32, 33, 34, 35, 36, 37, 38, 39, 40, 41, 42, 43, 44, 45, 46, 47, 48, 49, 50, 51, 52, 53, 54, 55, 56, 57, 58, 59, 60, 61, 62, 63, 64, 65, 66, 67, 68, 69, 70, 71, 72, 73, 74, 75, 76, 77, 78, 79, 80, 81, 82, 83]), (11, [0, 2, 3, 4, 5, 8, 11, 12, 13, 14, 15, 16, 17, 18, 19, 20, 21, 22, 23, 24, 25, 26, 27, 28, 29, 30, 31, 32, 33, 34, 35, 36, 37, 38, 39, 40, 41, 42, 43, 44, 45, 46, 47, 48, 49, 50, 51, 52, 53, 54, 55, 56, 57, 58, 59, 60, 61, 62, 63, 64, 65, 66, 67, 68, 69, 70, 71, 72, 73, 74, 75, 76, 77, 78, 79, 80, 81, 82, 83]), (17, [0, 2, 3, 4, 5, 7, 8, 9, 10, 14, 15, 16, 17, 18, 19, 20, 21, 22, 23, 24, 25, 26, 27, 28, 29, 30, 31, 32, 33, 34, 35, 36, 37, 38, 39, 40, 41, 42, 43, 44, 45, 46, 47, 48, 49, 50, 51, 52, 53, 54, 55, 56, 57, 58, 59, 60, 61, 62, 63, 64, 65, 66, 67, 68, 69, 70, 71, 72, 73, 74, 75, 76, 77, 78, 79, 80, 81, 82, 83]), (21, [0, 1, 2, 3, 4, 5, 7, 8, 9, 10, 11, 13, 15, 16, 17, 18, 19, 20, 21, 22, 23, 24, 25, 26, 27, 28, 29, 30, 31, 32, 33, 34, 35, 36, 37, 38, 39, 40, 41, 42, 43, 44, 45, 46, 47, 48, 49, 50, 51, 52, 53, 54, 55, 56, 57, 58, 59, 60, 61, 62, 63, 64, 65, 66, 67, 68, 69, 70, 71, 72, 73, 74, 75, 76, 77, 78, 79, 80, 81, 82, 83])], []⟩),
  (4, ⟨[(9, .order [(0, true), (1, true), (2, true), (3, true), (4, true), (5, true), (6, true), (8, true), (9, true), (10, true), (11, true), (12, true), (13, true), (14, true), (7, false), (15, false), (16, false), (17, true)]), (18, .order [(0, true), (1, true), (2, true), (3, true), (5, true), (6, true), (7, true), (8, true), (4, false), (9, true), (10, true), (11, true), (12, true), (14, true), (15, true), (16, true), (17, true), (18, true), (13, false), (19, true), (20, true), (21, true), (22, true), (25, true), (23, false), (24, true), (26, false), (27, true), (28, true)])], [(5, [0, 2, 3, 4, 8, 9, 10, 11, 12, 13, 14, 15, 16, 17, 18, 19, 20, 21, 22, 23, 24, 25, 26, 27, 28, 29, 30, 31, 32, 33, 34, 35, 36, 37, 38, 39, 40, 41, 42, 43, 44, 45, 46, 47, 48, 49, 50, 51, 52, 53, 54, 55, 56, 57, 58, 59, 60, 61, 62, 63, 64, 65, 66, 67, 68, 69, 70, 71, 72, 73, 74, 75, 76, 77, 78, 79, 80, 81, 82, 83, 84, 85, 86, 87, 88, 89, 90, 91, 92, 93, 94, 95, 96, 97, 98, 99, 100, 101, 102, 103, 104, 105, 106, 107, 108, 109, 110, 111, 112, 113])], []⟩),
  (6, ⟨[(15, .order [(0, true), (2, true), (3, true), (1, false), (4, true), (5, true), (6, true), (8, true), (7, false), (9, false), (10, true), (11, true), (12, true), (13, false), (14, true), (15, true), (16, true)])], [(5, [0, 3, 4, 5, 6, 9, 10, 11, 12, 13, 14, 15, 16, 17, 18, 19, 20, 21, 22, 23, 24, 25, 26, 27, 28, 29, 30, 31, 32, 33, 34, 35, 36, 37, 38, 39, 40, 41, 42, 43, 44, 45, 46, 47, 48, 49, 50, 51, 52, 53, 54, 55, 56, 57, 58, 59, 60, 61, 62, 63, 64, 65, 66, 67]), (10, [0, 2, 3, 4, 5, 6, 8, 11, 12, 13, 14, 15, 16, 17, 18, 19, 20, 21, 22, 23, 24, 25, 26, 27, 28, 29, 30, 31, 32, 33, 34, 35, 36, 37, 38, 39, 40, 41, 42, 43, 44, 45, 46, 47, 48, 49, 50, 51, 52, 53, 54, 55, 56, 57, 58, 59, 60, 61, 62, 63, 64, 65, 66, 67])], []⟩),
  (7, ⟨[(12, .order [(0, true), (2, true), (3, true), (1, false), (4, false), (5, true)]), (14, .order [(0, true), (2, true), (3, true), (4, true), (1, false), (5, true), (6, true)]), (16, .order [(0, true), (2, true), (3, true), (4, true), (5, true), (1, false), (6, true), (7, true)]), (18, .order [(0, true), (2, true), (3, true), (1, false), (4, true), (5, true)]), (20, .order [(0, true), (2, true), (3, true), (1, false), (4, true), (5, true)])], [(8, [1, 2, 3, 4, 7, 8, 9, 10, 11, 12, 13, 14, 15, 16, 17, 18, 19, 20, 21, 22, 23, 24, 25, 26, 27, 28, 29, 30, 31, 32, 33, 34, 35, 36, 37, 38, 39, 40, 41, 42, 43, 44, 45, 46, 47, 48, 49, 50, 51, 52, 53, 54, 55, 56, 57, 58, 59, 60, 61, 62, 63, 64, 65, 66, 67, 68, 69, 70, 71, 72, 73, 74, 75, 76, 77, 78, 79, 80, 81, 82, 83, 84, 85, 86, 87, 88, 89, 90, 91])], []⟩),
  (10, ⟨[], [(2, [1, 2, 4, 5, 6, 7, 8, 9, 10, 11, 12, 13, 14, 15, 16, 17, 18, 19, 20, 21, 22, 23, 24, 25, 26, 27, 28, 29, 30, 31, 32, 33, 34, 35, 36, 37, 38, 39, 40, 41, 42, 43, 44, 45, 46, 47, 48, 49]), (7, [1, 2, 5, 6, 7, 8, 9, 10, 11, 12, 13, 14, 15, 16, 17, 18, 19, 20, 21, 22, 23, 24, 25, 26, 27, 28, 29, 30, 31, 32, 33, 34, 35, 36, 37, 38, 39, 40, 41, 42, 43, 44, 45, 46, 47, 48, 49])], []⟩),
  (11, ⟨[], [(4, [1, 2, 3, 7, 8, 9, 10, 11, 12, 13, 14, 15, 16, 17, 18, 19, 20, 21, 22, 23, 24, 25, 26, 27, 28, 29, 30, 31, 32, 33, 34, 35, 36, 37, 38, 39, 40, 41, 42, 43, 44, 45, 46, 47, 48, 49, 50, 51, 52, 53, 54, 55, 56, 57, 58, 59, 60, 61, 62, 63, 64, 65, 66, 67, 68, 69, 70, 71, 72, 73, 74, 75, 76, 77, 78, 79, 80, 81, 82])], []⟩),
  (17, ⟨[], [(4, [0, 1, 2, 3, 4, 8, 9, 10, 11, 12, 13, 14, 15, 16, 17, 18, 19, 20, 21, 22, 23, 24, 25])], []⟩),
  (22, ⟨[], [(4, [2, 3, 4, 6, 7, 8, 9, 10, 11, 12, 13, 14, 15, 16, 17, 18, 19, 20, 21, 22, 23, 24, 25])], []⟩),
  (23, ⟨[], [(6, [1, 2, 3, 4, 5, 7, 8, 9, 10, 11, 12, 13, 14, 15, 16, 17, 18, 19, 22, 23, 24, 25, 26, 27, 28, 29, 30, 31, 32, 33])], []⟩),
  (24, ⟨[], [(6, [1, 2, 3, 4, 8, 9, 10, 11, 12, 13, 14, 15, 16, 17, 18, 19, 20, 21, 22, 23, 24, 25, 26, 27, 28, 29, 30, 31, 32, 33, 34, 35, 36, 37, 38, 39, 40, 41])], []⟩),
  (30, ⟨[], [(3, [1, 2, 3, 4, 5, 6, 7, 8, 9, 10, 11, 15, 16, 17, 18, 19, 20, 21, 22])], []⟩),
  (31, ⟨[], [(4, [2, 3, 4, 6, 7, 8, 9, 10, 11, 12, 13, 14, 15, 16, 17, 18, 19, 20, 21, 22, 23, 24, 25])], []⟩),
  (33, ⟨[], [(2, [2, 3, 4, 6, 7, 8, 9, 10, 11, 12, 13, 14, 15, 16, 17])], []⟩),
  (35, ⟨[], [(3, [1, 2, 5, 6, 7, 8, 9, 10, 11, 12, 13, 14, 15, 16, 17, 18])], []⟩),
  (36, ⟨[], [(3, [1, 2, 5, 6, 7, 8, 9, 10, 11, 12, 13, 14, 15, 16, 17, 18, 19, 20, 21, 22])], []⟩),
  (39, ⟨[], [(3, [0, 1, 2, 3, 4, 6, 7, 8, 9, 13, 14, 15, 16, 17, 18, 19, 20, 21, 22])], []⟩)]
noncomputable abbrev P : Program := Try.prog
def reach : List Nat := [3, 4, 5, 6, 7, 8, 9, 10, 11, 12, 13, 14, 15, 16, 17, 18, 19, 20, 21, 22, 23, 24, 25, 26, 27, 28, 29, 30, 31, 32, 33, 34, 35, 36, 37, 38, 39, 40, 41, 42]
def noteOf (f : FuncId) : Notes := (find notes f).getD ⟨[], [], []⟩
noncomputable def tab : VTab := mkV P noteOf reach [] (fun f => !among [38] f) (among [9, 10, 11, 22, 28, 31, 34, 35, 36]) (fun f g => among2 [(6, 13), (7, 13), (8, 13), (9, 13), (11, 13), (14, 38)] f g) (fun f => !among [6] f)
/-! godown/godownlaw04.WireOwn -/
noncomputable def L3_0 (n m : Nat) (s1 : Int) (s6 : VS) (s7 : Nat) (s8 : Int) (h : VH) : VRes := loopAt P tab 3 [1, 1, 1, 1, 0, 1, 0] n [] m [.undef, .int .u8 s1, .undef, .undef, .undef, .undef, .sl 5 s6, .ptr (.ob s7 0), .int .i64 s8, .undef, .undef, .undef, .undef, .undef, .undef, .undef, .undef, .undef, .undef, .undef, .undef, .undef, .undef, .undef, .undef, .undef, .undef, .undef, .undef, .undef, .undef, .undef, .undef, .undef, .undef, .undef, .undef, .undef, .undef, .undef, .undef, .undef, .undef, .undef, .undef, .undef, .undef, .undef, .undef, .undef, .undef, .undef, .undef, .undef, .undef, .undef, .undef, .undef, .undef, .undef, .undef, .undef, .undef, .undef, .undef, .undef, .undef, .undef, .undef, .undef, .undef, .undef, .undef, .undef, .undef, .undef, .undef, .undef, .undef, .undef, .undef, .undef, .undef, .undef] h
noncomputable def L3_1 (n m : Nat) (s1 : Int) (s6 : VS) (s7 : Nat) (s9 : VS) (s10 : Int) (h : VH) : VRes := loopAt P tab 3 [1, 1, 1, 1, 1, 1, 0, 1, 0] n [] m [.undef, .int .u8 s1, .undef, .undef, .undef, .undef, .sl 5 s6, .ptr (.ob s7 0), .undef, .sl 5 s9, .int .i64 s10, .undef, .undef, .undef, .undef, .undef, .undef, .undef, .undef, .undef, .undef, .undef, .undef, .undef, .undef, .undef, .undef, .undef, .undef, .undef, .undef, .undef, .undef, .undef, .undef, .undef, .undef, .undef, .undef, .undef, .undef, .undef, .undef, .undef, .undef, .undef, .undef, .undef, .undef, .undef, .undef, .undef, .undef, .undef, .undef, .undef, .undef, .undef, .undef, .undef, .undef, .undef, .undef, .undef, .undef, .undef, .undef, .undef, .undef, .undef, .undef, .undef, .undef, .undef, .undef, .undef, .undef, .undef, .undef, .undef, .undef, .undef, .undef, .undef] h
noncomputable def L3_2 (n m : Nat) (s1 : Int) (s6 : VS) (s11 : VS) (s12 : VP) (s13 : Int) (h : VH) : VRes := loopAt P tab 3 [1, 1, 1, 1, 1, 1, 1, 1, 1, 0, 1, 0] n [] m [.undef, .int .u8 s1, .undef, .undef, .undef, .undef, .sl 5 s6, .undef, .undef, .undef, .undef, .sl 5 s11, .ptr s12, .int .i64 s13, .undef, .undef, .undef, .undef, .undef, .undef, .undef, .undef, .undef, .undef, .undef, .undef, .undef, .undef, .undef, .undef, .undef, .undef, .undef, .undef, .undef, .undef, .undef, .undef, .undef, .undef, .undef, .undef, .undef, .undef, .undef, .undef, .undef, .undef, .undef, .undef, .undef, .undef, .undef, .undef, .undef, .undef, .undef, .undef, .undef, .undef, .undef, .undef, .undef, .undef, .undef, .undef, .undef, .undef, .undef, .undef, .undef, .undef, .undef, .undef, .undef, .undef, .undef, .undef, .undef, .undef, .undef, .undef, .undef, .undef] h
noncomputable def L3_3 (n m : Nat) (s6 : VS) (s12 : VP) (s14 : Int) (h : VH) : VRes := loopAt P tab 3 [1, 1, 1, 1, 1, 1, 1, 1, 1, 1, 0, 1, 0] n [] m [.undef, .undef, .undef, .undef, .undef, .undef, .sl 5 s6, .undef, .undef, .undef, .undef, .undef, .ptr s12, .undef, .int .i64 s14, .undef, .undef, .undef, .undef, .undef, .undef, .undef, .undef, .undef, .undef, .undef, .undef, .undef, .undef, .undef, .undef, .undef, .undef, .undef, .undef, .undef, .undef, .undef, .undef, .undef, .undef, .undef, .undef, .undef, .undef, .undef, .undef, .undef, .undef, .undef, .undef, .undef, .undef, .undef, .undef, .undef, .undef, .undef, .undef, .undef, .undef, .undef, .undef, .undef, .undef, .undef, .undef, .undef, .undef, .undef, .undef, .undef, .undef, .undef, .undef, .undef, .undef, .undef, .undef, .undef, .undef, .undef, .undef, .undef] h
theorem L3_0_eq (n m : Nat) (s1 : Int) (s6 : VS) (s7 : Nat) (s8 : Int) (h : VH) : L3_0 n (m + 1) s1 s6 s7 s8 h =
  (cond (decide ((s8 : Int) < ((VS.len s6 : Nat) : Int)))
    ((ixV 1 s6 s8).bind fun p1 =>
      ((ldV (.flat (.int .u8)) h p1).bind fun x2 =>
        ((callD (vF P tab n) P false (.one (.flat .ptr)) 12 [.ptr (.ob s7 0), .int .u8 x2] h).bind fun r3 =>
          (L3_0 n m s1 s6 s7 (IntKind.wrap .i64 (s8 + 1)) r3.2))))
    ((callD (vF P tab n) P false (.one (.flat (.slice 5))) 13 [.ptr (.ob s7 0)] h).bind fun r4 =>
      (L3_1 n n s1 s6 s7 r4.1 0 r4.2))) := by kernel_rfl
theorem L3_1_eq (n m : Nat) (s1 : Int) (s6 : VS) (s7 : Nat) (s9 : VS) (s10 : Int) (h : VH) : L3_1 n (m + 1) s1 s6 s7 s9 s10 h =
  (cond (decide ((s10 : Int) < ((VS.len s9 : Nat) : Int)))
    ((ixV 1 s9 s10).bind fun p1 =>
      ((stV h p1 [.int .u8 s1]).bind fun h2 =>
        (L3_1 n m s1 s6 s7 s9 (IntKind.wrap .i64 (s10 + 1)) h2)))
    ((callD (vF P tab n) P false (.one (.flat (.slice 5))) 13 [.ptr (.ob s7 0)] h).bind fun r3 =>
      ((callD (vF P tab n) P false (.one (.flat .ptr)) 14 [.sl 5 r3.1] r3.2).bind fun r4 =>
        (L3_2 n n s1 s6 r3.1 r4.1 0 r4.2)))) := by kernel_rfl
theorem L3_2_eq (n m : Nat) (s1 : Int) (s6 : VS) (s11 : VS) (s12 : VP) (s13 : Int) (h : VH) : L3_2 n (m + 1) s1 s6 s11 s12 s13 h =
  (cond (decide ((s13 : Int) < ((VS.len s11 : Nat) : Int)))
    ((ixV 1 s11 s13).bind fun p1 =>
      ((stV h p1 [.int .u8 s1]).bind fun h2 =>
        (L3_2 n m s1 s6 s11 s12 (IntKind.wrap .i64 (s13 + 1)) h2)))
    (L3_3 n n s6 s12 0 h)) := by kernel_rfl
theorem L3_3_eq (n m : Nat) (s6 : VS) (s12 : VP) (s14 : Int) (h : VH) : L3_3 n (m + 1) s6 s12 s14 h =
  (cond (decide ((s14 : Int) < ((VS.len s6 : Nat) : Int)))
    ((ixV 1 s6 s14).bind fun p1 =>
      ((ldV (.flat (.int .u8)) h p1).bind fun x2 =>
        ((callD (vF P tab n) P false (.one (.flat (.int .u8))) 15 [.ptr s12] h).bind fun r3 =>
          (cond (V.stays r3.2 (heldOf p1 [.int .u8] [.int .u8 x2] ++ []))
            (cond ((r3.1 : Int) != x2)
              (some (.bool false, r3.2))
              (L3_3 n m s6 s12 (IntKind.wrap .i64 (s14 + 1)) r3.2))
            none))))
    ((callD (vF P tab n) P false (.one (.flat (.int .i64))) 16 [.ptr s12] h).bind fun r4 =>
      (some (.bool ((r4.1 : Int) == 0), r4.2)))) := by kernel_rfl
theorem f3_eq (n : Nat) (a0 : VS) (a1 : Int) (h : VH) : bodyV P tab (vF P tab n) n 3 [.sl 58 a0, .int .u8 a1] h =
  ((callD (vF P tab n) P false (.one (.flat .bool)) 9 [] h).bind fun r1 =>
    (cond (!r1.1)
      ((callD (vF P tab n) P false (.one (.flat .bool)) 9 [] r1.2).bind fun r2 =>
        (some (.bool r2.1, r2.2)))
      ((callD (vF P tab n) P false (.one (.flat .bool)) 10 [.sl 58 a0] r1.2).bind fun r3 =>
        (cond (!r3.1)
          ((callD (vF P tab n) P false (.one (.flat .bool)) 9 [] r3.2).bind fun r4 =>
            (some (.bool r4.1, r4.2)))
          ((callD (vF P tab n) P false (.tup [(.flat (.slice 5)), (.flat (.slice 5))]) 11 [.sl 58 a0] r3.2).bind fun r5 =>
            (L3_0 n n a1 r5.1.2.1 r5.2.length 0 (r5.2 ++ [.row (30 + boxK) [.sl 5 .nil]]))))))) := by kernel_rfl
/-! godown/godownlaw04.WireReads -/
noncomputable def L4_0 (n m : Nat) (s1 : VS) (s5 : VP) (s6 : Nat) (s7 : Int) (h : VH) : VRes := loopAt P tab 4 [1, 1, 1, 0, 1, 0] n [] m [.undef, .sl 5 s1, .undef, .undef, .undef, .ptr s5, .ptr (.ob s6 0), .int .i64 s7, .undef, .undef, .undef, .undef, .undef, .undef, .undef, .undef, .undef, .undef, .undef, .undef, .undef, .undef, .undef, .undef, .undef, .undef, .undef, .undef, .undef, .undef, .undef, .undef, .undef, .undef, .undef, .undef, .undef, .undef, .undef, .undef, .undef, .undef, .undef, .undef, .undef, .undef, .undef, .undef, .undef, .undef, .undef, .undef, .undef, .undef, .undef, .undef, .undef, .undef, .undef, .undef, .undef, .undef, .undef, .undef, .undef, .undef, .undef, .undef, .undef, .undef, .undef, .undef, .undef, .undef, .undef, .undef, .undef, .undef, .undef, .undef, .undef, .undef, .undef, .undef, .undef, .undef, .undef, .undef, .undef, .undef, .undef, .undef, .undef, .undef, .undef, .undef, .undef, .undef, .undef, .undef, .undef, .undef, .undef, .undef, .undef, .undef, .undef, .undef, .undef, .undef, .undef, .undef, .undef, .undef] h
theorem L4_0_eq (n m : Nat) (s1 : VS) (s5 : VP) (s6 : Nat) (s7 : Int) (h : VH) : L4_0 n (m + 1) s1 s5 s6 s7 h =
  (cond (decide ((s7 : Int) < ((VS.len s1 : Nat) : Int)))
    ((ixV 1 s1 s7).bind fun p1 =>
      ((ldV (.flat (.int .u8)) h p1).bind fun x2 =>
        ((remI x2 5).bind fun x3 =>
          (cond ((x3 : Int) == 0)
            ((callD (vF P tab n) P false (.one (.flat (.int .u8))) 15 [.ptr s5] h).bind fun r4 =>
              ((callD (vF P tab n) P false (.one (.flat (.int .u64))) 17 [.ptr (.ob s6 0), .int .i64 1] r4.2).bind fun r5 =>
                (cond (!((r4.1 : Int) == (IntKind.wrap .u8 r5.1)))
                  (some (.bool false, r5.2))
                  ((ldV (.flat .bool) r5.2 (.ob s6 1)).bind fun x6 =>
                    ((callD (vF P tab n) P false (.one (.flat .bool)) 25 [.ptr s5] r5.2).bind fun r7 =>
                      (cond (V.stays r7.2 [(.ob s6 1, .bool, .bool x6)])
                        (cond (r7.1 == x6)
                        (some (.bool false, r7.2))
                        ((ldV (.flat (.slice 5)) r7.2 (.ob s6 0)).bind fun x8 =>
                        ((callD (vF P tab n) P false (.one (.flat (.int .i64))) 26 [.ptr s5] r7.2).bind fun r9 =>
                        (cond (V.stays r9.2 [(.ob s6 0, .slice 5, .sl 5 x8), (.ob s6 1, .bool, .bool x6)])
                        (cond ((r9.1 : Int) != ((VS.len x8 : Nat) : Int))
                        (some (.bool false, r9.2))
                        ((callD (vF P tab n) P false (.one (.flat (.int .i64))) 16 [.ptr s5] r9.2).bind fun r10 =>
                        (cond (V.stays r10.2 [(.ob s6 0, .slice 5, .sl 5 x8), (.ob s6 1, .bool, .bool x6)])
                        ((callD (vF P tab n) P false (.one (.flat .bool)) 27 [.ptr (.ob s6 0)] r10.2).bind fun r11 =>
                        (cond (V.stays r11.2 [(.ob s6 0, .slice 5, .sl 5 x8), (.ob s6 1, .bool, .bool x6)])
                        (cond (!(((r10.1 : Int) == 0) == r11.1))
                        (some (.bool false, r11.2))
                        (L4_0 n m s1 s5 s6 (IntKind.wrap .i64 (s7 + 1)) r11.2))
                        none))
                        none)))
                        none))))
                        none))))))
            (cond ((x3 : Int) == 1)
              ((callD (vF P tab n) P false (.one (.flat (.int .i64))) 18 [.ptr s5] h).bind fun r12 =>
                ((callD (vF P tab n) P false (.one (.flat (.int .u64))) 17 [.ptr (.ob s6 0), .int .i64 2] r12.2).bind fun r13 =>
                  (cond (!((r12.1 : Int) == (IntKind.wrap .i64 r13.1)))
                    (some (.bool false, r13.2))
                    ((ldV (.flat .bool) r13.2 (.ob s6 1)).bind fun x14 =>
                      ((callD (vF P tab n) P false (.one (.flat .bool)) 25 [.ptr s5] r13.2).bind fun r15 =>
                        (cond (V.stays r15.2 [(.ob s6 1, .bool, .bool x14)])
                        (cond (r15.1 == x14)
                        (some (.bool false, r15.2))
                        ((ldV (.flat (.slice 5)) r15.2 (.ob s6 0)).bind fun x16 =>
                        ((callD (vF P tab n) P false (.one (.flat (.int .i64))) 26 [.ptr s5] r15.2).bind fun r17 =>
                        (cond (V.stays r17.2 [(.ob s6 0, .slice 5, .sl 5 x16), (.ob s6 1, .bool, .bool x14)])
                        (cond ((r17.1 : Int) != ((VS.len x16 : Nat) : Int))
                        (some (.bool false, r17.2))
                        ((callD (vF P tab n) P false (.one (.flat (.int .i64))) 16 [.ptr s5] r17.2).bind fun r18 =>
                        (cond (V.stays r18.2 [(.ob s6 0, .slice 5, .sl 5 x16), (.ob s6 1, .bool, .bool x14)])
                        ((callD (vF P tab n) P false (.one (.flat .bool)) 27 [.ptr (.ob s6 0)] r18.2).bind fun r19 =>
                        (cond (V.stays r19.2 [(.ob s6 0, .slice 5, .sl 5 x16), (.ob s6 1, .bool, .bool x14)])
                        (cond (!(((r18.1 : Int) == 0) == r19.1))
                        (some (.bool false, r19.2))
                        (L4_0 n m s1 s5 s6 (IntKind.wrap .i64 (s7 + 1)) r19.2))
                        none))
                        none)))
                        none))))
                        none))))))
              (cond ((x3 : Int) == 2)
                ((callD (vF P tab n) P false (.one (.flat (.int .u64))) 19 [.ptr s5] h).bind fun r20 =>
                  ((callD (vF P tab n) P false (.one (.flat (.int .u64))) 17 [.ptr (.ob s6 0), .int .i64 8] r20.2).bind fun r21 =>
                    (cond (!((r20.1 : Int) == r21.1))
                      (some (.bool false, r21.2))
                      ((ldV (.flat .bool) r21.2 (.ob s6 1)).bind fun x22 =>
                        ((callD (vF P tab n) P false (.one (.flat .bool)) 25 [.ptr s5] r21.2).bind fun r23 =>
                        (cond (V.stays r23.2 [(.ob s6 1, .bool, .bool x22)])
                        (cond (r23.1 == x22)
                        (some (.bool false, r23.2))
                        ((ldV (.flat (.slice 5)) r23.2 (.ob s6 0)).bind fun x24 =>
                        ((callD (vF P tab n) P false (.one (.flat (.int .i64))) 26 [.ptr s5] r23.2).bind fun r25 =>
                        (cond (V.stays r25.2 [(.ob s6 0, .slice 5, .sl 5 x24), (.ob s6 1, .bool, .bool x22)])
                        (cond ((r25.1 : Int) != ((VS.len x24 : Nat) : Int))
                        (some (.bool false, r25.2))
                        ((callD (vF P tab n) P false (.one (.flat (.int .i64))) 16 [.ptr s5] r25.2).bind fun r26 =>
                        (cond (V.stays r26.2 [(.ob s6 0, .slice 5, .sl 5 x24), (.ob s6 1, .bool, .bool x22)])
                        ((callD (vF P tab n) P false (.one (.flat .bool)) 27 [.ptr (.ob s6 0)] r26.2).bind fun r27 =>
                        (cond (V.stays r27.2 [(.ob s6 0, .slice 5, .sl 5 x24), (.ob s6 1, .bool, .bool x22)])
                        (cond (!(((r26.1 : Int) == 0) == r27.1))
                        (some (.bool false, r27.2))
                        (L4_0 n m s1 s5 s6 (IntKind.wrap .i64 (s7 + 1)) r27.2))
                        none))
                        none)))
                        none))))
                        none))))))
                (cond ((x3 : Int) == 3)
                  ((callD (vF P tab n) P false (.one (.flat .str)) 20 [.ptr s5] h).bind fun r28 =>
                    ((callD (vF P tab n) P false (.one (.flat .str)) 21 [.ptr (.ob s6 0)] r28.2).bind fun r29 =>
                      (cond (!(strEq r28.1 r29.1))
                        (some (.bool false, r29.2))
                        ((ldV (.flat .bool) r29.2 (.ob s6 1)).bind fun x30 =>
                        ((callD (vF P tab n) P false (.one (.flat .bool)) 25 [.ptr s5] r29.2).bind fun r31 =>
                        (cond (V.stays r31.2 [(.ob s6 1, .bool, .bool x30)])
                        (cond (r31.1 == x30)
                        (some (.bool false, r31.2))
                        ((ldV (.flat (.slice 5)) r31.2 (.ob s6 0)).bind fun x32 =>
                        ((callD (vF P tab n) P false (.one (.flat (.int .i64))) 26 [.ptr s5] r31.2).bind fun r33 =>
                        (cond (V.stays r33.2 [(.ob s6 0, .slice 5, .sl 5 x32), (.ob s6 1, .bool, .bool x30)])
                        (cond ((r33.1 : Int) != ((VS.len x32 : Nat) : Int))
                        (some (.bool false, r33.2))
                        ((callD (vF P tab n) P false (.one (.flat (.int .i64))) 16 [.ptr s5] r33.2).bind fun r34 =>
                        (cond (V.stays r34.2 [(.ob s6 0, .slice 5, .sl 5 x32), (.ob s6 1, .bool, .bool x30)])
                        ((callD (vF P tab n) P false (.one (.flat .bool)) 27 [.ptr (.ob s6 0)] r34.2).bind fun r35 =>
                        (cond (V.stays r35.2 [(.ob s6 0, .slice 5, .sl 5 x32), (.ob s6 1, .bool, .bool x30)])
                        (cond (!(((r34.1 : Int) == 0) == r35.1))
                        (some (.bool false, r35.2))
                        (L4_0 n m s1 s5 s6 (IntKind.wrap .i64 (s7 + 1)) r35.2))
                        none))
                        none)))
                        none))))
                        none))))))
                  ((ixV 1 s1 s7).bind fun p36 =>
                    ((ldV (.flat (.int .u8)) h p36).bind fun x37 =>
                      ((quoI .u8 x37 5).bind fun x38 =>
                        ((ixV 1 s1 s7).bind fun p39 =>
                        ((ldV (.flat (.int .u8)) h p39).bind fun x40 =>
                        ((quoI .u8 x40 5).bind fun x41 =>
                        ((callD (vF P tab n) P false (.one (.flat (.slice 9))) 23 [.ptr s5, .int .i64 (IntKind.wrap .i64 x38)] h).bind fun r42 =>
                        (cond (V.stays r42.2 (heldOf p39 [.int .u8] [.int .u8 x40] ++ (heldOf p36 [.int .u8] [.int .u8 x37] ++ [])))
                        ((callD (vF P tab n) P false (.one (.flat (.slice 9))) 24 [.ptr (.ob s6 0), .int .i64 (IntKind.wrap .i64 x41)] r42.2).bind fun r43 =>
                        (cond (V.stays r43.2 (heldOf p39 [.int .u8] [.int .u8 x40] ++ (heldOf p36 [.int .u8] [.int .u8 x37] ++ [])))
                        ((callD (vF P tab n) P false (.one (.flat .bool)) 22 [.sl 9 r42.1, .sl 9 r43.1] r43.2).bind fun r44 =>
                        (cond (V.stays r44.2 (heldOf p39 [.int .u8] [.int .u8 x40] ++ (heldOf p36 [.int .u8] [.int .u8 x37] ++ [])))
                        (cond (!r44.1)
                        (some (.bool false, r44.2))
                        ((ldV (.flat .bool) r44.2 (.ob s6 1)).bind fun x45 =>
                        ((callD (vF P tab n) P false (.one (.flat .bool)) 25 [.ptr s5] r44.2).bind fun r46 =>
                        (cond (V.stays r46.2 [(.ob s6 1, .bool, .bool x45)])
                        (cond (r46.1 == x45)
                        (some (.bool false, r46.2))
                        ((ldV (.flat (.slice 5)) r46.2 (.ob s6 0)).bind fun x47 =>
                        ((callD (vF P tab n) P false (.one (.flat (.int .i64))) 26 [.ptr s5] r46.2).bind fun r48 =>
                        (cond (V.stays r48.2 [(.ob s6 0, .slice 5, .sl 5 x47), (.ob s6 1, .bool, .bool x45)])
                        (cond ((r48.1 : Int) != ((VS.len x47 : Nat) : Int))
                        (some (.bool false, r48.2))
                        ((callD (vF P tab n) P false (.one (.flat (.int .i64))) 16 [.ptr s5] r48.2).bind fun r49 =>
                        (cond (V.stays r49.2 [(.ob s6 0, .slice 5, .sl 5 x47), (.ob s6 1, .bool, .bool x45)])
                        ((callD (vF P tab n) P false (.one (.flat .bool)) 27 [.ptr (.ob s6 0)] r49.2).bind fun r50 =>
                        (cond (V.stays r50.2 [(.ob s6 0, .slice 5, .sl 5 x47), (.ob s6 1, .bool, .bool x45)])
                        (cond (!(((r49.1 : Int) == 0) == r50.1))
                        (some (.bool false, r50.2))
                        (L4_0 n m s1 s5 s6 (IntKind.wrap .i64 (s7 + 1)) r50.2))
                        none))
                        none)))
                        none))))
                        none))))
                        none))
                        none))
                        none)))))))))))))))
    (some (.bool true, h))) := by kernel_rfl
theorem f4_eq (n : Nat) (a0 : VS) (a1 : VS) (h : VH) : bodyV P tab (vF P tab n) n 4 [.sl 5 a0, .sl 5 a1] h =
  ((callD (vF P tab n) P false (.one (.flat .bool)) 9 [] h).bind fun r1 =>
    (cond (!r1.1)
      ((callD (vF P tab n) P false (.one (.flat .bool)) 9 [] r1.2).bind fun r2 =>
        (some (.bool r2.1, r2.2)))
      (cond (decide ((((VS.len a0 : Nat) : Int) : Int) > 200))
        ((callD (vF P tab n) P false (.one (.flat .bool)) 9 [] r1.2).bind fun r3 =>
          (some (.bool r3.1, r3.2)))
        (cond (decide ((((VS.len a1 : Nat) : Int) : Int) > 40))
          ((callD (vF P tab n) P false (.one (.flat .bool)) 9 [] r1.2).bind fun r4 =>
            (some (.bool r4.1, r4.2)))
          ((callD (vF P tab n) P false (.one (.flat .ptr)) 14 [.sl 5 a0] r1.2).bind fun r5 =>
            (L4_0 n n a1 r5.1 r5.2.length 0 (r5.2 ++ [.row (41 + boxK) [.sl 5 a0, .bool false]]))))))) := by kernel_rfl
/-! godown/godownlaw04.WireCut -/
theorem f5_eq (n : Nat) (a0 : ByteArray) (a1 : Int) (h : VH) : bodyV P tab (vF P tab n) n 5 [.str a0, .int .u16 a1] h =
  ((callD (vF P tab n) P false (.one (.flat .bool)) 9 [] h).bind fun r1 =>
    (cond (!r1.1)
      ((callD (vF P tab n) P false (.one (.flat .bool)) 9 [] r1.2).bind fun r2 =>
        (some (.bool r2.1, r2.2)))
      (cond (decide ((((a0).size : Int) : Int) > 200))
        ((callD (vF P tab n) P false (.one (.flat .bool)) 9 [] r1.2).bind fun r3 =>
          (some (.bool r3.1, r3.2)))
        ((callD (vF P tab n) P false (.one (.flat (.slice 5))) 28 [.str a0] r1.2).bind fun r4 =>
          ((remI (IntKind.wrap .i64 a1) ((VS.len r4.1 : Nat) : Int)).bind fun x5 =>
            ((cutD r4.2 5 1 r4.1 none (some x5) none).bind fun z6 =>
              ((callD (vF P tab n) P false (.one (.flat .ptr)) 14 [.sl 5 z6] r4.2).bind fun r7 =>
                ((callD (vF P tab n) P false (.one (.flat .str)) 20 [.ptr r7.1] r7.2).bind fun r8 =>
                  (cond (strEq r8.1 ⟨#[]⟩)
                    ((callD (vF P tab n) P false (.one (.flat .bool)) 25 [.ptr r7.1] r8.2).bind fun r9 =>
                      (cond (!r9.1)
                        ((callD (vF P tab n) P false (.one (.flat (.int .i64))) 26 [.ptr r7.1] r9.2).bind fun r10 =>
                        (cond ((r10.1 : Int) == 0)
                        ((callD (vF P tab n) P false (.one (.flat (.int .u8))) 15 [.ptr r7.1] r10.2).bind fun r11 =>
                        (cond ((r11.1 : Int) == 0)
                        ((callD (vF P tab n) P false (.one (.flat (.int .i64))) 18 [.ptr r7.1] r11.2).bind fun r12 =>
                        (cond ((r12.1 : Int) == 0)
                        ((callD (vF P tab n) P false (.one (.flat (.int .u64))) 19 [.ptr r7.1] r12.2).bind fun r13 =>
                        (cond ((r13.1 : Int) == 0)
                        ((callD (vF P tab n) P false (.one (.flat (.slice 9))) 23 [.ptr r7.1, .int .i64 9] r13.2).bind fun r14 =>
                        (cond ((((VS.len r14.1 : Nat) : Int) : Int) == 0)
                        ((callD (vF P tab n) P false (.one (.flat (.int .i64))) 16 [.ptr r7.1] r14.2).bind fun r15 =>
                        (some (.bool ((r15.1 : Int) == 2), r15.2)))
                        (some (.bool false, r14.2))))
                        (some (.bool false, r13.2))))
                        (some (.bool false, r12.2))))
                        (some (.bool false, r11.2))))
                        (some (.bool false, r10.2))))
                        (some (.bool false, r9.2))))
                    (some (.bool false, r8.2))))))))))) := by kernel_rfl
/-! godown/godownlaw04.WireLong -/
noncomputable def L6_0 (n m : Nat) (s1 : Int) (s2 : Int) (s7 : VS) (s8 : Int) (h : VH) : VRes := loopAt P tab 6 [1, 1, 1, 0, 1, 0] n [] m [.undef, .int .u8 s1, .int .u8 s2, .undef, .undef, .undef, .undef, .sl 5 s7, .int .i64 s8, .undef, .undef, .undef, .undef, .undef, .undef, .undef, .undef, .undef, .undef, .undef, .undef, .undef, .undef, .undef, .undef, .undef, .undef, .undef, .undef, .undef, .undef, .undef, .undef, .undef, .undef, .undef, .undef, .undef, .undef, .undef, .undef, .undef, .undef, .undef, .undef, .undef, .undef, .undef, .undef, .undef, .undef, .undef, .undef, .undef, .undef, .undef, .undef, .undef, .undef, .undef, .undef, .undef, .undef, .undef, .undef, .undef, .undef, .undef] h
noncomputable def L6_1 (n m : Nat) (s1 : Int) (s7 : VS) (s9 : VS) (s10 : Int) (h : VH) : VRes := loopAt P tab 6 [1, 1, 1, 1, 1, 0, 1, 0] n [] m [.undef, .int .u8 s1, .undef, .undef, .undef, .undef, .undef, .sl 5 s7, .undef, .sl 9 s9, .int .i64 s10, .undef, .undef, .undef, .undef, .undef, .undef, .undef, .undef, .undef, .undef, .undef, .undef, .undef, .undef, .undef, .undef, .undef, .undef, .undef, .undef, .undef, .undef, .undef, .undef, .undef, .undef, .undef, .undef, .undef, .undef, .undef, .undef, .undef, .undef, .undef, .undef, .undef, .undef, .undef, .undef, .undef, .undef, .undef, .undef, .undef, .undef, .undef, .undef, .undef, .undef, .undef, .undef, .undef, .undef, .undef, .undef, .undef] h
theorem L6_0_eq (n m : Nat) (s1 : Int) (s2 : Int) (s7 : VS) (s8 : Int) (h : VH) : L6_0 n (m + 1) s1 s2 s7 s8 h =
  (cond (decide ((s8 : Int) < ((VS.len s7 : Nat) : Int)))
    ((ixV 1 s7 s8).bind fun p1 =>
      ((stV h p1 [.int .u8 s2]).bind fun h2 =>
        (L6_0 n m s1 s2 s7 (IntKind.wrap .i64 (s8 + 1)) h2)))
    (L6_1 n n s1 s7 .nil 0 h)) := by kernel_rfl
theorem L6_1_eq (n m : Nat) (s1 : Int) (s7 : VS) (s9 : VS) (s10 : Int) (h : VH) : L6_1 n (m + 1) s1 s7 s9 s10 h =
  (cond (decide ((s10 : Int) < (IntKind.wrap .i64 s1)))
    ((strV h 5 (.fz [[.int .u8 (IntKind.wrap .u8 s10)]] (.ex 1))).bind fun z1 =>
      ((appD true h 1 16 9 s9 (.fz [[.str z1]] (.ex 1))).bind fun r2 =>
        (L6_1 n m s1 s7 r2.1 (IntKind.wrap .i64 (s10 + 1)) r2.2)))
    ((strV (h ++ [.row (30 + boxK) [.sl 5 .nil]]) 5 s7).bind fun z3 =>
      ((callD (vF P tab n) P false (.one (.flat .ptr)) 29 [.ptr (.ob h.length 0), .str z3] (h ++ [.row (30 + boxK) [.sl 5 .nil]])).bind fun r4 =>
        ((callD (vF P tab n) P false (.one (.flat .ptr)) 30 [.ptr r4.1, .sl 9 s9] r4.2).bind fun r5 =>
          ((callD (vF P tab n) P true (.one (.flat (.slice 5))) 13 [.ptr r5.1] r5.2).bind fun r6 =>
            ((callD (vF P tab n) P false (.one (.flat .ptr)) 14 [.sl 5 r6.1] r6.2).bind fun r7 =>
              ((strV r7.2 5 s7).bind fun z8 =>
                ((callD (vF P tab n) P false (.one (.flat .str)) 20 [.ptr r7.1] r7.2).bind fun r9 =>
                  (cond (V.stays r9.2 (heldStr r7.2 s7 ++ []))
                    (cond (strEq r9.1 z8)
                      ((callD (vF P tab n) P false (.one (.flat (.slice 9))) 23 [.ptr r7.1, .int .i64 255] r9.2).bind fun r10 =>
                        (cond (V.stays r10.2 (heldStr r7.2 s7 ++ []))
                        ((callD (vF P tab n) P false (.one (.flat .bool)) 22 [.sl 9 r10.1, .sl 9 s9] r10.2).bind fun r11 =>
                        (cond (V.stays r11.2 (heldStr r7.2 s7 ++ []))
                        (cond r11.1
                        ((callD (vF P tab n) P false (.one (.flat (.int .i64))) 16 [.ptr r7.1] r11.2).bind fun r12 =>
                        (cond (V.stays r12.2 (heldStr r7.2 s7 ++ []))
                        (some (.bool ((r12.1 : Int) == 0), r12.2))
                        none))
                        (some (.bool false, r11.2)))
                        none))
                        none))
                      (some (.bool false, r9.2)))
                    none))))))))) := by kernel_rfl
theorem f6_eq (n : Nat) (a0 : Int) (a1 : Int) (a2 : Int) (h : VH) : bodyV P tab (vF P tab n) n 6 [.int .u16 a0, .int .u8 a1, .int .u8 a2] h =
  ((callD (vF P tab n) P false (.one (.flat .bool)) 9 [] h).bind fun r1 =>
    (cond (!r1.1)
      (some (.bool false, r1.2))
      ((remI a0 4000).bind fun x2 =>
        ((mkD P false r1.2 5 (IntKind.wrap .i64 x2) (IntKind.wrap .i64 x2)).bind fun r3 =>
          (L6_0 n n a1 a2 r3.1 0 r3.2))))) := by kernel_rfl
/-! godown/godownlaw04.WireBack -/
noncomputable def L7_0 (n m : Nat) (s0 : VS) (s5 : VP) (s6 : Int) (h : VH) : VRes := loopAt P tab 7 [1, 1, 1, 1, 1, 0, 1, 0] n [] m [.sl 58 s0, .undef, .undef, .undef, .undef, .ptr s5, .int .i64 s6, .undef, .undef, .undef, .undef, .undef, .undef, .undef, .undef, .undef, .undef, .undef, .undef, .undef, .undef, .undef, .undef, .undef, .undef, .undef, .undef, .undef, .undef, .undef, .undef, .undef, .undef, .undef, .undef, .undef, .undef, .undef, .undef, .undef, .undef, .undef, .undef, .undef, .undef, .undef, .undef, .undef, .undef, .undef, .undef, .undef, .undef, .undef, .undef, .undef, .undef, .undef, .undef, .undef, .undef, .undef, .undef, .undef, .undef, .undef, .undef, .undef, .undef, .undef, .undef, .undef, .undef, .undef, .undef, .undef, .undef, .undef, .undef, .undef, .undef, .undef, .undef, .undef, .undef, .undef, .undef, .undef, .undef, .undef, .undef, .undef] h
theorem L7_0_eq (n m : Nat) (s0 : VS) (s5 : VP) (s6 : Int) (h : VH) : L7_0 n (m + 1) s0 s5 s6 h =
  (cond (decide ((s6 : Int) < ((VS.len s0 : Nat) : Int)))
    ((ixV 4 s0 s6).bind fun p1 =>
      ((ldV (.agg [.int .u8, .int .u64, .str, .slice 9]) h p1).bind fun x2 =>
        ((stV (h ++ [.row (58 + boxK) [.int .u8 0, .int .u64 0, .str ⟨#[]⟩, .sl 9 .nil]]) (.ob h.length 0) [.int .u8 x2.1, .int .u64 x2.2.1, .str x2.2.2.1, .sl 9 x2.2.2.2.1]).bind fun h3 =>
          ((ldV (.flat (.int .u8)) h3 (.ob h.length 0)).bind fun x4 =>
            ((remI x4 5).bind fun x5 =>
              (cond ((x5 : Int) == 0)
                ((ldV (.flat (.int .u64)) h3 (.ob h.length 1)).bind fun x6 =>
                  ((callD (vF P tab n) P false (.one (.flat (.int .u8))) 15 [.ptr s5] h3).bind fun r7 =>
                    (cond (V.stays r7.2 [(.ob h.length 1, .int .u64, .int .u64 x6)])
                      (cond (!((r7.1 : Int) == (IntKind.wrap .u8 x6)))
                        (some (.bool false, r7.2))
                        ((callD (vF P tab n) P false (.one (.flat .bool)) 25 [.ptr s5] r7.2).bind fun r8 =>
                        (cond (!r8.1)
                        (some (.bool false, r8.2))
                        (L7_0 n m s0 s5 (IntKind.wrap .i64 (s6 + 1)) r8.2))))
                      none)))
                (cond ((x5 : Int) == 1)
                  ((ldV (.flat (.int .u64)) h3 (.ob h.length 1)).bind fun x9 =>
                    ((remI x9 65536).bind fun x10 =>
                      ((callD (vF P tab n) P false (.one (.flat (.int .i64))) 18 [.ptr s5] h3).bind fun r11 =>
                        (cond (V.stays r11.2 [(.ob h.length 1, .int .u64, .int .u64 x9)])
                        (cond (!((r11.1 : Int) == (IntKind.wrap .i64 x10)))
                        (some (.bool false, r11.2))
                        ((callD (vF P tab n) P false (.one (.flat .bool)) 25 [.ptr s5] r11.2).bind fun r12 =>
                        (cond (!r12.1)
                        (some (.bool false, r12.2))
                        (L7_0 n m s0 s5 (IntKind.wrap .i64 (s6 + 1)) r12.2))))
                        none))))
                  (cond ((x5 : Int) == 2)
                    ((ldV (.flat (.int .u64)) h3 (.ob h.length 1)).bind fun x13 =>
                      ((callD (vF P tab n) P false (.one (.flat (.int .u64))) 19 [.ptr s5] h3).bind fun r14 =>
                        (cond (V.stays r14.2 [(.ob h.length 1, .int .u64, .int .u64 x13)])
                        (cond (!((r14.1 : Int) == x13))
                        (some (.bool false, r14.2))
                        ((callD (vF P tab n) P false (.one (.flat .bool)) 25 [.ptr s5] r14.2).bind fun r15 =>
                        (cond (!r15.1)
                        (some (.bool false, r15.2))
                        (L7_0 n m s0 s5 (IntKind.wrap .i64 (s6 + 1)) r15.2))))
                        none)))
                    (cond ((x5 : Int) == 3)
                      ((ldV (.flat .str) h3 (.ob h.length 2)).bind fun x16 =>
                        ((callD (vF P tab n) P false (.one (.flat .str)) 20 [.ptr s5] h3).bind fun r17 =>
                        (cond (V.stays r17.2 [(.ob h.length 2, .str, .str x16)])
                        (cond (!(strEq r17.1 x16))
                        (some (.bool false, r17.2))
                        ((callD (vF P tab n) P false (.one (.flat .bool)) 25 [.ptr s5] r17.2).bind fun r18 =>
                        (cond (!r18.1)
                        (some (.bool false, r18.2))
                        (L7_0 n m s0 s5 (IntKind.wrap .i64 (s6 + 1)) r18.2))))
                        none)))
                      ((ldV (.flat (.slice 9)) h3 (.ob h.length 3)).bind fun x19 =>
                        ((callD (vF P tab n) P false (.one (.flat (.slice 9))) 23 [.ptr s5, .int .i64 20] h3).bind fun r20 =>
                        (cond (V.stays r20.2 [(.ob h.length 3, .slice 9, .sl 9 x19)])
                        ((callD (vF P tab n) P false (.one (.flat .bool)) 22 [.sl 9 r20.1, .sl 9 x19] r20.2).bind fun r21 =>
                        (cond (V.stays r21.2 [(.ob h.length 3, .slice 9, .sl 9 x19)])
                        (cond (!r21.1)
                        (some (.bool false, r21.2))
                        ((callD (vF P tab n) P false (.one (.flat .bool)) 25 [.ptr s5] r21.2).bind fun r22 =>
                        (cond (!r22.1)
                        (some (.bool false, r22.2))
                        (L7_0 n m s0 s5 (IntKind.wrap .i64 (s6 + 1)) r22.2))))
                        none))
                        none))))))))))))
    ((callD (vF P tab n) P false (.one (.flat (.int .i64))) 16 [.ptr s5] h).bind fun r23 =>
      (cond ((r23.1 : Int) == 0)
        ((callD (vF P tab n) P false (.one (.flat (.int .i64))) 26 [.ptr s5] r23.2).bind fun r24 =>
          (some (.bool ((r24.1 : Int) == 0), r24.2)))
        (some (.bool false, r23.2))))) := by kernel_rfl
theorem f7_eq (n : Nat) (a0 : VS) (h : VH) : bodyV P tab (vF P tab n) n 7 [.sl 58 a0] h =
  ((callD (vF P tab n) P false (.one (.flat .bool)) 9 [] h).bind fun r1 =>
    (cond (!r1.1)
      ((callD (vF P tab n) P false (.one (.flat .bool)) 9 [] r1.2).bind fun r2 =>
        (some (.bool r2.1, r2.2)))
      ((callD (vF P tab n) P false (.one (.flat .bool)) 10 [.sl 58 a0] r1.2).bind fun r3 =>
        (cond (!r3.1)
          ((callD (vF P tab n) P false (.one (.flat .bool)) 9 [] r3.2).bind fun r4 =>
            (some (.bool r4.1, r4.2)))
          ((callD (vF P tab n) P false (.tup [(.flat (.slice 5)), (.flat (.slice 5))]) 11 [.sl 58 a0] r3.2).bind fun r5 =>
            ((callD (vF P tab n) P false (.one (.flat .bool)) 31 [.sl 5 r5.1.1, .sl 5 r5.1.2.1] r5.2).bind fun r6 =>
              (cond (!r6.1)
                (some (.bool false, r6.2))
                ((callD (vF P tab n) P false (.one (.flat .ptr)) 14 [.sl 5 r5.1.1] r6.2).bind fun r7 =>
                  (L7_0 n n a0 r7.1 0 r7.2))))))))) := by kernel_rfl
/-! godown/godownlaw04.WireNil -/
theorem f8_eq (n : Nat) (a0 : Int) (a1 : ByteArray) (h : VH) : bodyV P tab (vF P tab n) n 8 [.int .i64 a0, .str a1] h =
  (cond (decide ((((a1).size : Int) : Int) > 100))
    ((callD (vF P tab n) P false (.one (.flat .bool)) 9 [] h).bind fun r1 =>
      (some (.bool r1.1, r1.2)))
    ((callD (vF P tab n) P false (.one (.flat .bool)) 9 [] h).bind fun r2 =>
      (cond r2.1
        ((callD (vF P tab n) P false (.one (.flat .ptr)) 12 [.ptr .nil, .int .u8 (IntKind.wrap .u8 a0)] r2.2).bind fun r3 =>
          ((callD (vF P tab n) P false (.one (.flat .ptr)) 32 [.ptr r3.1, .int .i64 a0] r3.2).bind fun r4 =>
            ((callD (vF P tab n) P false (.one (.flat .ptr)) 33 [.ptr r4.1, .int .u64 7] r4.2).bind fun r5 =>
              ((callD (vF P tab n) P false (.one (.flat .ptr)) 29 [.ptr r5.1, .str a1] r5.2).bind fun r6 =>
                ((callD (vF P tab n) P false (.one (.flat .ptr)) 30 [.ptr r6.1, .sl 9 (.fz [[.str a1]] (.ex 1))] r6.2).bind fun r7 =>
                  ((callD (vF P tab n) P true (.one (.flat (.slice 5))) 13 [.ptr r7.1] r7.2).bind fun r8 =>
                    (cond ((((VS.len r8.1 : Nat) : Int) : Int) == 0)
                      ((callD (vF P tab n) P false (.one (.flat (.int .u8))) 15 [.ptr .nil] r8.2).bind fun r9 =>
                        (cond ((r9.1 : Int) == 0)
                        ((callD (vF P tab n) P false (.one (.flat (.int .i64))) 18 [.ptr .nil] r9.2).bind fun r10 =>
                        (cond ((r10.1 : Int) == 0)
                        ((callD (vF P tab n) P false (.one (.flat (.int .u64))) 19 [.ptr .nil] r10.2).bind fun r11 =>
                        (cond ((r11.1 : Int) == 0)
                        ((callD (vF P tab n) P false (.one (.flat .str)) 20 [.ptr .nil] r11.2).bind fun r12 =>
                        (cond (strEq r12.1 ⟨#[]⟩)
                        ((callD (vF P tab n) P false (.one (.flat (.slice 9))) 23 [.ptr .nil, .int .i64 a0] r12.2).bind fun r13 =>
                        (cond ((((VS.len r13.1 : Nat) : Int) : Int) == 0)
                        ((callD (vF P tab n) P false (.one (.flat (.int .i64))) 26 [.ptr .nil] r13.2).bind fun r14 =>
                        (cond ((r14.1 : Int) == 0)
                        ((callD (vF P tab n) P false (.one (.flat .bool)) 25 [.ptr .nil] r14.2).bind fun r15 =>
                        (cond (!r15.1)
                        ((callD (vF P tab n) P false (.one (.flat (.int .i64))) 16 [.ptr .nil] r15.2).bind fun r16 =>
                        (some (.bool ((r16.1 : Int) == 2), r16.2)))
                        (some (.bool false, r15.2))))
                        (some (.bool false, r14.2))))
                        (some (.bool false, r13.2))))
                        (some (.bool false, r12.2))))
                        (some (.bool false, r11.2))))
                        (some (.bool false, r10.2))))
                        (some (.bool false, r9.2))))
                      (some (.bool false, r8.2)))))))))
        (some (.bool false, r2.2))))) := by kernel_rfl
/-! godown/godownlaw04.lays -/
theorem f9_eq (n : Nat)  (h : VH) : bodyV P tab (vF P tab n) n 9 [] h =
  ((callD (vF P tab n) P false (.one (.flat .ptr)) 32 [.ptr (.ob h.length 0), .int .i64 258] (h ++ [.row (30 + boxK) [.sl 5 .nil]])).bind fun r1 =>
    ((callD (vF P tab n) P false (.one (.flat .ptr)) 29 [.ptr r1.1, .str ⟨#[97, 98]⟩] r1.2).bind fun r2 =>
      ((callD (vF P tab n) P true (.one (.flat (.slice 5))) 13 [.ptr r2.1] r2.2).bind fun r3 =>
        ((callD (vF P tab n) P false (.one (.flat .bool)) 31 [.sl 5 r3.1, .sl 5 (.fz [[.int .u8 1], [.int .u8 2], [.int .u8 0], [.int .u8 2], [.int .u8 97], [.int .u8 98]] (.ex 6))] r3.2).bind fun r4 =>
          (cond r4.1
            ((callD (vF P tab n) P false (.one (.flat .ptr)) 14 [.sl 5 (.fz [[.int .u8 7]] (.ex 1))] r4.2).bind fun r5 =>
              ((callD (vF P tab n) P false (.one (.flat (.int .u8))) 15 [.ptr r5.1] r5.2).bind fun r6 =>
                (some (.bool ((r6.1 : Int) == 7), r6.2))))
            (some (.bool false, r4.2))))))) := by kernel_rfl
/-! godown/godownlaw04.short -/
noncomputable def L10_0 (n m : Nat) (s0 : VS) (s3 : Int) (h : VH) : VRes := loopAt P tab 10 [1, 0, 1, 0] n [] m [.sl 58 s0, .undef, .undef, .int .i64 s3, .undef, .undef, .undef, .undef, .undef, .undef, .undef, .undef, .undef, .undef, .undef, .undef, .undef, .undef, .undef, .undef, .undef, .undef, .undef, .undef, .undef, .undef, .undef, .undef, .undef, .undef, .undef, .undef, .undef, .undef, .undef, .undef, .undef, .undef, .undef, .undef, .undef, .undef, .undef, .undef, .undef, .undef, .undef, .undef, .undef, .undef] h
noncomputable def L10_1 (n m0 m : Nat) (s0 : VS) (s3 : Int) (s4 : Int) (h : VH) : VRes := loopAt P tab 10 [1, 0, 1, 0, 0, 1, 0, 0, 1, 1, 0] n [m0] m [.sl 58 s0, .undef, .undef, .int .i64 s3, .int .i64 s4, .undef, .undef, .undef, .undef, .undef, .undef, .undef, .undef, .undef, .undef, .undef, .undef, .undef, .undef, .undef, .undef, .undef, .undef, .undef, .undef, .undef, .undef, .undef, .undef, .undef, .undef, .undef, .undef, .undef, .undef, .undef, .undef, .undef, .undef, .undef, .undef, .undef, .undef, .undef, .undef, .undef, .undef, .undef, .undef, .undef] h
theorem L10_0_eq (n m : Nat) (s0 : VS) (s3 : Int) (h : VH) : L10_0 n (m + 1) s0 s3 h =
  (cond (decide ((s3 : Int) < ((VS.len s0 : Nat) : Int)))
    ((ixV 4 s0 s3).bind fun p1 =>
      ((atO p1 2).bind fun p2 =>
        ((ldV (.flat .str) h p2).bind fun x3 =>
          (cond (decide ((((x3).size : Int) : Int) > 300))
            (some (.bool false, h))
            ((ixV 4 s0 s3).bind fun p4 =>
              ((atO p4 3).bind fun p5 =>
                ((ldV (.flat (.slice 9)) h p5).bind fun x6 =>
                  (cond (decide ((((VS.len x6 : Nat) : Int) : Int) > 20))
                    (some (.bool false, h))
                    (L10_1 n m n s0 s3 0 h)))))))))
    (some (.bool (decide ((((VS.len s0 : Nat) : Int) : Int) ≤ 30)), h))) := by kernel_rfl
theorem L10_1_eq (n m0 m : Nat) (s0 : VS) (s3 : Int) (s4 : Int) (h : VH) : L10_1 n m0 (m + 1) s0 s3 s4 h =
  ((ixV 4 s0 s3).bind fun p1 =>
    ((atO p1 3).bind fun p2 =>
      ((ldV (.flat (.slice 9)) h p2).bind fun x3 =>
        (cond (decide ((s4 : Int) < ((VS.len x3 : Nat) : Int)))
          ((ixV 4 s0 s3).bind fun p4 =>
            ((atO p4 3).bind fun p5 =>
              ((ldV (.flat (.slice 9)) h p5).bind fun x6 =>
                ((ixV 1 x6 s4).bind fun p7 =>
                  ((ldV (.flat .str) h p7).bind fun x8 =>
                    (cond (decide ((((x8).size : Int) : Int) > 60))
                      (some (.bool false, h))
                      (L10_1 n m0 m s0 s3 (IntKind.wrap .i64 (s4 + 1)) h)))))))
          (L10_0 n m0 s0 (IntKind.wrap .i64 (s3 + 1)) h))))) := by kernel_rfl
theorem f10_eq (n : Nat) (a0 : VS) (h : VH) : bodyV P tab (vF P tab n) n 10 [.sl 58 a0] h =
  (L10_0 n n a0 0 h) := by kernel_rfl
/-! godown/godownlaw04.lay -/
noncomputable def L11_0 (n m : Nat) (s0 : VS) (s4 : Nat) (s5 : VS) (s6 : Int) (h : VH) : VRes := loopAt P tab 11 [1, 1, 1, 0, 1, 0] n [] m [.sl 58 s0, .undef, .undef, .undef, .ptr (.ob s4 0), .sl 5 s5, .int .i64 s6, .undef, .undef, .undef, .undef, .undef, .undef, .undef, .undef, .undef, .undef, .undef, .undef, .undef, .undef, .undef, .undef, .undef, .undef, .undef, .undef, .undef, .undef, .undef, .undef, .undef, .undef, .undef, .undef, .undef, .undef, .undef, .undef, .undef, .undef, .undef, .undef, .undef, .undef, .undef, .undef, .undef, .undef, .undef, .undef, .undef, .undef, .undef, .undef, .undef, .undef, .undef, .undef, .undef, .undef, .undef, .undef, .undef, .undef, .undef, .undef, .undef, .undef, .undef, .undef, .undef, .undef, .undef, .undef, .undef, .undef, .undef, .undef, .undef, .undef, .undef, .undef] h
theorem L11_0_eq (n m : Nat) (s0 : VS) (s4 : Nat) (s5 : VS) (s6 : Int) (h : VH) : L11_0 n (m + 1) s0 s4 s5 s6 h =
  (cond (decide ((s6 : Int) < ((VS.len s0 : Nat) : Int)))
    ((ixV 4 s0 s6).bind fun p1 =>
      ((ldV (.agg [.int .u8, .int .u64, .str, .slice 9]) h p1).bind fun x2 =>
        ((stV (h ++ [.row (58 + boxK) [.int .u8 0, .int .u64 0, .str ⟨#[]⟩, .sl 9 .nil]]) (.ob h.length 0) [.int .u8 x2.1, .int .u64 x2.2.1, .str x2.2.2.1, .sl 9 x2.2.2.2.1]).bind fun h3 =>
          ((ldV (.flat (.int .u8)) h3 (.ob h.length 0)).bind fun x4 =>
            ((remI x4 5).bind fun x5 =>
              (cond ((x5 : Int) == 0)
                ((ldV (.flat (.int .u64)) h3 (.ob h.length 1)).bind fun x6 =>
                  ((callD (vF P tab n) P false (.one (.flat .ptr)) 12 [.ptr (.ob s4 0), .int .u8 (IntKind.wrap .u8 x6)] h3).bind fun r7 =>
                    ((ldV (.flat (.int .u64)) r7.2 (.ob h.length 1)).bind fun x8 =>
                      ((appD true r7.2 1 1 5 s5 (.fz [[.int .u8 (IntKind.wrap .u8 x8)]] (.ex 1))).bind fun r9 =>
                        (L11_0 n m s0 s4 r9.1 (IntKind.wrap .i64 (s6 + 1)) r9.2)))))
                (cond ((x5 : Int) == 1)
                  ((ldV (.flat (.int .u64)) h3 (.ob h.length 1)).bind fun x10 =>
                    ((callD (vF P tab n) P false (.one (.flat .ptr)) 32 [.ptr (.ob s4 0), .int .i64 (IntKind.wrap .i64 x10)] h3).bind fun r11 =>
                      ((ldV (.flat (.int .u64)) r11.2 (.ob h.length 1)).bind fun x12 =>
                        ((callD (vF P tab n) P false (.one (.flat (.slice 5))) 34 [.int .i64 (IntKind.wrap .i64 x12)] r11.2).bind fun r13 =>
                        ((appD true r13.2 1 1 5 s5 r13.1).bind fun r14 =>
                        (L11_0 n m s0 s4 r14.1 (IntKind.wrap .i64 (s6 + 1)) r14.2))))))
                  (cond ((x5 : Int) == 2)
                    ((ldV (.flat (.int .u64)) h3 (.ob h.length 1)).bind fun x15 =>
                      ((callD (vF P tab n) P false (.one (.flat .ptr)) 33 [.ptr (.ob s4 0), .int .u64 x15] h3).bind fun r16 =>
                        ((ldV (.flat (.int .u64)) r16.2 (.ob h.length 1)).bind fun x17 =>
                        ((callD (vF P tab n) P false (.one (.flat (.slice 5))) 35 [.int .u64 x17] r16.2).bind fun r18 =>
                        ((appD true r18.2 1 1 5 s5 r18.1).bind fun r19 =>
                        (L11_0 n m s0 s4 r19.1 (IntKind.wrap .i64 (s6 + 1)) r19.2))))))
                    (cond ((x5 : Int) == 3)
                      ((ldV (.flat .str) h3 (.ob h.length 2)).bind fun x20 =>
                        ((callD (vF P tab n) P false (.one (.flat .ptr)) 29 [.ptr (.ob s4 0), .str x20] h3).bind fun r21 =>
                        ((ldV (.flat .str) r21.2 (.ob h.length 2)).bind fun x22 =>
                        ((callD (vF P tab n) P false (.one (.flat (.slice 5))) 28 [.str x22] r21.2).bind fun r23 =>
                        ((appD true r23.2 1 1 5 s5 r23.1).bind fun r24 =>
                        (L11_0 n m s0 s4 r24.1 (IntKind.wrap .i64 (s6 + 1)) r24.2))))))
                      ((ldV (.flat (.slice 9)) h3 (.ob h.length 3)).bind fun x25 =>
                        ((callD (vF P tab n) P false (.one (.flat .ptr)) 30 [.ptr (.ob s4 0), .sl 9 x25] h3).bind fun r26 =>
                        ((ldV (.flat (.slice 9)) r26.2 (.ob h.length 3)).bind fun x27 =>
                        ((callD (vF P tab n) P false (.one (.flat (.slice 5))) 36 [.sl 9 x27] r26.2).bind fun r28 =>
                        ((appD true r28.2 1 1 5 s5 r28.1).bind fun r29 =>
                        (L11_0 n m s0 s4 r29.1 (IntKind.wrap .i64 (s6 + 1)) r29.2)))))))))))))))
    ((callD (vF P tab n) P true (.one (.flat (.slice 5))) 13 [.ptr (.ob s4 0)] h).bind fun r30 =>
      (some (.tup [.sl 5 r30.1, .sl 5 s5], r30.2)))) := by kernel_rfl
theorem f11_eq (n : Nat) (a0 : VS) (h : VH) : bodyV P tab (vF P tab n) n 11 [.sl 58 a0] h =
  (L11_0 n n a0 h.length .nil 0 (h ++ [.row (30 + boxK) [.sl 5 .nil]])) := by kernel_rfl
/-! (*godown/wire.Writer).Byte -/
theorem f12_eq (n : Nat) (a0 : VP) (a1 : Int) (h : VH) : bodyV P tab (vF P tab n) n 12 [.ptr a0, .int .u8 a1] h =
  ((callD (vF P tab n) P false (.one (.flat .ptr)) 37 [.ptr a0, .sl 5 (.fz [[.int .u8 a1]] (.ex 1))] h).bind fun r1 =>
    (some (.ptr r1.1, r1.2))) := by kernel_rfl
/-! (*godown/wire.Writer).Bytes -/
theorem f13_eq (n : Nat) (a0 : VP) (h : VH) : bodyV P tab (vF P tab n) n 13 [.ptr a0] h =
  (cond (VP.isNil a0)
    (some (.sl 5 .nil, h))
    ((nn a0).bind fun p1 =>
      ((atO p1 0).bind fun p2 =>
        ((ldV (.flat (.slice 5)) h p2).bind fun x3 =>
          ((callD (vF P tab n) P false (.one (.flat (.slice 5))) 38 [.sl 5 x3] h).bind fun r4 =>
            (some (.sl 5 r4.1, r4.2))))))) := by kernel_rfl
/-! godown/wire.NewReader -/
theorem f14_eq (n : Nat) (a0 : VS) (h : VH) : bodyV P tab (vF P tab n) n 14 [.sl 5 a0] h =
  ((callD (vF P tab n) P true (.one (.flat (.slice 5))) 38 [.sl 5 a0] h).bind fun r1 =>
    (some (.ptr (.ob r1.2.length 0), (r1.2 ++ [.row (68 + boxK) [.sl 5 r1.1, .bool false]])))) := by kernel_rfl
/-! (*godown/wire.Reader).Byte -/
theorem f15_eq (n : Nat) (a0 : VP) (h : VH) : bodyV P tab (vF P tab n) n 15 [.ptr a0] h =
  ((callD (vF P tab n) P false (.one (.flat (.int .u64))) 39 [.ptr a0, .int .i64 1] h).bind fun r1 =>
    (some (.int .u8 (IntKind.wrap .u8 r1.1), r1.2))) := by kernel_rfl
/-! (*godown/wire.Reader).End -/
theorem f16_eq (n : Nat) (a0 : VP) (h : VH) : bodyV P tab (vF P tab n) n 16 [.ptr a0] h =
  ((callD (vF P tab n) P false (.one (.flat .bool)) 25 [.ptr a0] h).bind fun r1 =>
    (cond (!r1.1)
      (some (.int .i64 2, r1.2))
      ((callD (vF P tab n) P false (.one (.flat (.int .i64))) 26 [.ptr a0] r1.2).bind fun r2 =>
        (cond (decide ((r2.1 : Int) > 0))
          (some (.int .i64 2, r2.2))
          (some (.int .i64 0, r2.2)))))) := by kernel_rfl
/-! (*godown/godownref04.In).Wide -/
noncomputable def L17_0 (n m : Nat) (s5 : VS) (s6 : Int) (s7 : Int) (h : VH) : VRes := loopAt P tab 17 [1, 1, 1, 0, 1, 0] n [] m [.undef, .undef, .undef, .undef, .undef, .sl 5 s5, .int .u64 s6, .int .i64 s7, .undef, .undef, .undef, .undef, .undef, .undef, .undef, .undef, .undef, .undef, .undef, .undef, .undef, .undef, .undef, .undef, .undef, .undef] h
theorem L17_0_eq (n m : Nat) (s5 : VS) (s6 : Int) (s7 : Int) (h : VH) : L17_0 n (m + 1) s5 s6 s7 h =
  (cond (decide ((s7 : Int) < ((VS.len s5 : Nat) : Int)))
    ((ixV 1 s5 s7).bind fun p1 =>
      ((ldV (.flat (.int .u8)) h p1).bind fun x2 =>
        (L17_0 n m s5 (IntKind.wrap .u64 ((IntKind.wrap .u64 (s6 * 256)) + (IntKind.wrap .u64 x2))) (IntKind.wrap .i64 (s7 + 1)) h)))
    (some (.int .u64 s6, h))) := by kernel_rfl
theorem f17_eq (n : Nat) (a0 : VP) (a1 : Int) (h : VH) : bodyV P tab (vF P tab n) n 17 [.ptr a0, .int .i64 a1] h =
  ((callD (vF P tab n) P false (.one (.flat (.slice 5))) 40 [.ptr a0, .int .i64 a1] h).bind fun r1 =>
    (L17_0 n n r1.1 0 0 r1.2)) := by kernel_rfl
/-! (*godown/wire.Reader).Num -/
theorem f18_eq (n : Nat) (a0 : VP) (h : VH) : bodyV P tab (vF P tab n) n 18 [.ptr a0] h =
  ((callD (vF P tab n) P false (.one (.flat (.int .u64))) 39 [.ptr a0, .int .i64 2] h).bind fun r1 =>
    (some (.int .i64 (IntKind.wrap .i64 r1.1), r1.2))) := by kernel_rfl
/-! (*godown/wire.Reader).Wide -/
theorem f19_eq (n : Nat) (a0 : VP) (h : VH) : bodyV P tab (vF P tab n) n 19 [.ptr a0] h =
  ((callD (vF P tab n) P false (.one (.flat (.int .u64))) 39 [.ptr a0, .int .i64 8] h).bind fun r1 =>
    (some (.int .u64 r1.1, r1.2))) := by kernel_rfl
/-! (*godown/wire.Reader).Text -/
theorem f20_eq (n : Nat) (a0 : VP) (h : VH) : bodyV P tab (vF P tab n) n 20 [.ptr a0] h =
  ((callD (vF P tab n) P false (.one (.flat (.int .i64))) 18 [.ptr a0] h).bind fun r1 =>
    ((callD (vF P tab n) P false (.one (.flat (.slice 5))) 41 [.ptr a0, .int .i64 r1.1] r1.2).bind fun r2 =>
      ((strV r2.2 5 r2.1).bind fun z3 =>
        (some (.str z3, r2.2))))) := by kernel_rfl
/-! (*godown/godownref04.In).Text -/
theorem f21_eq (n : Nat) (a0 : VP) (h : VH) : bodyV P tab (vF P tab n) n 21 [.ptr a0] h =
  ((callD (vF P tab n) P false (.one (.flat (.int .u64))) 17 [.ptr a0, .int .i64 2] h).bind fun r1 =>
    ((nn a0).bind fun p2 =>
      ((atO p2 1).bind fun p3 =>
        ((ldV (.flat .bool) r1.2 p3).bind fun x4 =>
          (cond x4
            (some (.str ⟨#[]⟩, r1.2))
            ((callD (vF P tab n) P false (.one (.flat (.slice 5))) 40 [.ptr a0, .int .i64 (IntKind.wrap .i64 r1.1)] r1.2).bind fun r5 =>
              ((strV r5.2 5 r5.1).bind fun z6 =>
                (some (.str z6, r5.2))))))))) := by kernel_rfl
/-! godown/godownref01.Texts -/
noncomputable def L22_0 (n m : Nat) (s0 : VS) (s1 : VS) (s5 : Int) (h : VH) : VRes := loopAt P tab 22 [1, 1, 0, 1, 0] n [] m [.sl 9 s0, .sl 9 s1, .undef, .undef, .undef, .int .i64 s5, .undef, .undef, .undef, .undef, .undef, .undef, .undef, .undef, .undef, .undef, .undef, .undef, .undef, .undef, .undef, .undef, .undef, .undef, .undef, .undef] h
theorem L22_0_eq (n m : Nat) (s0 : VS) (s1 : VS) (s5 : Int) (h : VH) : L22_0 n (m + 1) s0 s1 s5 h =
  (cond (decide ((s5 : Int) < ((VS.len s0 : Nat) : Int)))
    ((ixV 1 s0 s5).bind fun p1 =>
      ((ldV (.flat .str) h p1).bind fun x2 =>
        ((ixV 1 s1 s5).bind fun p3 =>
          ((ldV (.flat .str) h p3).bind fun x4 =>
            (cond (!(strEq x2 x4))
              (some (.bool false, h))
              (L22_0 n m s0 s1 (IntKind.wrap .i64 (s5 + 1)) h))))))
    (some (.bool true, h))) := by kernel_rfl
theorem f22_eq (n : Nat) (a0 : VS) (a1 : VS) (h : VH) : bodyV P tab (vF P tab n) n 22 [.sl 9 a0, .sl 9 a1] h =
  (cond ((((VS.len a0 : Nat) : Int) : Int) != ((VS.len a1 : Nat) : Int))
    (some (.bool false, h))
    (L22_0 n n a0 a1 0 h)) := by kernel_rfl
/-! (*godown/wire.Reader).Texts -/
noncomputable def L23_0 (n m : Nat) (s0 : VP) (s6 : VS) (s20 : Int) (s21 : Int) (h : VH) : VRes := loopAt P tab 23 [1, 1, 1, 1, 0, 1, 0] n [] m [.ptr s0, .undef, .undef, .undef, .undef, .undef, .sl 9 s6, .undef, .undef, .undef, .undef, .undef, .undef, .undef, .undef, .undef, .undef, .undef, .undef, .undef, .int .i64 s20, .int .i64 s21, .undef, .undef, .undef, .undef, .undef, .undef, .undef, .undef, .undef, .undef, .undef, .undef] h
theorem L23_0_eq (n m : Nat) (s0 : VP) (s6 : VS) (s20 : Int) (s21 : Int) (h : VH) : L23_0 n (m + 1) s0 s6 s20 s21 h =
  (cond (decide ((s21 : Int) < s20))
    ((callD (vF P tab n) P false (.one (.flat .str)) 20 [.ptr s0] h).bind fun r1 =>
      ((callD (vF P tab n) P false (.one (.flat .bool)) 25 [.ptr s0] r1.2).bind fun r2 =>
        (cond (!r2.1)
          (some (.sl 9 .nil, r2.2))
          ((appD true r2.2 1 16 9 s6 (.fz [[.str r1.1]] (.ex 1))).bind fun r3 =>
            (L23_0 n m s0 r3.1 s20 (IntKind.wrap .i64 (s21 + 1)) r3.2)))))
    (some (.sl 9 s6, h))) := by kernel_rfl
theorem f23_eq (n : Nat) (a0 : VP) (a1 : Int) (h : VH) : bodyV P tab (vF P tab n) n 23 [.ptr a0, .int .i64 a1] h =
  ((callD (vF P tab n) P false (.one (.flat (.int .u8))) 15 [.ptr a0] h).bind fun r1 =>
    ((callD (vF P tab n) P false (.one (.flat .bool)) 25 [.ptr a0] r1.2).bind fun r2 =>
      (cond r2.1
        (cond (decide (((IntKind.wrap .i64 r1.1) : Int) > a1))
          ((callD (vF P tab n) P false (.tup []) 42 [.ptr a0] r2.2).bind fun r3 =>
            (L23_0 n n a0 .nil (IntKind.wrap .i64 r1.1) 0 r3.2))
          (L23_0 n n a0 .nil (IntKind.wrap .i64 r1.1) 0 r2.2))
        (L23_0 n n a0 .nil (IntKind.wrap .i64 r1.1) 0 r2.2)))) := by kernel_rfl
/-! (*godown/godownref04.In).Texts -/
noncomputable def L24_0 (n m : Nat) (s0 : VP) (s5 : Int) (s6 : VS) (s7 : Int) (h : VH) : VRes := loopAt P tab 24 [1, 1, 1, 1, 0, 1, 0] n [] m [.ptr s0, .undef, .undef, .undef, .undef, .int .i64 s5, .sl 9 s6, .int .i64 s7, .undef, .undef, .undef, .undef, .undef, .undef, .undef, .undef, .undef, .undef, .undef, .undef, .undef, .undef, .undef, .undef, .undef, .undef, .undef, .undef, .undef, .undef, .undef, .undef, .undef, .undef, .undef, .undef, .undef, .undef, .undef, .undef, .undef, .undef] h
theorem L24_0_eq (n m : Nat) (s0 : VP) (s5 : Int) (s6 : VS) (s7 : Int) (h : VH) : L24_0 n (m + 1) s0 s5 s6 s7 h =
  (cond (decide ((s7 : Int) < s5))
    ((nn s0).bind fun p1 =>
      ((atO p1 1).bind fun p2 =>
        ((ldV (.flat .bool) h p2).bind fun x3 =>
          (cond (!x3)
            ((callD (vF P tab n) P false (.one (.flat .str)) 21 [.ptr s0] h).bind fun r4 =>
              ((appD true r4.2 1 16 9 s6 (.fz [[.str r4.1]] (.ex 1))).bind fun r5 =>
                (L24_0 n m s0 s5 r5.1 (IntKind.wrap .i64 (s7 + 1)) r5.2)))
            ((nn s0).bind fun p6 =>
              ((atO p6 1).bind fun p7 =>
                ((ldV (.flat .bool) h p7).bind fun x8 =>
                  (cond x8
                    (some (.sl 9 .nil, h))
                    (some (.sl 9 s6, h))))))))))
    ((nn s0).bind fun p9 =>
      ((atO p9 1).bind fun p10 =>
        ((ldV (.flat .bool) h p10).bind fun x11 =>
          (cond x11
            (some (.sl 9 .nil, h))
            (some (.sl 9 s6, h))))))) := by kernel_rfl
theorem f24_eq (n : Nat) (a0 : VP) (a1 : Int) (h : VH) : bodyV P tab (vF P tab n) n 24 [.ptr a0, .int .i64 a1] h =
  ((callD (vF P tab n) P false (.one (.flat (.int .u64))) 17 [.ptr a0, .int .i64 1] h).bind fun r1 =>
    (cond (decide (((IntKind.wrap .i64 r1.1) : Int) > a1))
      ((nn a0).bind fun p2 =>
        ((atO p2 0).bind fun p3 =>
          ((stV r1.2 p3 [.sl 5 .nil]).bind fun h4 =>
            ((nn a0).bind fun p5 =>
              ((atO p5 1).bind fun p6 =>
                ((stV h4 p6 [.bool true]).bind fun h7 =>
                  (L24_0 n n a0 (IntKind.wrap .i64 r1.1) .nil 0 h7)))))))
      (L24_0 n n a0 (IntKind.wrap .i64 r1.1) .nil 0 r1.2))) := by kernel_rfl
/-! (*godown/wire.Reader).OK -/
theorem f25_eq (n : Nat) (a0 : VP) (h : VH) : bodyV P tab (vF P tab n) n 25 [.ptr a0] h =
  (cond (!VP.isNil a0)
    ((nn a0).bind fun p1 =>
      ((atO p1 1).bind fun p2 =>
        ((ldV (.flat .bool) h p2).bind fun x3 =>
          (some (.bool (!x3), h)))))
    (some (.bool false, h))) := by kernel_rfl
/-! (*godown/wire.Reader).Left -/
theorem f26_eq (n : Nat) (a0 : VP) (h : VH) : bodyV P tab (vF P tab n) n 26 [.ptr a0] h =
  (cond (VP.isNil a0)
    (some (.int .i64 0, h))
    ((nn a0).bind fun p1 =>
      ((atO p1 0).bind fun p2 =>
        ((ldV (.flat (.slice 5)) h p2).bind fun x3 =>
          (some (.int .i64 ((VS.len x3 : Nat) : Int), h)))))) := by kernel_rfl
/-! (*godown/godownref04.In).Whole -/
theorem f27_eq (n : Nat) (a0 : VP) (h : VH) : bodyV P tab (vF P tab n) n 27 [.ptr a0] h =
  ((nn a0).bind fun p1 =>
    ((atO p1 1).bind fun p2 =>
      ((ldV (.flat .bool) h p2).bind fun x3 =>
        (cond (!x3)
          ((nn a0).bind fun p4 =>
            ((atO p4 0).bind fun p5 =>
              ((ldV (.flat (.slice 5)) h p5).bind fun x6 =>
                (some (.bool ((((VS.len x6 : Nat) : Int) : Int) == 0), h)))))
          (some (.bool false, h)))))) := by kernel_rfl
/-! godown/godownref04.Text -/
theorem f28_eq (n : Nat) (a0 : ByteArray) (h : VH) : bodyV P tab (vF P tab n) n 28 [.str a0] h =
  ((callD (vF P tab n) P false (.one (.flat (.slice 5))) 34 [.int .i64 ((a0).size : Int)] h).bind fun r1 =>
    ((appD true r1.2 1 1 5 r1.1 (.fz (bytesE a0) .no)).bind fun r2 =>
      (some (.sl 5 r2.1, r2.2)))) := by kernel_rfl
/-! (*godown/wire.Writer).Text -/
theorem f29_eq (n : Nat) (a0 : VP) (a1 : ByteArray) (h : VH) : bodyV P tab (vF P tab n) n 29 [.ptr a0, .str a1] h =
  ((callD (vF P tab n) P false (.one (.flat .ptr)) 32 [.ptr a0, .int .i64 ((a1).size : Int)] h).bind fun r1 =>
    ((callD (vF P tab n) P false (.one (.flat .ptr)) 37 [.ptr r1.1, .sl 5 (.fz (bytesE a1) .no)] r1.2).bind fun r2 =>
      (some (.ptr r2.1, r2.2)))) := by kernel_rfl
/-! (*godown/wire.Writer).Texts -/
noncomputable def L30_0 (n m : Nat) (s0 : VP) (s12 : VS) (s13 : Int) (s14 : Int) (h : VH) : VRes := loopAt P tab 30 [1, 1, 0, 1, 0] n [] m [.ptr s0, .undef, .undef, .undef, .undef, .undef, .undef, .undef, .undef, .undef, .undef, .undef, .sl 9 s12, .int .i64 s13, .int .i64 s14, .undef, .undef, .undef, .undef, .undef, .undef, .undef, .undef] h
theorem L30_0_eq (n m : Nat) (s0 : VP) (s12 : VS) (s13 : Int) (s14 : Int) (h : VH) : L30_0 n (m + 1) s0 s12 s13 s14 h =
  (cond (decide ((s14 : Int) < s13))
    ((ixV 1 s12 s14).bind fun p1 =>
      ((ldV (.flat .str) h p1).bind fun x2 =>
        ((callD (vF P tab n) P false (.one (.flat .ptr)) 29 [.ptr s0, .str x2] h).bind fun r3 =>
          (L30_0 n m s0 s12 s13 (IntKind.wrap .i64 (s14 + 1)) r3.2))))
    (some (.ptr s0, h))) := by kernel_rfl
theorem f30_eq (n : Nat) (a0 : VP) (a1 : VS) (h : VH) : bodyV P tab (vF P tab n) n 30 [.ptr a0, .sl 9 a1] h =
  ((callD (vF P tab n) P false (.one (.flat .ptr)) 12 [.ptr a0, .int .u8 (IntKind.wrap .u8 ((VS.len a1 : Nat) : Int))] h).bind fun r1 =>
    (L30_0 n n a0 a1 ((VS.len a1 : Nat) : Int) 0 r1.2)) := by kernel_rfl
/-! godown/godownref01.Bytes -/
noncomputable def L31_0 (n m : Nat) (s0 : VS) (s1 : VS) (s5 : Int) (h : VH) : VRes := loopAt P tab 31 [1, 1, 0, 1, 0] n [] m [.sl 5 s0, .sl 5 s1, .undef, .undef, .undef, .int .i64 s5, .undef, .undef, .undef, .undef, .undef, .undef, .undef, .undef, .undef, .undef, .undef, .undef, .undef, .undef, .undef, .undef, .undef, .undef, .undef, .undef] h
theorem L31_0_eq (n m : Nat) (s0 : VS) (s1 : VS) (s5 : Int) (h : VH) : L31_0 n (m + 1) s0 s1 s5 h =
  (cond (decide ((s5 : Int) < ((VS.len s0 : Nat) : Int)))
    ((ixV 1 s0 s5).bind fun p1 =>
      ((ldV (.flat (.int .u8)) h p1).bind fun x2 =>
        ((ixV 1 s1 s5).bind fun p3 =>
          ((ldV (.flat (.int .u8)) h p3).bind fun x4 =>
            (cond ((x2 : Int) != x4)
              (some (.bool false, h))
              (L31_0 n m s0 s1 (IntKind.wrap .i64 (s5 + 1)) h))))))
    (some (.bool true, h))) := by kernel_rfl
theorem f31_eq (n : Nat) (a0 : VS) (a1 : VS) (h : VH) : bodyV P tab (vF P tab n) n 31 [.sl 5 a0, .sl 5 a1] h =
  (cond ((((VS.len a0 : Nat) : Int) : Int) != ((VS.len a1 : Nat) : Int))
    (some (.bool false, h))
    (L31_0 n n a0 a1 0 h)) := by kernel_rfl
/-! (*godown/wire.Writer).Num -/
theorem f32_eq (n : Nat) (a0 : VP) (a1 : Int) (h : VH) : bodyV P tab (vF P tab n) n 32 [.ptr a0, .int .i64 a1] h =
  ((shrI .i64 a1 8).bind fun x1 =>
    ((callD (vF P tab n) P false (.one (.flat .ptr)) 37 [.ptr a0, .sl 5 (.fz [[.int .u8 (IntKind.wrap .u8 x1)], [.int .u8 (IntKind.wrap .u8 a1)]] (.ex 2))] h).bind fun r2 =>
      (some (.ptr r2.1, r2.2)))) := by kernel_rfl
/-! (*godown/wire.Writer).Wide -/
noncomputable def L33_0 (n m : Nat) (s0 : VP) (s1 : Int) (s5 : Int) (h : VH) : VRes := loopAt P tab 33 [1, 0, 1, 0] n [] m [.ptr s0, .int .u64 s1, .undef, .undef, .undef, .int .i64 s5, .undef, .undef, .undef, .undef, .undef, .undef, .undef, .undef, .undef, .undef, .undef, .undef] h
theorem L33_0_eq (n m : Nat) (s0 : VP) (s1 : Int) (s5 : Int) (h : VH) : L33_0 n (m + 1) s0 s1 s5 h =
  (cond (decide ((s5 : Int) ≥ 0))
    ((shrI .u64 s1 s5).bind fun x1 =>
      ((callD (vF P tab n) P false (.one (.flat .ptr)) 37 [.ptr s0, .sl 5 (.fz [[.int .u8 (IntKind.wrap .u8 x1)]] (.ex 1))] h).bind fun r2 =>
        (L33_0 n m s0 s1 (IntKind.wrap .i64 (s5 - 8)) r2.2)))
    (some (.ptr s0, h))) := by kernel_rfl
theorem f33_eq (n : Nat) (a0 : VP) (a1 : Int) (h : VH) : bodyV P tab (vF P tab n) n 33 [.ptr a0, .int .u64 a1] h =
  (L33_0 n n a0 a1 56 h) := by kernel_rfl
/-! godown/godownref04.Num -/
theorem f34_eq (n : Nat) (a0 : Int) (h : VH) : bodyV P tab (vF P tab n) n 34 [.int .i64 a0] h =
  ((remI (IntKind.wrap .u64 a0) 65536).bind fun x1 =>
    ((quoI .u64 x1 256).bind fun x2 =>
      ((remI x1 256).bind fun x3 =>
        (some (.sl 5 (.fz [[.int .u8 (IntKind.wrap .u8 x2)], [.int .u8 (IntKind.wrap .u8 x3)]] (.ex 2)), h))))) := by kernel_rfl
/-! godown/godownref04.Wide -/
noncomputable def L35_0 (n m : Nat) (s0 : Int) (s3 : VS) (s4 : Int) (h : VH) : VRes := loopAt P tab 35 [1, 1, 0, 1, 0] n [] m [.int .u64 s0, .undef, .undef, .sl 5 s3, .int .i64 s4, .undef, .undef, .undef, .undef, .undef, .undef, .undef, .undef, .undef, .undef, .undef, .undef, .undef, .undef] h
theorem L35_0_eq (n m : Nat) (s0 : Int) (s3 : VS) (s4 : Int) (h : VH) : L35_0 n (m + 1) s0 s3 s4 h =
  (cond (decide ((s4 : Int) < 8))
    ((shrI .u64 s0 (IntKind.wrap .i64 (56 - (IntKind.wrap .i64 (8 * s4))))).bind fun x1 =>
      ((appD true h 1 1 5 s3 (.fz [[.int .u8 (IntKind.wrap .u8 x1)]] (.ex 1))).bind fun r2 =>
        (L35_0 n m s0 r2.1 (IntKind.wrap .i64 (s4 + 1)) r2.2)))
    (some (.sl 5 s3, h))) := by kernel_rfl
theorem f35_eq (n : Nat) (a0 : Int) (h : VH) : bodyV P tab (vF P tab n) n 35 [.int .u64 a0] h =
  (L35_0 n n a0 .nil 0 h) := by kernel_rfl
/-! godown/godownref04.Texts -/
noncomputable def L36_0 (n m : Nat) (s0 : VS) (s3 : VS) (s4 : Int) (h : VH) : VRes := loopAt P tab 36 [1, 1, 0, 1, 0] n [] m [.sl 9 s0, .undef, .undef, .sl 5 s3, .int .i64 s4, .undef, .undef, .undef, .undef, .undef, .undef, .undef, .undef, .undef, .undef, .undef, .undef, .undef, .undef, .undef, .undef, .undef, .undef] h
theorem L36_0_eq (n m : Nat) (s0 : VS) (s3 : VS) (s4 : Int) (h : VH) : L36_0 n (m + 1) s0 s3 s4 h =
  (cond (decide ((s4 : Int) < ((VS.len s0 : Nat) : Int)))
    ((ixV 1 s0 s4).bind fun p1 =>
      ((ldV (.flat .str) h p1).bind fun x2 =>
        ((callD (vF P tab n) P false (.one (.flat (.slice 5))) 28 [.str x2] h).bind fun r3 =>
          ((appD true r3.2 1 1 5 s3 r3.1).bind fun r4 =>
            (L36_0 n m s0 r4.1 (IntKind.wrap .i64 (s4 + 1)) r4.2)))))
    (some (.sl 5 s3, h))) := by kernel_rfl
theorem f36_eq (n : Nat) (a0 : VS) (h : VH) : bodyV P tab (vF P tab n) n 36 [.sl 9 a0] h =
  (L36_0 n n a0 (.fz [[.int .u8 (IntKind.wrap .u8 ((VS.len a0 : Nat) : Int))]] (.ex 1)) 0 h) := by kernel_rfl
/-! (*godown/wire.Writer).lay -/
theorem f37_eq (n : Nat) (a0 : VP) (a1 : VS) (h : VH) : bodyV P tab (vF P tab n) n 37 [.ptr a0, .sl 5 a1] h =
  (cond (!VP.isNil a0)
    ((nn a0).bind fun p1 =>
      ((atO p1 0).bind fun p2 =>
        ((ldV (.flat (.slice 5)) h p2).bind fun x3 =>
          ((appD true h 1 1 5 x3 a1).bind fun r4 =>
            ((nn a0).bind fun p5 =>
              ((atO p5 0).bind fun p6 =>
                ((stV r4.2 p6 [.sl 5 r4.1]).bind fun h7 =>
                  (some (.ptr a0, h7)))))))))
    (some (.ptr a0, h))) := by kernel_rfl
/-! bytes.Clone -/
theorem f38_eq (n : Nat) (a0 : VS) (h : VH) : bodyV P tab (vF P tab n) n 38 [.sl 5 a0] h =
  (cond (VS.isNil a0)
    (some (.sl 5 .nil, h))
    ((appD false (h ++ [.row 5 []]) 1 1 5 (.hp h.length 0 0) a0).bind fun r1 =>
      (some (.sl 5 r1.1, r1.2)))) := by kernel_rfl
/-! (*godown/wire.Reader).number -/
noncomputable def L39_0 (n m : Nat) (s5 : Int) (s10 : VS) (s11 : Int) (s12 : Int) (h : VH) : VRes := loopAt P tab 39 [1, 1, 0, 1, 0] n [] m [.undef, .undef, .undef, .undef, .undef, .int .u64 s5, .undef, .undef, .undef, .undef, .sl 5 s10, .int .i64 s11, .int .i64 s12, .undef, .undef, .undef, .undef, .undef, .undef, .undef, .undef, .undef, .undef] h
theorem L39_0_eq (n m : Nat) (s5 : Int) (s10 : VS) (s11 : Int) (s12 : Int) (h : VH) : L39_0 n (m + 1) s5 s10 s11 s12 h =
  (cond (decide ((s12 : Int) < s11))
    ((ixV 1 s10 s12).bind fun p1 =>
      ((ldV (.flat (.int .u8)) h p1).bind fun x2 =>
        ((shlI .u64 s5 8).bind fun x3 =>
          (L39_0 n m (bitI .or .u64 x3 (IntKind.wrap .u64 x2)) s10 s11 (IntKind.wrap .i64 (s12 + 1)) h))))
    (some (.int .u64 s5, h))) := by kernel_rfl
theorem f39_eq (n : Nat) (a0 : VP) (a1 : Int) (h : VH) : bodyV P tab (vF P tab n) n 39 [.ptr a0, .int .i64 a1] h =
  ((callD (vF P tab n) P false (.one (.flat (.slice 5))) 41 [.ptr a0, .int .i64 a1] h).bind fun r1 =>
    (L39_0 n n 0 r1.1 ((VS.len r1.1 : Nat) : Int) 0 r1.2)) := by kernel_rfl
/-! (*godown/godownref04.In).take -/
theorem f40_eq (n : Nat) (a0 : VP) (a1 : Int) (h : VH) : bodyV P tab (vF P tab n) n 40 [.ptr a0, .int .i64 a1] h =
  ((nn a0).bind fun p1 =>
    ((atO p1 1).bind fun p2 =>
      ((ldV (.flat .bool) h p2).bind fun x3 =>
        (cond x3
          ((nn a0).bind fun p4 =>
            ((atO p4 0).bind fun p5 =>
              ((stV h p5 [.sl 5 .nil]).bind fun h6 =>
                ((nn a0).bind fun p7 =>
                  ((atO p7 1).bind fun p8 =>
                    ((stV h6 p8 [.bool true]).bind fun h9 =>
                      (some (.sl 5 .nil, h9))))))))
          ((nn a0).bind fun p10 =>
            ((atO p10 0).bind fun p11 =>
              ((ldV (.flat (.slice 5)) h p11).bind fun x12 =>
                (cond (decide ((a1 : Int) > ((VS.len x12 : Nat) : Int)))
                  ((nn a0).bind fun p13 =>
                    ((atO p13 0).bind fun p14 =>
                      ((stV h p14 [.sl 5 .nil]).bind fun h15 =>
                        ((nn a0).bind fun p16 =>
                        ((atO p16 1).bind fun p17 =>
                        ((stV h15 p17 [.bool true]).bind fun h18 =>
                        (some (.sl 5 .nil, h18))))))))
                  ((nn a0).bind fun p19 =>
                    ((atO p19 0).bind fun p20 =>
                      ((ldV (.flat (.slice 5)) h p20).bind fun x21 =>
                        ((cutD h 5 1 x21 none (some a1) none).bind fun z22 =>
                        ((nn a0).bind fun p23 =>
                        ((atO p23 0).bind fun p24 =>
                        ((ldV (.flat (.slice 5)) h p24).bind fun x25 =>
                        ((cutD h 5 1 x25 (some a1) none none).bind fun z26 =>
                        ((nn a0).bind fun p27 =>
                        ((atO p27 0).bind fun p28 =>
                        ((stV h p28 [.sl 5 z26]).bind fun h29 =>
                        (some (.sl 5 z22, h29))))))))))))))))))))) := by kernel_rfl
/-! (*godown/wire.Reader).take -/
theorem f41_eq (n : Nat) (a0 : VP) (a1 : Int) (h : VH) : bodyV P tab (vF P tab n) n 41 [.ptr a0, .int .i64 a1] h =
  ((callD (vF P tab n) P false (.one (.flat .bool)) 25 [.ptr a0] h).bind fun r1 =>
    (cond (!r1.1)
      (some (.sl 5 .nil, r1.2))
      ((nn a0).bind fun p2 =>
        ((atO p2 0).bind fun p3 =>
          ((ldV (.flat (.slice 5)) r1.2 p3).bind fun x4 =>
            (cond (decide ((a1 : Int) > ((VS.len x4 : Nat) : Int)))
              ((callD (vF P tab n) P false (.tup []) 42 [.ptr a0] r1.2).bind fun r5 =>
                (some (.sl 5 .nil, r5.2)))
              ((nn a0).bind fun p6 =>
                ((atO p6 0).bind fun p7 =>
                  ((ldV (.flat (.slice 5)) r1.2 p7).bind fun x8 =>
                    ((cutD r1.2 5 1 x8 none (some a1) (some a1)).bind fun z9 =>
                      ((nn a0).bind fun p10 =>
                        ((atO p10 0).bind fun p11 =>
                        ((ldV (.flat (.slice 5)) r1.2 p11).bind fun x12 =>
                        ((cutD r1.2 5 1 x12 (some a1) none none).bind fun z13 =>
                        ((nn a0).bind fun p14 =>
                        ((atO p14 0).bind fun p15 =>
                        ((stV r1.2 p15 [.sl 5 z13]).bind fun h16 =>
                        (some (.sl 5 z9, h16))))))))))))))))))) := by kernel_rfl
/-! (*godown/wire.Reader).give -/
theorem f42_eq (n : Nat) (a0 : VP) (h : VH) : bodyV P tab (vF P tab n) n 42 [.ptr a0] h =
  ((nn a0).bind fun p1 =>
    ((atO p1 0).bind fun p2 =>
      ((stV h p2 [.sl 5 .nil]).bind fun h3 =>
        ((nn a0).bind fun p4 =>
          ((atO p4 1).bind fun p5 =>
            ((stV h3 p5 [.bool true]).bind fun h6 =>
              (some (.tup [], h6)))))))) := by kernel_rfl
end Go.Proofs.Ythodknboobgfpaa
