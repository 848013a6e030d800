import Derived.Test.YtgmgpandhaeniaaVc
import Derived.Test.YtgmgpandhaeniaaProg
set_option maxRecDepth 100000
set_option maxHeartbeats 0
set_option linter.unusedVariables false
set_option linter.unusedSimpArgs false
namespace Go.Proofs.Ytgmgpandhaeniaa
open Go.Proofs.Ytgmgpandhaeniaa.Sh Go.Proofs.Ytgmgpandhaeniaa.Sh.V
def noP : List V → VH → VRes := fun _ _ => none
def notes : List (Nat × Notes) := [(3, ⟨[], [(6, [1, 2, 5, 6, 7, 8, 9, 10, 11, 12, 13, 14, 15, 16, 17, 18, 19, 20, 21, 22, 23, 24, 25, 26, 27, 28, 29, 30, 31, 32, 33, 34, 35, 36, 37, 38, 39, 40, 41, 42, 43, 44, 45, 46, 47, 48, 49, 50, 51, 52, 53, 54, 55, 56, 57, 58, 59, 60, 61, 62, 63, 64, 65, 66, 67, 68, 69, 70, 71, 72, 73, 74, 75, 76, 77, 78, 79, 80, 81, 82, 83, 84, 85, 86, 87, 88, 89, 90, 91, 92, 93, 94, 95, 96, 97, 98, 99, 100, 101, 102, 103, 104, 105, 106, 107, 108, 109]), (12, [1, 2, 4, 7, 8, 9, 10, 11, 12, 13, 14, 15, 16, 17, 18, 19, 20, 21, 22, 23, 24, 25, 26, 27, 28, 29, 30, 31, 32, 33, 34, 35, 36, 37, 38, 39, 40, 41, 42, 43, 44, 45, 46, 47, 48, 49, 50, 51, 52, 53, 54, 55, 56, 57, 58, 59, 60, 61, 62, 63, 64, 65, 66, 67, 68, 69, 70, 71, 72, 73, 74, 75, 76, 77, 78, 79, 80, 81, 82, 83, 84, 85, 86, 87, 88, 89, 90, 91, 92, 93, 94, 95, 96, 97, 98, 99, 100, 101, 102, 103, 104, 105, 106, 107, 108, 109]), (14, [1, 2, 4, 8, 9, 10, 11, 12, 13, 14, 15, 16, 17, 18, 19, 20, 21, 22, 23, 24, 25, 26, 27, 28, 29, 30, 31, 32, 33, 34, 35, 36, 37, 38, 39, 40, 41, 42, 43, 44, 45, 46, 47, 48, 49, 50, 51, 52, 53, 54, 55, 56, 57, 58, 59, 60, 61, 62, 63, 64, 65, 66, 67, 68, 69, 70, 71, 72, 73, 74, 75, 76, 77, 78, 79, 80, 81, 82, 83, 84, 85, 86, 87, 88, 89, 90, 91, 92, 93, 94, 95, 96, 97, 98, 99, 100, 101, 102, 103, 104, 105, 106, 107, 108, 109]), (23, [1, 2, 4, 7, 10, 11, 12, 13, 14, 15, 16, 17, 18, 19, 20, 21, 22, 23, 24, 25, 26, 27, 28, 29, 30, 31, 32, 33, 34, 35, 36, 37, 38, 39, 40, 41, 42, 43, 44, 45, 46, 47, 48, 49, 50, 51, 52, 53, 54, 55, 56, 57, 58, 59, 60, 61, 62, 63, 64, 65, 66, 67, 68, 69, 70, 71, 72, 73, 74, 75, 76, 77, 78, 79, 80, 81, 82, 83, 84, 85, 86, 87, 88, 89, 90, 91, 92, 93, 94, 95, 96, 97, 98, 99, 100, 101, 102, 103, 104, 105, 106, 107, 108, 109])], []⟩),
  (4, ⟨[], [(7, [0, 1, 2, 3, 4, 9, 10, 11, 12, 13, 14, 15, 16, 17, 18, 19, 20, 21, 22, 23, 24, 25, 26, 27, 28, 29, 30, 31, 32, 33, 34, 35, 36, 37, 38, 39, 40, 41, 42, 43, 44, 45, 46, 47, 48, 49, 50, 51, 52, 53, 54, 55, 56, 57, 58, 59, 60, 61, 62, 63, 64, 65, 66, 67, 68, 69, 70, 71, 72, 73, 74, 75, 76, 77, 78, 79, 80, 81, 82, 83, 84, 85, 86, 87, 88, 89, 90, 91, 92, 93, 94, 95, 96, 97, 98, 99, 100, 101, 102, 103, 104, 105, 106, 107, 108, 109, 110, 111, 112, 113]), (11, [0, 1, 2, 3, 4, 8, 10, 11, 12, 13, 14, 15, 16, 17, 18, 19, 20, 21, 22, 23, 24, 25, 26, 27, 28, 29, 30, 31, 32, 33, 34, 35, 36, 37, 38, 39, 40, 41, 42, 43, 44, 45, 46, 47, 48, 49, 50, 51, 52, 53, 54, 55, 56, 57, 58, 59, 60, 61, 62, 63, 64, 65, 66, 67, 68, 69, 70, 71, 72, 73, 74, 75, 76, 77, 78, 79, 80, 81, 82, 83, 84, 85, 86, 87, 88, 89, 90, 91, 92, 93, 94, 95, 96, 97, 98, 99, 100, 101, 102, 103, 104, 105, 106, 107, 108, 109, 110, 111, 112, 113]), (18, [0, 1, 2, 3, 4, 8, 9, 10, 12, 13, 14, 15, 16, 17, 18, 19, 20, 21, 22, 23, 24, 25, 26, 27, 28, 29, 30, 31, 32, 33, 34, 35, 36, 37, 38, 39, 40, 41, 42, 43, 44, 45, 46, 47, 48, 49, 50, 51, 52, 53, 54, 55, 56, 57, 58, 59, 60, 61, 62, 63, 64, 65, 66, 67, 68, 69, 70, 71, 72, 73, 74, 75, 76, 77, 78, 79, 80, 81, 82, 83, 84, 85, 86, 87, 88, 89, 90, 91, 92, 93, 94, 95, 96, 97, 98, 99, 100, 101, 102, 103, 104, 105, 106, 107, 108, 109, 110, 111, 112, 113])], []⟩),
  (7, ⟨[], [(7, [0, 1, 3, 4, 5, 6, 12, 13, 14, 15, 16, 17, 18, 19, 20, 21, 22, 23, 24, 25, 26, 27, 28, 29, 30, 31, 32, 33, 34, 35, 36, 37, 38, 39, 40, 41, 42, 43, 44, 45, 46, 47, 48, 49, 50, 51, 52, 53, 54, 55, 56, 57, 58, 59, 60, 61, 62, 63, 64, 65, 66, 67, 68, 69, 70, 71, 72, 73, 74, 75, 76, 77, 78, 79, 80, 81, 82, 83, 84, 85, 86, 87, 88, 89, 90, 91, 92, 93, 94, 95, 96, 97, 98, 99, 100, 101, 102, 103, 104, 105, 106, 107, 108, 109, 110, 111, 112, 113, 114, 115, 116, 117, 118, 119, 120, 121, 122, 123, 124, 125, 126]), (16, [0, 1, 3, 4, 5, 6, 10, 11, 12, 14, 15, 16, 17, 18, 19, 20, 21, 22, 23, 24, 25, 26, 27, 28, 29, 30, 31, 32, 33, 34, 35, 36, 37, 38, 39, 40, 41, 42, 43, 44, 45, 46, 47, 48, 49, 50, 51, 52, 53, 54, 55, 56, 57, 58, 59, 60, 61, 62, 63, 64, 65, 66, 67, 68, 69, 70, 71, 72, 73, 74, 75, 76, 77, 78, 79, 80, 81, 82, 83, 84, 85, 86, 87, 88, 89, 90, 91, 92, 93, 94, 95, 96, 97, 98, 99, 100, 101, 102, 103, 104, 105, 106, 107, 108, 109, 110, 111, 112, 113, 114, 115, 116, 117, 118, 119, 120, 121, 122, 123, 124, 125, 126]), (21, [0, 1, 3, 4, 5, 6, 10, 11, 12, 13, 15, 16, 17, 18, 19, 20, 21, 22, 23, 24, 25, 26, 27, 28, 29, 30, 31, 32, 33, 34, 35, 36, 37, 38, 39, 40, 41, 42, 43, 44, 45, 46, 47, 48, 49, 50, 51, 52, 53, 54, 55, 56, 57, 58, 59, 60, 61, 62, 63, 64, 65, 66, 67, 68, 69, 70, 71, 72, 73, 74, 75, 76, 77, 78, 79, 80, 81, 82, 83, 84, 85, 86, 87, 88, 89, 90, 91, 92, 93, 94, 95, 96, 97, 98, 99, 100, 101, 102, 103, 104, 105, 106, 107, 108, 109, 110, 111, 112, 113, 114, 115, 116, 117, 118, 119, 120, 121, 122, 123, 124, 125, 126])], []⟩),
  (10, ⟨[(3, .order [(0, true), (1, true), (3, true), (4, true), (2, false), (5, false), (6, true), (7, true)])], [], []⟩),
  (13, ⟨[], [(3, [2, 3, 4, 6, 7, 8, 9, 13, 14, 15, 16, 17, 18, 19, 20, 21, 22, 23, 24, 25, 26, 27, 28, 29, 30, 31, 32, 33, 34, 35, 36, 37, 38, 39, 40, 41, 42, 43, 44, 45, 46, 47, 48, 49, 50, 51, 52, 53, 54, 55])], []⟩),
  (15, ⟨[], [(4, [2, 3, 4, 6, 7, 8, 9, 10, 11, 12, 13, 14, 15, 16, 17, 18, 19, 20, 21, 22, 23, 24, 25])], []⟩),
  (18, ⟨[], [(3, [0, 1, 2, 3, 4, 6, 7, 8, 9, 10, 14, 15, 16, 17, 18, 19, 20, 21, 22, 23])], []⟩),
  (19, ⟨[(1, .order [(0, true), (1, true), (2, true), (3, true), (4, true), (5, true), (6, true), (7, true), (8, true), (9, true), (10, true), (11, true), (12, true)])], [], []⟩),
  (20, ⟨[], [(5, [0, 2, 3, 5, 8, 9, 10, 11, 12, 13, 14, 15, 16, 17, 18, 19, 20, 21, 22, 23, 24, 28, 29, 30, 31, 32, 33, 34, 35, 36, 37, 38, 39, 40, 41, 42, 43])], []⟩),
  (21, ⟨[], [(7, [0, 2, 3, 4, 6, 9, 10, 11, 12, 13, 14, 15, 16, 17, 18, 19, 20, 21, 22, 23, 24, 25, 26, 27, 28, 29, 30, 34, 35, 36, 37, 38, 39, 40, 41, 42, 43, 44, 45, 46, 47, 48, 49, 50, 51, 52, 53, 54, 55, 56, 57, 58, 59, 60, 61, 62, 63, 64, 65, 66, 67, 68, 69, 70, 71, 72, 73, 74, 75, 76, 77]), (13, [0, 2, 3, 4, 5, 6, 7, 9, 10, 11, 12, 13, 14, 15, 16, 17, 18, 19, 20, 21, 22, 23, 24, 25, 26, 27, 28, 29, 30, 31, 32, 33, 34, 35, 36, 37, 38, 39, 40, 41, 42, 43, 44, 45, 46, 47, 48, 49, 50, 51, 52, 53, 54, 55, 56, 57, 61, 62, 63, 64, 65, 66, 67, 68, 69, 70, 71, 72, 73, 74, 75, 76, 77])], []⟩),
  (25, ⟨[], [(3, [2, 3, 4, 6, 7, 8, 9, 13, 14, 15, 16, 17, 18, 19, 20, 21, 22, 23, 24, 25, 26, 27, 28, 29, 30, 31, 32, 33, 34, 35, 36, 37, 38])], []⟩),
  (29, ⟨[(2, .order [(0, true), (1, true), (2, true), (3, true), (4, true), (5, true), (6, false), (7, false), (8, false), (9, true), (10, true), (11, false)])], [], []⟩),
  (30, ⟨[(4, .order [(0, true), (1, true), (2, true), (3, true), (4, true), (5, true), (6, false), (7, false), (8, false), (9, true), (10, true), (11, false)]), (5, .tail 7)], [(2, [2, 3, 4, 8, 9, 10, 11, 12, 13, 14, 15, 16, 17, 18, 19, 20, 21, 22, 23, 24, 25, 26, 27, 28, 29, 30, 31, 32, 33, 34, 35, 36, 37, 38, 39, 40, 41, 42, 43, 44, 45, 46, 47, 48, 49, 50, 51, 52])], []⟩),
  (32, ⟨[(2, .tail 5)], [], []⟩),
  (33, ⟨[(6, .tail 6)], [(2, [2, 3, 4, 6, 7, 8, 9, 10, 11, 12, 13, 14, 15, 16, 17, 18, 19, 20, 21, 22, 23, 24, 25, 26, 27, 28, 29, 30, 31, 32, 33, 34, 35, 36, 37, 38, 39, 40, 41, 42, 43, 44, 45, 46, 47, 48, 49, 50, 51])], []⟩),
  (37, ⟨[], [(4, [1, 2, 4, 5, 6, 7, 8, 9, 10, 11, 12, 13, 14, 15, 16, 17, 18, 19, 20, 21, 22, 23, 24, 25, 26, 27, 28, 29, 30, 31, 32, 33, 34, 35, 36, 37, 38, 39, 40, 41, 42, 43, 44, 45, 46, 47, 48, 49, 50, 51, 52, 53, 54, 55, 56, 57, 58, 59, 60]), (9, [1, 2, 6, 7, 8, 9, 10, 11, 12, 13, 14, 15, 16, 17, 18, 19, 20, 21, 22, 23, 24, 25, 26, 27, 28, 29, 30, 31, 32, 33, 34, 35, 36, 37, 38, 39, 40, 41, 42, 43, 44, 45, 46, 47, 48, 49, 50, 51, 52, 53, 54, 55, 56, 57, 58, 59, 60])], []⟩),
  (48, ⟨[], [(2, [2, 3, 4, 5, 6, 9, 10, 11, 12, 13, 14, 15, 16, 17, 18])], []⟩),
  (49, ⟨[(11, .tail 8), (15, .tail 8)], [], []⟩),
  (52, ⟨[], [(5, [2, 3, 4, 7, 8, 9, 10, 11, 12, 13, 14, 15, 16, 17, 18, 19, 20, 21, 22, 23, 24, 25, 26, 27, 28, 29, 30, 31, 32, 33, 34, 35, 36, 37, 38, 39, 40, 41])], []⟩),
  (54, ⟨[], [(5, [2, 3, 4, 7, 8, 9, 10, 11, 12, 13, 14, 15, 16, 17, 18, 19, 20, 21, 22, 23, 24, 25, 26, 27, 28, 29, 30, 31, 32, 33, 34, 35, 36, 37, 38, 39, 40, 41])], []⟩),
  (56, ⟨[(17, .tail 12)], [(2, [4, 5, 6, 7, 10, 11, 12, 13, 14, 15, 16, 17, 18, 19, 20, 21, 22, 23, 24, 25, 26, 27, 28, 29, 30, 31, 32, 33, 34, 35, 36, 37, 38, 39, 40, 41, 42, 43, 44, 45, 46, 47, 48, 49, 50, 51, 52, 53, 54, 55, 56, 57, 58, 59, 60, 61, 62, 63, 64, 65, 66, 67, 68, 69, 70, 71, 72, 73, 74, 75, 76, 77, 78, 79, 80, 81, 82, 83, 84, 85, 86, 87, 88, 89, 90, 91, 92, 93, 94, 95, 96, 97, 98, 99, 100, 101, 102, 103, 104, 105, 106, 107, 108, 109, 110, 111, 112, 113, 114, 115, 116, 117, 118, 119, 120, 121, 122, 123, 124, 125, 126, 127, 128, 129, 130, 131, 132, 133])], []⟩),
  (63, ⟨[], [(1, [1, 2, 3, 4, 6, 7, 8, 9, 10, 11, 12, 13])], []⟩),
  (64, ⟨[], [(2, [2, 3, 4, 5, 6, 9, 10, 11, 12, 13, 14, 15, 16, 17, 18])], []⟩),
  (65, ⟨[], [(2, [2, 3, 4, 5, 6, 9, 10, 11, 12, 13, 14, 15, 16, 17, 18])], []⟩),
  (66, ⟨[(4, .tail 13), (6, .order [(0, true), (1, true), (2, true), (3, true), (4, true), (5, true), (6, true), (7, true), (8, true), (9, true), (10, true), (11, true), (12, true), (13, false), (14, true), (15, false), (16, true), (17, false)])], [(1, [3, 4, 5, 7, 8, 9, 10, 11, 12, 13, 14, 15, 16, 17, 18, 19, 20, 21, 22, 23, 24, 25, 26, 27, 28, 29, 30, 31, 32, 33, 34, 35, 36, 37, 38, 39, 40, 41, 42, 43, 44, 45, 46, 47, 48]), (4, [3, 4, 5, 8, 9, 10, 11, 12, 13, 14, 15, 16, 17, 18, 19, 20, 21, 22, 23, 24, 25, 26, 27, 28, 29, 30, 31, 32, 33, 34, 35, 36, 37, 38, 39, 40, 41, 42, 43, 44, 45, 46, 47, 48])], []⟩)]
noncomputable abbrev P : Program := Try.prog
def reach : List Nat := [3, 4, 6, 7, 9, 10, 11, 12, 13, 14, 15, 16, 17, 18, 19, 20, 21, 25, 26, 27, 28, 29, 30, 31, 32, 33, 34, 35, 36, 37, 48, 49, 51, 52, 53, 54, 55, 56, 57, 63, 64, 65, 66, 72, 75, 76, 85]
def noteOf (f : FuncId) : Notes := (find notes f).getD ⟨[], [], []⟩
noncomputable def prims : List (FuncId × (List V → VH → VRes)) := [(50, sortedP [63] 9), (59, noP), (60, noP), (67, noP), (68, noP), (69, noP), (70, noP), (71, noP), (73, noP), (74, noP)]
noncomputable def tab : VTab := mkVp (mkV P noteOf reach [] (fun f => !among [21, 29, 49] f) (among [10, 15, 19, 57, 76]) (fun f g => among2 [] f g) (fun f => !among [] f)) prims
/-! godown/godownlaw14.LockTwice -/
theorem f6_eq (n : Nat) (a0_0 : Int) (a0_1 : Int) (a0_2 : Int) (a1_0 : Int) (a1_1 : Int) (a1_2 : Int) (a2 : Bool) (h : VH) : bodyV P tab (vF P tab n) n 6 [.agg [.int .u8 a0_0, .int .u8 a0_1, .int .u8 a0_2], .agg [.int .u8 a1_0, .int .u8 a1_1, .int .u8 a1_2], .bool a2] h =
  ((callD (vF P tab n) P false (.one (.flat .bool)) 10 [] (List.append (α := VO) (h ++ [.row (39 + boxK) [.int .u8 a0_0, .int .u8 a0_1, .int .u8 a0_2]]) [.row (39 + boxK) [.int .u8 a1_0, .int .u8 a1_1, .int .u8 a1_2]])).bind fun r1 =>
    (cond (!r1.1)
      (some (.bool false, r1.2))
      ((callD (vF P tab n) P false (.one (.flat .ptr)) 11 [] r1.2).bind fun r2 =>
        ((ldV (.agg [.int .u8, .int .u8, .int .u8]) r2.2 (.ob h.length 0)).bind fun x3 =>
          ((callD (vF P tab n) P false (.tup [(.flat .str), (.flat .bool)]) 19 [.agg [.int .u8 x3.1, .int .u8 x3.2.1, .int .u8 x3.2.2.1]] r2.2).bind fun r4 =>
            ((ldV (.agg [.int .u8, .int .u8, .int .u8]) r4.2 (.ob (List.length ((h ++ [.row (39 + boxK) [.int .u8 a0_0, .int .u8 a0_1, .int .u8 a0_2]]) : VH)) 0)).bind fun x5 =>
              ((callD (vF P tab n) P false (.tup [(.flat .str), (.flat .bool)]) 19 [.agg [.int .u8 x5.1, .int .u8 x5.2.1, .int .u8 x5.2.2.1]] r4.2).bind fun r6 =>
                ((callD (vF P tab n) P false (.one (.flat .bool)) 12 [.ptr r2.1, .int .i64 1, .agg [.str r4.1.1, .bool r4.1.2.1]] r6.2).bind fun r7 =>
                  (cond (!r7.1)
                    (some (.bool false, r7.2))
                    ((callD (vF P tab n) P false (.one (.flat .bool)) 12 [.ptr r2.1, .int .i64 1, .agg [.str r4.1.1, .bool r4.1.2.1]] r7.2).bind fun r8 =>
                      (cond (!r8.1)
                        (some (.bool false, r8.2))
                        ((callD (vF P tab n) P false (.one (.flat .bool)) 12 [.ptr r2.1, .int .i64 1, .agg [.str r4.1.1, .bool false]] r8.2).bind fun r9 =>
                        (cond (!r9.1)
                        (some (.bool false, r9.2))
                        ((callD (vF P tab n) P false (.one (.flat .bool)) 12 [.ptr r2.1, .int .i64 2, .agg [.str ⟨#[122]⟩, .bool true]] r9.2).bind fun r10 =>
                        ((callD (vF P tab n) P false (.one (.flat .bool)) 12 [.ptr r2.1, .int .i64 1, .agg [.str ⟨#[122]⟩, .bool a2]] r10.2).bind fun r11 =>
                        ((callD (vF P tab n) P false (.one (.flat .bool)) 12 [.ptr r2.1, .int .i64 1, .agg [.str r6.1.1, .bool r6.1.2.1]] r11.2).bind fun r12 =>
                        ((callD (vF P tab n) P false (.tup [(.agg [.str, .bool]), (.flat .bool)]) 20 [.ptr r2.1, .int .i64 1] r12.2).bind fun r13 =>
                        ((stV (r13.2 ++ [.row (28 + boxK) [.str ⟨#[]⟩, .bool false]]) (.ob r13.2.length 0) [.str r13.1.1.1, .bool r13.1.1.2.1]).bind fun h14 =>
                        (cond (!r11.1)
                        (cond (!r12.1)
                        (cond r13.1.2.1
                        ((ldV (.flat .str) h14 (.ob r13.2.length 0)).bind fun x15 =>
                        (cond (strEq x15 ⟨#[122]⟩)
                        ((ldV (.flat .bool) h14 (.ob r13.2.length 1)).bind fun x16 =>
                        (cond (x16 == a2)
                        ((callD (vF P tab n) P false (.one (.flat (.slice 3))) 21 [.ptr r2.1, .int .i64 1] h14).bind fun r17 =>
                        ((callD (vF P tab n) P false (.one (.flat .bool)) 15 [.sl 3 r17.1, .sl 3 (.fz [[.int .i64 2]] (.ex 1))] r17.2).bind fun r18 =>
                        (cond r18.1
                        ((callD (vF P tab n) P false (.one (.flat (.slice 3))) 13 [.ptr r2.1, .int .i64 1] r18.2).bind fun r19 =>
                        (cond ((((VS.len r19.1 : Nat) : Int) : Int) == 0)
                        ((callD (vF P tab n) P false (.one (.flat (.int .i64))) 14 [.ptr r2.1] r19.2).bind fun r20 =>
                        (some (.bool ((r20.1 : Int) == 1), r20.2)))
                        (some (.bool false, r19.2))))
                        (some (.bool false, r18.2)))))
                        (some (.bool false, h14))))
                        (some (.bool false, h14))))
                        (some (.bool false, h14)))
                        (some (.bool false, h14)))
                        (some (.bool false, h14))))))))))))))))))))) := by kernel_rfl
/-! godown/godownlaw14.LockShares -/
noncomputable def L7_0 (n m : Nat) (s2 : Bool) (s7 : VP) (s8 : Int) (s9 : Int) (s10 : VS) (s11 : Int) (h : VH) : VRes := loopAt P tab 7 [1, 1, 1, 1, 1, 0, 1, 0] n [] m [.undef, .undef, .bool s2, .undef, .undef, .undef, .undef, .ptr s7, .int .i64 s8, .int .i64 s9, .sl 3 s10, .int .i64 s11, .undef, .undef, .undef, .undef, .undef, .undef, .undef, .undef, .undef, .undef, .undef, .undef, .undef, .undef, .undef, .undef, .undef, .undef, .undef, .undef, .undef, .undef, .undef, .undef, .undef, .undef, .undef, .undef, .undef, .undef, .undef, .undef, .undef, .undef, .undef, .undef, .undef, .undef, .undef, .undef, .undef, .undef, .undef, .undef, .undef, .undef, .undef, .undef, .undef, .undef, .undef, .undef, .undef, .undef, .undef, .undef, .undef, .undef, .undef, .undef, .undef, .undef, .undef, .undef, .undef, .undef, .undef, .undef, .undef, .undef, .undef, .undef, .undef, .undef, .undef, .undef, .undef, .undef, .undef, .undef, .undef, .undef, .undef, .undef, .undef, .undef, .undef, .undef, .undef, .undef, .undef, .undef, .undef, .undef, .undef, .undef, .undef, .undef, .undef, .undef, .undef, .undef, .undef, .undef, .undef, .undef, .undef, .undef, .undef, .undef, .undef, .undef, .undef, .undef, .undef] h
noncomputable def L7_1 (n m : Nat) (s2 : Bool) (s7 : VP) (s8 : Int) (s9 : Int) (s13 : Int) (h : VH) : VRes := loopAt P tab 7 [1, 1, 1, 1, 1, 1, 1, 1, 0, 1, 0] n [] m [.undef, .undef, .bool s2, .undef, .undef, .undef, .undef, .ptr s7, .int .i64 s8, .int .i64 s9, .undef, .undef, .undef, .int .i64 s13, .undef, .undef, .undef, .undef, .undef, .undef, .undef, .undef, .undef, .undef, .undef, .undef, .undef, .undef, .undef, .undef, .undef, .undef, .undef, .undef, .undef, .undef, .undef, .undef, .undef, .undef, .undef, .undef, .undef, .undef, .undef, .undef, .undef, .undef, .undef, .undef, .undef, .undef, .undef, .undef, .undef, .undef, .undef, .undef, .undef, .undef, .undef, .undef, .undef, .undef, .undef, .undef, .undef, .undef, .undef, .undef, .undef, .undef, .undef, .undef, .undef, .undef, .undef, .undef, .undef, .undef, .undef, .undef, .undef, .undef, .undef, .undef, .undef, .undef, .undef, .undef, .undef, .undef, .undef, .undef, .undef, .undef, .undef, .undef, .undef, .undef, .undef, .undef, .undef, .undef, .undef, .undef, .undef, .undef, .undef, .undef, .undef, .undef, .undef, .undef, .undef, .undef, .undef, .undef, .undef, .undef, .undef, .undef, .undef, .undef, .undef, .undef, .undef] h
noncomputable def L7_2 (n m : Nat) (s2 : Bool) (s7 : VP) (s8 : Int) (s9 : Int) (s14 : Int) (h : VH) : VRes := loopAt P tab 7 [1, 1, 1, 1, 1, 1, 1, 1, 1, 0, 1, 0] n [] m [.undef, .undef, .bool s2, .undef, .undef, .undef, .undef, .ptr s7, .int .i64 s8, .int .i64 s9, .undef, .undef, .undef, .undef, .int .i64 s14, .undef, .undef, .undef, .undef, .undef, .undef, .undef, .undef, .undef, .undef, .undef, .undef, .undef, .undef, .undef, .undef, .undef, .undef, .undef, .undef, .undef, .undef, .undef, .undef, .undef, .undef, .undef, .undef, .undef, .undef, .undef, .undef, .undef, .undef, .undef, .undef, .undef, .undef, .undef, .undef, .undef, .undef, .undef, .undef, .undef, .undef, .undef, .undef, .undef, .undef, .undef, .undef, .undef, .undef, .undef, .undef, .undef, .undef, .undef, .undef, .undef, .undef, .undef, .undef, .undef, .undef, .undef, .undef, .undef, .undef, .undef, .undef, .undef, .undef, .undef, .undef, .undef, .undef, .undef, .undef, .undef, .undef, .undef, .undef, .undef, .undef, .undef, .undef, .undef, .undef, .undef, .undef, .undef, .undef, .undef, .undef, .undef, .undef, .undef, .undef, .undef, .undef, .undef, .undef, .undef, .undef, .undef, .undef, .undef, .undef, .undef, .undef] h
theorem L7_0_eq (n m : Nat) (s2 : Bool) (s7 : VP) (s8 : Int) (s9 : Int) (s10 : VS) (s11 : Int) (h : VH) : L7_0 n (m + 1) s2 s7 s8 s9 s10 s11 h =
  (cond (decide ((s11 : Int) < s8))
    ((callD (vF P tab n) P false (.one (.flat .bool)) 12 [.ptr s7, .int .i64 s11, .agg [.str ⟨#[97]⟩, .bool false]] h).bind fun r1 =>
      (cond (!r1.1)
        (some (.bool false, r1.2))
        ((appD true r1.2 1 8 3 s10 (.fz [[.int .i64 s11]] (.ex 1))).bind fun r2 =>
          (L7_0 n m s2 s7 s8 s9 r2.1 (IntKind.wrap .i64 (s11 + 1)) r2.2))))
    ((callD (vF P tab n) P false (.one (.flat .bool)) 12 [.ptr s7, .int .i64 50, .agg [.str ⟨#[97]⟩, .bool true]] h).bind fun r3 =>
      (cond (!(r3.1 == ((s8 : Int) == 0)))
        (some (.bool false, r3.2))
        ((callD (vF P tab n) P false (.one (.flat (.slice 3))) 21 [.ptr s7, .int .i64 50] r3.2).bind fun r4 =>
          ((callD (vF P tab n) P false (.one (.flat .bool)) 15 [.sl 3 r4.1, .sl 3 s10] r4.2).bind fun r5 =>
            (cond (!r5.1)
              (cond (decide ((s8 : Int) > 0))
                (some (.bool false, r5.2))
                (L7_1 n n s2 s7 s8 s9 0 r5.2))
              (L7_1 n n s2 s7 s8 s9 0 r5.2))))))) := by kernel_rfl
theorem L7_1_eq (n m : Nat) (s2 : Bool) (s7 : VP) (s8 : Int) (s9 : Int) (s13 : Int) (h : VH) : L7_1 n (m + 1) s2 s7 s8 s9 s13 h =
  (cond (decide ((s13 : Int) < s9))
    ((callD (vF P tab n) P false (.one (.flat .bool)) 12 [.ptr s7, .int .i64 (IntKind.wrap .i64 (60 + s13)), .agg [.str ⟨#[97]⟩, .bool false]] h).bind fun r1 =>
      (cond r1.1
        (some (.bool false, r1.2))
        (L7_1 n m s2 s7 s8 s9 (IntKind.wrap .i64 (s13 + 1)) r1.2)))
    (L7_2 n n s2 s7 s8 s9 0 h)) := by kernel_rfl
theorem L7_2_eq (n m : Nat) (s2 : Bool) (s7 : VP) (s8 : Int) (s9 : Int) (s14 : Int) (h : VH) : L7_2 n (m + 1) s2 s7 s8 s9 s14 h =
  (cond (decide ((s14 : Int) < s8))
    ((callD (vF P tab n) P false (.one (.flat (.slice 3))) 13 [.ptr s7, .int .i64 s14] h).bind fun r1 =>
      (cond (decide ((s14 : Int) < (IntKind.wrap .i64 (s8 - 1))))
        (cond (decide ((((VS.len r1.1 : Nat) : Int) : Int) > 0))
          (some (.bool false, r1.2))
          (cond ((s14 : Int) == (IntKind.wrap .i64 (s8 - 1)))
            ((callD (vF P tab n) P false (.one (.flat .bool)) 15 [.sl 3 r1.1, .sl 3 (.fz [[.int .i64 50]] (.ex 1))] r1.2).bind fun r2 =>
              (cond (!r2.1)
                (some (.bool false, r2.2))
                (L7_2 n m s2 s7 s8 s9 (IntKind.wrap .i64 (s14 + 1)) r2.2)))
            (L7_2 n m s2 s7 s8 s9 (IntKind.wrap .i64 (s14 + 1)) r1.2)))
        (cond ((s14 : Int) == (IntKind.wrap .i64 (s8 - 1)))
          ((callD (vF P tab n) P false (.one (.flat .bool)) 15 [.sl 3 r1.1, .sl 3 (.fz [[.int .i64 50]] (.ex 1))] r1.2).bind fun r3 =>
            (cond (!r3.1)
              (some (.bool false, r3.2))
              (L7_2 n m s2 s7 s8 s9 (IntKind.wrap .i64 (s14 + 1)) r3.2)))
          (L7_2 n m s2 s7 s8 s9 (IntKind.wrap .i64 (s14 + 1)) r1.2))))
    ((callD (vF P tab n) P false (.one (.flat .bool)) 16 [.ptr s7, .str ⟨#[97]⟩] h).bind fun r4 =>
      (cond r4.1
        ((callD (vF P tab n) P false (.one (.flat (.slice 3))) 17 [.ptr s7, .str ⟨#[97]⟩] r4.2).bind fun r5 =>
          ((callD (vF P tab n) P false (.one (.flat .bool)) 15 [.sl 3 r5.1, .sl 3 (.fz [[.int .i64 50]] (.ex 1))] r5.2).bind fun r6 =>
            (cond r6.1
              ((callD (vF P tab n) P false (.one (.flat (.slice 3))) 13 [.ptr s7, .int .i64 50] r6.2).bind fun r7 =>
                (cond ((((VS.len r7.1 : Nat) : Int) : Int) == s9)
                  ((callD (vF P tab n) P false (.one (.flat (.slice 3))) 17 [.ptr s7, .str ⟨#[97]⟩] r7.2).bind fun r8 =>
                    (cond ((((VS.len r8.1 : Nat) : Int) : Int) == s9)
                      (cond s2
                        (some (.bool true, r8.2))
                        ((callD (vF P tab n) P false (.one (.flat (.slice 3))) 18 [.ptr s7, .str ⟨#[97]⟩] r8.2).bind fun r9 =>
                        (some (.bool ((((VS.len r9.1 : Nat) : Int) : Int) == 0), r9.2))))
                      (some (.bool false, r8.2))))
                  (some (.bool false, r7.2))))
              (some (.bool false, r6.2)))))
        (some (.bool false, r4.2))))) := by kernel_rfl
theorem f7_eq (n : Nat) (a0 : Int) (a1 : Int) (a2 : Bool) (h : VH) : bodyV P tab (vF P tab n) n 7 [.int .u8 a0, .int .u8 a1, .bool a2] h =
  ((callD (vF P tab n) P false (.one (.flat .bool)) 10 [] h).bind fun r1 =>
    (cond (!r1.1)
      (some (.bool false, r1.2))
      ((callD (vF P tab n) P false (.one (.flat .ptr)) 11 [] r1.2).bind fun r2 =>
        ((remI a0 8).bind fun x3 =>
          ((remI a1 5).bind fun x4 =>
            (L7_0 n n a2 r2.1 (IntKind.wrap .i64 x3) (IntKind.wrap .i64 x4) .nil 0 r2.2)))))) := by kernel_rfl
/-! godown/godownlaw14.LockNil -/
theorem f9_eq (n : Nat) (a0 : Int) (a1 : ByteArray) (a2 : Bool) (h : VH) : bodyV P tab (vF P tab n) n 9 [.int .i64 a0, .str a1, .bool a2] h =
  ((callD (vF P tab n) P false (.tup [(.agg [.str, .bool]), (.flat .bool)]) 20 [.ptr .nil, .int .i64 a0] h).bind fun r1 =>
    ((stV (r1.2 ++ [.row (28 + boxK) [.str ⟨#[]⟩, .bool false]]) (.ob r1.2.length 0) [.str r1.1.1.1, .bool r1.1.1.2.1]).bind fun h2 =>
      ((callD (vF P tab n) P false (.one (.flat .bool)) 10 [] h2).bind fun r3 =>
        (cond r3.1
          ((callD (vF P tab n) P false (.one (.flat .bool)) 12 [.ptr .nil, .int .i64 a0, .agg [.str a1, .bool a2]] r3.2).bind fun r4 =>
            (cond (!r4.1)
              ((callD (vF P tab n) P false (.one (.flat (.slice 3))) 13 [.ptr .nil, .int .i64 a0] r4.2).bind fun r5 =>
                ((callD (vF P tab n) P false (.one (.flat (.slice 3))) 17 [.ptr .nil, .str a1] r5.2).bind fun r6 =>
                  ((callD (vF P tab n) P false (.one (.flat (.slice 3))) 18 [.ptr .nil, .str a1] r6.2).bind fun r7 =>
                    ((callD (vF P tab n) P false (.one (.flat (.slice 28))) 25 [.ptr .nil, .int .i64 a0] r7.2).bind fun r8 =>
                      ((callD (vF P tab n) P false (.one (.flat (.slice 3))) 21 [.ptr .nil, .int .i64 a0] r8.2).bind fun r9 =>
                        ((callD (vF P tab n) P false (.one (.flat (.int .i64))) 14 [.ptr .nil] r9.2).bind fun r10 =>
                        (cond (((IntKind.wrap .i64 ((IntKind.wrap .i64 ((IntKind.wrap .i64 ((IntKind.wrap .i64 ((IntKind.wrap .i64 (((VS.len r5.1 : Nat) : Int) + ((VS.len r6.1 : Nat) : Int))) + ((VS.len r7.1 : Nat) : Int))) + ((VS.len r8.1 : Nat) : Int))) + ((VS.len r9.1 : Nat) : Int))) + r10.1)) : Int) == 0)
                        ((callD (vF P tab n) P false (.one (.flat .bool)) 16 [.ptr .nil, .str a1] r10.2).bind fun r11 =>
                        (cond (!r11.1)
                        (some (.bool (!r1.1.2.1), r11.2))
                        (some (.bool false, r11.2))))
                        (some (.bool false, r10.2)))))))))
              (some (.bool false, r4.2))))
          (some (.bool false, r3.2)))))) := by kernel_rfl
/-! godown/godownlaw14.need -/
theorem f19_eq (n : Nat) (a0_0 : Int) (a0_1 : Int) (a0_2 : Int) (h : VH) : bodyV P tab (vF P tab n) n 19 [.agg [.int .u8 a0_0, .int .u8 a0_1, .int .u8 a0_2]] h =
  ((ldV (.flat (.int .u8)) (h ++ [.row (39 + boxK) [.int .u8 a0_0, .int .u8 a0_1, .int .u8 a0_2]]) (.ob h.length 1)).bind fun x1 =>
    ((remI x1 4).bind fun x2 =>
      ((strV (h ++ [.row (39 + boxK) [.int .u8 a0_0, .int .u8 a0_1, .int .u8 a0_2]]) 5 (.fz [[.int .u8 (IntKind.wrap .u8 (97 + x2))]] (.ex 1))).bind fun z3 =>
        ((ldV (.flat (.int .u8)) (h ++ [.row (39 + boxK) [.int .u8 a0_0, .int .u8 a0_1, .int .u8 a0_2]]) (.ob h.length 2)).bind fun x4 =>
          ((quoI .u8 x4 4).bind fun x5 =>
            ((remI x5 2).bind fun x6 =>
              (some (.tup [.str z3, .bool ((x6 : Int) == 0)], (h ++ [.row (39 + boxK) [.int .u8 a0_0, .int .u8 a0_1, .int .u8 a0_2]]))))))))) := by kernel_rfl
/-! (*godown/lock.Table).Ask -/
theorem f12_eq (n : Nat) (a0 : VP) (a1 : Int) (a2_0 : ByteArray) (a2_1 : Bool) (h : VH) : bodyV P tab (vF P tab n) n 12 [.ptr a0, .int .i64 a1, .agg [.str a2_0, .bool a2_1]] h =
  (cond (VP.isNil a0)
    (some (.bool false, (h ++ [.row (28 + boxK) [.str a2_0, .bool a2_1]])))
    ((nn a0).bind fun p1 =>
      ((atO p1 1).bind fun p2 =>
        ((ldV (.flat .map) (h ++ [.row (28 + boxK) [.str a2_0, .bool a2_1]]) p2).bind fun x3 =>
          ((V.lookD P 9 (.flat .str) (h ++ [.row (28 + boxK) [.str a2_0, .bool a2_1]]) (.int .i64) x3 (.int .i64 a1)).bind fun x4 =>
            (cond x4.2
              (some (.bool false, (h ++ [.row (28 + boxK) [.str a2_0, .bool a2_1]])))
              ((ldV (.flat .str) (h ++ [.row (28 + boxK) [.str a2_0, .bool a2_1]]) (.ob h.length 0)).bind fun x5 =>
                ((callD (vF P tab n) P false (.one (.flat .ptr)) 26 [.ptr a0, .str x5] (h ++ [.row (28 + boxK) [.str a2_0, .bool a2_1]])).bind fun r6 =>
                  ((nn r6.1).bind fun p7 =>
                    ((atO p7 0).bind fun p8 =>
                      ((ldV (.flat (.slice 3)) r6.2 p8).bind fun x9 =>
                        ((callD (vF P tab n) P false (.one (.flat .bool)) 27 [.sl 3 x9, .int .i64 a1] r6.2).bind fun r10 =>
                        (cond r10.1
                        ((nn r6.1).bind fun p11 =>
                        ((atO p11 1).bind fun p12 =>
                        ((ldV (.flat .bool) r10.2 p12).bind fun x13 =>
                        (cond x13
                        (some (.bool true, r10.2))
                        ((ldV (.flat .bool) r10.2 (.ob h.length 1)).bind fun x14 =>
                        (cond (!x14)
                        (some (.bool true, r10.2))
                        ((ldV (.flat .bool) r10.2 (.ob h.length 1)).bind fun x15 =>
                        ((stV (r10.2 ++ [.row (70 + boxK) [.int .i64 0, .bool false, .bool false]]) (.ob r10.2.length 0) [.int .i64 a1, .bool x15, .bool r10.1]).bind fun h16 =>
                        ((ldV (.agg [.int .i64, .bool, .bool]) h16 (.ob r10.2.length 0)).bind fun x17 =>
                        ((callD (vF P tab n) P false (.one (.flat .bool)) 28 [.ptr r6.1, .agg [.int .i64 x17.1, .bool x17.2.1, .bool x17.2.2.1]] h16).bind fun r18 =>
                        (cond r18.1
                        (cond r10.1
                        ((ldV (.agg [.int .i64, .bool, .bool]) r18.2 (.ob r10.2.length 0)).bind fun x19 =>
                        ((callD (vF P tab n) P false (.tup []) 29 [.ptr r6.1, .agg [.int .i64 x19.1, .bool x19.2.1, .bool x19.2.2.1]] r18.2).bind fun r20 =>
                        (some (.bool true, r20.2))))
                        ((nn r6.1).bind fun p21 =>
                        ((atO p21 2).bind fun p22 =>
                        ((ldV (.flat (.slice 70)) r18.2 p22).bind fun x23 =>
                        (cond ((((VS.len x23 : Nat) : Int) : Int) == 0)
                        ((ldV (.agg [.int .i64, .bool, .bool]) r18.2 (.ob r10.2.length 0)).bind fun x24 =>
                        ((callD (vF P tab n) P false (.tup []) 29 [.ptr r6.1, .agg [.int .i64 x24.1, .bool x24.2.1, .bool x24.2.2.1]] r18.2).bind fun r25 =>
                        (some (.bool true, r25.2))))
                        ((ldV (.flat .str) r18.2 (.ob h.length 0)).bind fun x26 =>
                        ((ldV (.agg [.int .i64, .bool, .bool]) r18.2 (.ob r10.2.length 0)).bind fun x27 =>
                        ((callD (vF P tab n) P false (.tup []) 30 [.ptr a0, .str x26, .agg [.int .i64 x27.1, .bool x27.2.1, .bool x27.2.2.1]] r18.2).bind fun r28 =>
                        (some (.bool false, r28.2))))))))))
                        ((ldV (.flat .str) r18.2 (.ob h.length 0)).bind fun x29 =>
                        ((ldV (.agg [.int .i64, .bool, .bool]) r18.2 (.ob r10.2.length 0)).bind fun x30 =>
                        ((callD (vF P tab n) P false (.tup []) 30 [.ptr a0, .str x29, .agg [.int .i64 x30.1, .bool x30.2.1, .bool x30.2.2.1]] r18.2).bind fun r31 =>
                        (some (.bool false, r31.2))))))))))))))))
                        ((ldV (.flat .bool) r10.2 (.ob h.length 1)).bind fun x32 =>
                        ((stV (r10.2 ++ [.row (70 + boxK) [.int .i64 0, .bool false, .bool false]]) (.ob r10.2.length 0) [.int .i64 a1, .bool x32, .bool r10.1]).bind fun h33 =>
                        ((ldV (.agg [.int .i64, .bool, .bool]) h33 (.ob r10.2.length 0)).bind fun x34 =>
                        ((callD (vF P tab n) P false (.one (.flat .bool)) 28 [.ptr r6.1, .agg [.int .i64 x34.1, .bool x34.2.1, .bool x34.2.2.1]] h33).bind fun r35 =>
                        (cond r35.1
                        (cond r10.1
                        ((ldV (.agg [.int .i64, .bool, .bool]) r35.2 (.ob r10.2.length 0)).bind fun x36 =>
                        ((callD (vF P tab n) P false (.tup []) 29 [.ptr r6.1, .agg [.int .i64 x36.1, .bool x36.2.1, .bool x36.2.2.1]] r35.2).bind fun r37 =>
                        (some (.bool true, r37.2))))
                        ((nn r6.1).bind fun p38 =>
                        ((atO p38 2).bind fun p39 =>
                        ((ldV (.flat (.slice 70)) r35.2 p39).bind fun x40 =>
                        (cond ((((VS.len x40 : Nat) : Int) : Int) == 0)
                        ((ldV (.agg [.int .i64, .bool, .bool]) r35.2 (.ob r10.2.length 0)).bind fun x41 =>
                        ((callD (vF P tab n) P false (.tup []) 29 [.ptr r6.1, .agg [.int .i64 x41.1, .bool x41.2.1, .bool x41.2.2.1]] r35.2).bind fun r42 =>
                        (some (.bool true, r42.2))))
                        ((ldV (.flat .str) r35.2 (.ob h.length 0)).bind fun x43 =>
                        ((ldV (.agg [.int .i64, .bool, .bool]) r35.2 (.ob r10.2.length 0)).bind fun x44 =>
                        ((callD (vF P tab n) P false (.tup []) 30 [.ptr a0, .str x43, .agg [.int .i64 x44.1, .bool x44.2.1, .bool x44.2.2.1]] r35.2).bind fun r45 =>
                        (some (.bool false, r45.2))))))))))
                        ((ldV (.flat .str) r35.2 (.ob h.length 0)).bind fun x46 =>
                        ((ldV (.agg [.int .i64, .bool, .bool]) r35.2 (.ob r10.2.length 0)).bind fun x47 =>
                        ((callD (vF P tab n) P false (.tup []) 30 [.ptr a0, .str x46, .agg [.int .i64 x47.1, .bool x47.2.1, .bool x47.2.2.1]] r35.2).bind fun r48 =>
                        (some (.bool false, r48.2))))))))))))))))))))))) := by kernel_rfl
/-! (*godown/lock.Table).Free -/
noncomputable def L13_0 (n m : Nat) (s0 : VP) (s1 : Int) (s5 : VS) (s10 : VS) (s11 : Int) (s12 : Int) (h : VH) : VRes := loopAt P tab 13 [1, 1, 0, 1, 0] n [] m [.ptr s0, .int .i64 s1, .undef, .undef, .undef, .sl 3 s5, .undef, .undef, .undef, .undef, .sl 9 s10, .int .i64 s11, .int .i64 s12, .undef, .undef, .undef, .undef, .undef, .undef, .undef, .undef, .undef, .undef, .undef, .undef, .undef, .undef, .undef, .undef, .undef, .undef, .undef, .undef, .undef, .undef, .undef, .undef, .undef, .undef, .undef, .undef, .undef, .undef, .undef, .undef, .undef, .undef, .undef, .undef, .undef, .undef, .undef, .undef, .undef, .undef, .undef] h
theorem L13_0_eq (n m : Nat) (s0 : VP) (s1 : Int) (s5 : VS) (s10 : VS) (s11 : Int) (s12 : Int) (h : VH) : L13_0 n (m + 1) s0 s1 s5 s10 s11 s12 h =
  (cond (decide ((s12 : Int) < s11))
    ((ixV 1 s10 s12).bind fun p1 =>
      ((ldV (.flat .str) h p1).bind fun x2 =>
        ((nn s0).bind fun p3 =>
          ((atO p3 0).bind fun p4 =>
            ((ldV (.flat .map) h p4).bind fun x5 =>
              ((V.lookD P 63 (.flat .ptr) h .str x5 (.str x2)).bind fun x6 =>
                ((callD (vF P tab n) P false (.one (.flat .bool)) 32 [.ptr x6.1, .int .i64 s1] h).bind fun r7 =>
                  (cond r7.1
                    ((callD (vF P tab n) P false (.one (.flat (.slice 3))) 33 [.ptr s0, .ptr x6.1] r7.2).bind fun r8 =>
                      ((appD true r8.2 1 8 3 s5 r8.1).bind fun r9 =>
                        ((nn x6.1).bind fun p10 =>
                        ((atO p10 0).bind fun p11 =>
                        ((ldV (.flat (.slice 3)) r9.2 p11).bind fun x12 =>
                        ((nn x6.1).bind fun p13 =>
                        ((atO p13 2).bind fun p14 =>
                        ((ldV (.flat (.slice 70)) r9.2 p14).bind fun x15 =>
                        (cond (((IntKind.wrap .i64 (((VS.len x12 : Nat) : Int) + ((VS.len x15 : Nat) : Int))) : Int) == 0)
                        ((nn s0).bind fun p16 =>
                        ((atO p16 0).bind fun p17 =>
                        ((ldV (.flat .map) r9.2 p17).bind fun x18 =>
                        ((V.cutMD r9.2 .str x18 (.str x2)).bind fun h19 =>
                        (L13_0 n m s0 s1 r9.1 s10 s11 (IntKind.wrap .i64 (s12 + 1)) h19)))))
                        (L13_0 n m s0 s1 r9.1 s10 s11 (IntKind.wrap .i64 (s12 + 1)) r9.2))))))))))
                    ((nn x6.1).bind fun p20 =>
                      ((atO p20 0).bind fun p21 =>
                        ((ldV (.flat (.slice 3)) r7.2 p21).bind fun x22 =>
                        ((nn x6.1).bind fun p23 =>
                        ((atO p23 2).bind fun p24 =>
                        ((ldV (.flat (.slice 70)) r7.2 p24).bind fun x25 =>
                        (cond (((IntKind.wrap .i64 (((VS.len x22 : Nat) : Int) + ((VS.len x25 : Nat) : Int))) : Int) == 0)
                        ((nn s0).bind fun p26 =>
                        ((atO p26 0).bind fun p27 =>
                        ((ldV (.flat .map) r7.2 p27).bind fun x28 =>
                        ((V.cutMD r7.2 .str x28 (.str x2)).bind fun h29 =>
                        (L13_0 n m s0 s1 s5 s10 s11 (IntKind.wrap .i64 (s12 + 1)) h29)))))
                        (L13_0 n m s0 s1 s5 s10 s11 (IntKind.wrap .i64 (s12 + 1)) r7.2))))))))))))))))
    (cond (!VP.isNil s0)
      ((nn s0).bind fun p30 =>
        ((atO p30 1).bind fun p31 =>
          ((ldV (.flat .map) h p31).bind fun x32 =>
            ((V.cutMD h (.int .i64) x32 (.int .i64 s1)).bind fun h33 =>
              (some (.sl 3 s5, h33))))))
      (some (.sl 3 s5, h)))) := by kernel_rfl
theorem f13_eq (n : Nat) (a0 : VP) (a1 : Int) (h : VH) : bodyV P tab (vF P tab n) n 13 [.ptr a0, .int .i64 a1] h =
  ((callD (vF P tab n) P false (.one (.flat (.slice 9))) 31 [.ptr a0] h).bind fun r1 =>
    (L13_0 n n a0 a1 .nil r1.1 ((VS.len r1.1 : Nat) : Int) 0 r1.2)) := by kernel_rfl
/-! (*godown/lock.Table).Holders -/
theorem f17_eq (n : Nat) (a0 : VP) (a1 : ByteArray) (h : VH) : bodyV P tab (vF P tab n) n 17 [.ptr a0, .str a1] h =
  ((callD (vF P tab n) P false (.one (.agg [.slice 3, .bool, .slice 70])) 34 [.ptr a0, .str a1] h).bind fun r1 =>
    ((callD (vF P tab n) P false (.one (.flat (.slice 3))) 35 [.sl 3 r1.1.1] r1.2).bind fun r2 =>
      (some (.sl 3 r2.1, r2.2)))) := by kernel_rfl
/-! (*godown/lock.Table).Queue -/
noncomputable def L18_0 (n m : Nat) (s5 : VS) (s11 : VS) (s12 : Int) (s13 : Int) (h : VH) : VRes := loopAt P tab 18 [1, 1, 0, 1, 0] n [] m [.undef, .undef, .undef, .undef, .undef, .sl 3 s5, .undef, .undef, .undef, .undef, .undef, .sl 70 s11, .int .i64 s12, .int .i64 s13, .undef, .undef, .undef, .undef, .undef, .undef, .undef, .undef, .undef, .undef] h
theorem L18_0_eq (n m : Nat) (s5 : VS) (s11 : VS) (s12 : Int) (s13 : Int) (h : VH) : L18_0 n (m + 1) s5 s11 s12 s13 h =
  (cond (decide ((s13 : Int) < s12))
    ((ixV 3 s11 s13).bind fun p1 =>
      ((ldV (.agg [.int .i64, .bool, .bool]) h p1).bind fun x2 =>
        ((stV (h ++ [.row (70 + boxK) [.int .i64 0, .bool false, .bool false]]) (.ob h.length 0) [.int .i64 x2.1, .bool x2.2.1, .bool x2.2.2.1]).bind fun h3 =>
          ((ldV (.flat (.int .i64)) h3 (.ob h.length 0)).bind fun x4 =>
            ((appD true h3 1 8 3 s5 (.fz [[.int .i64 x4]] (.ex 1))).bind fun r5 =>
              (L18_0 n m r5.1 s11 s12 (IntKind.wrap .i64 (s13 + 1)) r5.2))))))
    (some (.sl 3 s5, h))) := by kernel_rfl
theorem f18_eq (n : Nat) (a0 : VP) (a1 : ByteArray) (h : VH) : bodyV P tab (vF P tab n) n 18 [.ptr a0, .str a1] h =
  ((callD (vF P tab n) P false (.one (.agg [.slice 3, .bool, .slice 70])) 34 [.ptr a0, .str a1] h).bind fun r1 =>
    (L18_0 n n .nil r1.1.2.2.1 ((VS.len r1.1.2.2.1 : Nat) : Int) 0 r1.2)) := by kernel_rfl
/-! (*godown/lock.Table).Holds -/
noncomputable def L25_0 (n m : Nat) (s0 : VP) (s1 : Int) (s5 : VS) (s10 : VS) (s11 : Int) (s12 : Int) (h : VH) : VRes := loopAt P tab 25 [1, 1, 0, 1, 0] n [] m [.ptr s0, .int .i64 s1, .undef, .undef, .undef, .sl 28 s5, .undef, .undef, .undef, .undef, .sl 9 s10, .int .i64 s11, .int .i64 s12, .undef, .undef, .undef, .undef, .undef, .undef, .undef, .undef, .undef, .undef, .undef, .undef, .undef, .undef, .undef, .undef, .undef, .undef, .undef, .undef, .undef, .undef, .undef, .undef, .undef, .undef] h
theorem L25_0_eq (n m : Nat) (s0 : VP) (s1 : Int) (s5 : VS) (s10 : VS) (s11 : Int) (s12 : Int) (h : VH) : L25_0 n (m + 1) s0 s1 s5 s10 s11 s12 h =
  (cond (decide ((s12 : Int) < s11))
    ((ixV 1 s10 s12).bind fun p1 =>
      ((ldV (.flat .str) h p1).bind fun x2 =>
        ((nn s0).bind fun p3 =>
          ((atO p3 0).bind fun p4 =>
            ((ldV (.flat .map) h p4).bind fun x5 =>
              ((V.lookD P 63 (.flat .ptr) h .str x5 (.str x2)).bind fun x6 =>
                ((nn x6.1).bind fun p7 =>
                  ((atO p7 0).bind fun p8 =>
                    ((ldV (.flat (.slice 3)) h p8).bind fun x9 =>
                      ((callD (vF P tab n) P false (.one (.flat .bool)) 27 [.sl 3 x9, .int .i64 s1] h).bind fun r10 =>
                        (cond r10.1
                        ((nn x6.1).bind fun p11 =>
                        ((atO p11 1).bind fun p12 =>
                        ((ldV (.flat .bool) r10.2 p12).bind fun x13 =>
                        ((appD true r10.2 2 24 28 s5 (.fz [[.str x2, .bool x13]] (.ex 1))).bind fun r14 =>
                        (L25_0 n m s0 s1 r14.1 s10 s11 (IntKind.wrap .i64 (s12 + 1)) r14.2)))))
                        (L25_0 n m s0 s1 s5 s10 s11 (IntKind.wrap .i64 (s12 + 1)) r10.2))))))))))))
    (some (.sl 28 s5, h))) := by kernel_rfl
theorem f25_eq (n : Nat) (a0 : VP) (a1 : Int) (h : VH) : bodyV P tab (vF P tab n) n 25 [.ptr a0, .int .i64 a1] h =
  ((callD (vF P tab n) P false (.one (.flat (.slice 9))) 31 [.ptr a0] h).bind fun r1 =>
    (L25_0 n n a0 a1 .nil r1.1 ((VS.len r1.1 : Nat) : Int) 0 r1.2)) := by kernel_rfl
/-! (*godown/lock.Table).Ahead -/
noncomputable def L21_0 (n m : Nat) (s1 : Int) (s5 : Nat) (s7 : VP) (s8 : VS) (s31 : VS) (s32 : Int) (s33 : Int) (h : VH) : VRes := loopAt P tab 21 [1, 1, 1, 1, 1, 0, 1, 0] n [] m [.undef, .int .i64 s1, .undef, .undef, .undef, .ptr (.ob s5 0), .undef, .ptr s7, .sl 3 s8, .undef, .undef, .undef, .undef, .undef, .undef, .undef, .undef, .undef, .undef, .undef, .undef, .undef, .undef, .undef, .undef, .undef, .undef, .undef, .undef, .undef, .undef, .sl 3 s31, .int .i64 s32, .int .i64 s33, .undef, .undef, .undef, .undef, .undef, .undef, .undef, .undef, .undef, .undef, .undef, .undef, .undef, .undef, .undef, .undef, .undef, .undef, .undef, .undef, .undef, .undef, .undef, .undef, .undef, .undef, .undef, .undef, .undef, .undef, .undef, .undef, .undef, .undef, .undef, .undef, .undef, .undef, .undef, .undef, .undef, .undef, .undef, .undef] h
noncomputable def L21_1 (n m : Nat) (s1 : Int) (s8 : VS) (s58 : VS) (s59 : Int) (s60 : Int) (h : VH) : VRes := loopAt P tab 21 [1, 1, 1, 1, 1, 1, 0, 1, 0] n [] m [.undef, .int .i64 s1, .undef, .undef, .undef, .undef, .undef, .undef, .sl 3 s8, .undef, .undef, .undef, .undef, .undef, .undef, .undef, .undef, .undef, .undef, .undef, .undef, .undef, .undef, .undef, .undef, .undef, .undef, .undef, .undef, .undef, .undef, .undef, .undef, .undef, .undef, .undef, .undef, .undef, .undef, .undef, .undef, .undef, .undef, .undef, .undef, .undef, .undef, .undef, .undef, .undef, .undef, .undef, .undef, .undef, .undef, .undef, .undef, .undef, .sl 70 s58, .int .i64 s59, .int .i64 s60, .undef, .undef, .undef, .undef, .undef, .undef, .undef, .undef, .undef, .undef, .undef, .undef, .undef, .undef, .undef, .undef, .undef] h
theorem L21_0_eq (n m : Nat) (s1 : Int) (s5 : Nat) (s7 : VP) (s8 : VS) (s31 : VS) (s32 : Int) (s33 : Int) (h : VH) : L21_0 n (m + 1) s1 s5 s7 s8 s31 s32 s33 h =
  (cond (decide ((s33 : Int) < s32))
    ((ixV 1 s31 s33).bind fun p1 =>
      ((ldV (.flat (.int .i64)) h p1).bind fun x2 =>
        (cond ((x2 : Int) != s1)
          ((ldV (.flat .bool) h (.ob s5 1)).bind fun x3 =>
            (cond x3
              ((appD false (h ++ [.row 3 [.int .i64 x2]]) 1 8 3 s8 (.hp h.length 0 1)).bind fun r4 =>
                (L21_0 n m s1 s5 s7 r4.1 s31 s32 (IntKind.wrap .i64 (s33 + 1)) r4.2))
              ((nn s7).bind fun p5 =>
                ((atO p5 1).bind fun p6 =>
                  ((ldV (.flat .bool) h p6).bind fun x7 =>
                    (cond x7
                      ((appD false (h ++ [.row 3 [.int .i64 x2]]) 1 8 3 s8 (.hp h.length 0 1)).bind fun r8 =>
                        (L21_0 n m s1 s5 s7 r8.1 s31 s32 (IntKind.wrap .i64 (s33 + 1)) r8.2))
                      (L21_0 n m s1 s5 s7 s8 s31 s32 (IntKind.wrap .i64 (s33 + 1)) h)))))))
          (L21_0 n m s1 s5 s7 s8 s31 s32 (IntKind.wrap .i64 (s33 + 1)) h))))
    ((nn s7).bind fun p9 =>
      ((atO p9 2).bind fun p10 =>
        ((ldV (.flat (.slice 70)) h p10).bind fun x11 =>
          (L21_1 n n s1 s8 x11 ((VS.len x11 : Nat) : Int) 0 h))))) := by kernel_rfl
theorem L21_1_eq (n m : Nat) (s1 : Int) (s8 : VS) (s58 : VS) (s59 : Int) (s60 : Int) (h : VH) : L21_1 n (m + 1) s1 s8 s58 s59 s60 h =
  (cond (decide ((s60 : Int) < s59))
    ((ixV 3 s58 s60).bind fun p1 =>
      ((ldV (.agg [.int .i64, .bool, .bool]) h p1).bind fun x2 =>
        ((stV (h ++ [.row (70 + boxK) [.int .i64 0, .bool false, .bool false]]) (.ob h.length 0) [.int .i64 x2.1, .bool x2.2.1, .bool x2.2.2.1]).bind fun h3 =>
          ((ldV (.flat (.int .i64)) h3 (.ob h.length 0)).bind fun x4 =>
            (cond ((x4 : Int) == s1)
              ((callD (vF P tab n) P false (.tup []) 36 [.sl 3 s8] h3).bind fun r5 =>
                ((callD (vF P tab n) P false (.one (.flat (.slice 3))) 37 [.sl 3 s8] r5.2).bind fun r6 =>
                  (some (.sl 3 r6.1, r6.2))))
              ((ldV (.flat (.int .i64)) h3 (.ob h.length 0)).bind fun x7 =>
                ((appD false (h3 ++ [.row 3 [.int .i64 x7]]) 1 8 3 s8 (.hp h3.length 0 1)).bind fun r8 =>
                  (L21_1 n m s1 r8.1 s58 s59 (IntKind.wrap .i64 (s60 + 1)) r8.2))))))))
    ((callD (vF P tab n) P false (.tup []) 36 [.sl 3 s8] h).bind fun r9 =>
      ((callD (vF P tab n) P false (.one (.flat (.slice 3))) 37 [.sl 3 s8] r9.2).bind fun r10 =>
        (some (.sl 3 r10.1, r10.2))))) := by kernel_rfl
theorem f21_eq (n : Nat) (a0 : VP) (a1 : Int) (h : VH) : bodyV P tab (vF P tab n) n 21 [.ptr a0, .int .i64 a1] h =
  ((callD (vF P tab n) P false (.tup [(.agg [.str, .bool]), (.flat .bool)]) 20 [.ptr a0, .int .i64 a1] h).bind fun r1 =>
    ((stV (r1.2 ++ [.row (28 + boxK) [.str ⟨#[]⟩, .bool false]]) (.ob r1.2.length 0) [.str r1.1.1.1, .bool r1.1.1.2.1]).bind fun h2 =>
      (cond (!r1.1.2.1)
        (some (.sl 3 .nil, h2))
        ((nn a0).bind fun p3 =>
          ((atO p3 0).bind fun p4 =>
            ((ldV (.flat .map) h2 p4).bind fun x5 =>
              ((ldV (.flat .str) h2 (.ob r1.2.length 0)).bind fun x6 =>
                ((V.lookD P 63 (.flat .ptr) h2 .str x5 (.str x6)).bind fun x7 =>
                  ((nn x7.1).bind fun p8 =>
                    ((atO p8 0).bind fun p9 =>
                      ((ldV (.flat (.slice 3)) h2 p9).bind fun x10 =>
                        (L21_0 n n a1 r1.2.length x7.1 .nil x10 ((VS.len x10 : Nat) : Int) 0 h2)))))))))))) := by kernel_rfl
/-! (*godown/lock.Table).Len -/
theorem f14_eq (n : Nat) (a0 : VP) (h : VH) : bodyV P tab (vF P tab n) n 14 [.ptr a0] h =
  ((callD (vF P tab n) P false (.one (.flat (.slice 9))) 31 [.ptr a0] h).bind fun r1 =>
    (some (.int .i64 ((VS.len r1.1 : Nat) : Int), r1.2))) := by kernel_rfl
/-! (*godown/lock.Table).Only -/
theorem f16_eq (n : Nat) (a0 : VP) (a1 : ByteArray) (h : VH) : bodyV P tab (vF P tab n) n 16 [.ptr a0, .str a1] h =
  ((callD (vF P tab n) P false (.one (.agg [.slice 3, .bool, .slice 70])) 34 [.ptr a0, .str a1] h).bind fun r1 =>
    (some (.bool r1.1.2.1, r1.2))) := by kernel_rfl
/-! (*godown/lock.Table).Waits -/
noncomputable def L20_0 (n m : Nat) (s1 : Int) (s4 : Nat) (s6 : ByteArray) (s7 : Bool) (s25 : VS) (s26 : Int) (s27 : Int) (h : VH) : VRes := loopAt P tab 20 [1, 1, 1, 0, 1, 0] n [] m [.undef, .int .i64 s1, .undef, .undef, .ptr (.ob s4 0), .undef, .str s6, .bool s7, .undef, .undef, .undef, .undef, .undef, .undef, .undef, .undef, .undef, .undef, .undef, .undef, .undef, .undef, .undef, .undef, .undef, .sl 70 s25, .int .i64 s26, .int .i64 s27, .undef, .undef, .undef, .undef, .undef, .undef, .undef, .undef, .undef, .undef, .undef, .undef, .undef, .undef, .undef, .undef] h
theorem L20_0_eq (n m : Nat) (s1 : Int) (s4 : Nat) (s6 : ByteArray) (s7 : Bool) (s25 : VS) (s26 : Int) (s27 : Int) (h : VH) : L20_0 n (m + 1) s1 s4 s6 s7 s25 s26 s27 h =
  (cond (decide ((s27 : Int) < s26))
    ((ixV 3 s25 s27).bind fun p1 =>
      ((ldV (.agg [.int .i64, .bool, .bool]) h p1).bind fun x2 =>
        ((stV (h ++ [.row (70 + boxK) [.int .i64 0, .bool false, .bool false]]) (.ob h.length 0) [.int .i64 x2.1, .bool x2.2.1, .bool x2.2.2.1]).bind fun h3 =>
          (cond s7
            ((ldV (.flat (.int .i64)) h3 (.ob h.length 0)).bind fun x4 =>
              (cond ((x4 : Int) == s1)
                ((ldV (.flat .bool) h3 (.ob h.length 1)).bind fun x5 =>
                  ((stV h3 (.ob s4 0) [.str s6, .bool x5]).bind fun h6 =>
                    (((ldV (.agg [.str, .bool]) h6 (.ob s4 0)).bind fun x7 =>
                        some (.tup [.agg [.str x7.1, .bool x7.2.1], .bool true], h6)))))
                (L20_0 n m s1 s4 s6 s7 s25 s26 (IntKind.wrap .i64 (s27 + 1)) h3)))
            (L20_0 n m s1 s4 s6 s7 s25 s26 (IntKind.wrap .i64 (s27 + 1)) h3)))))
    ((stV h (.ob s4 0) [.str ⟨#[]⟩, .bool false]).bind fun h8 =>
      (((ldV (.agg [.str, .bool]) h8 (.ob s4 0)).bind fun x9 =>
          some (.tup [.agg [.str x9.1, .bool x9.2.1], .bool false], h8))))) := by kernel_rfl
theorem f20_eq (n : Nat) (a0 : VP) (a1 : Int) (h : VH) : bodyV P tab (vF P tab n) n 20 [.ptr a0, .int .i64 a1] h =
  (cond (VP.isNil a0)
    ((stV (h ++ [.row (28 + boxK) [.str ⟨#[]⟩, .bool false]]) (.ob h.length 0) [.str ⟨#[]⟩, .bool false]).bind fun h1 =>
      (((ldV (.agg [.str, .bool]) h1 (.ob h.length 0)).bind fun x2 =>
          some (.tup [.agg [.str x2.1, .bool x2.2.1], .bool false], h1))))
    ((nn a0).bind fun p3 =>
      ((atO p3 1).bind fun p4 =>
        ((ldV (.flat .map) (h ++ [.row (28 + boxK) [.str ⟨#[]⟩, .bool false]]) p4).bind fun x5 =>
          ((V.lookD P 9 (.flat .str) (h ++ [.row (28 + boxK) [.str ⟨#[]⟩, .bool false]]) (.int .i64) x5 (.int .i64 a1)).bind fun x6 =>
            ((callD (vF P tab n) P false (.one (.agg [.slice 3, .bool, .slice 70])) 34 [.ptr a0, .str x6.1] (h ++ [.row (28 + boxK) [.str ⟨#[]⟩, .bool false]])).bind fun r7 =>
              (L20_0 n n a1 h.length x6.1 x6.2 r7.1.2.2.1 ((VS.len r7.1.2.2.1 : Nat) : Int) 0 r7.2))))))) := by kernel_rfl
/-! (*godown/lock.Table).keys -/
theorem f31_eq (n : Nat) (a0 : VP) (h : VH) : bodyV P tab (vF P tab n) n 31 [.ptr a0] h =
  (cond (VP.isNil a0)
    (some (.sl 9 .nil, h))
    ((nn a0).bind fun p1 =>
      ((atO p1 0).bind fun p2 =>
        ((ldV (.flat .map) h p2).bind fun x3 =>
          ((callD (vF P tab n) P false (.one (.flat .any)) 51 [.map x3] h).bind fun r4 =>
            ((callD (vF P tab n) P false (.one (.flat (.slice 9))) 50 [r4.1] r4.2).bind fun r5 =>
              (some (.sl 9 r5.1, r5.2)))))))) := by kernel_rfl
/-! (*godown/lock.Table).see -/
theorem f34_eq (n : Nat) (a0 : VP) (a1 : ByteArray) (h : VH) : bodyV P tab (vF P tab n) n 34 [.ptr a0, .str a1] h =
  (cond (VP.isNil a0)
    ((stV (h ++ [.row (68 + boxK) [.sl 3 .nil, .bool false, .sl 70 .nil]]) (.ob h.length 0) [.sl 3 .nil, .bool false, .sl 70 .nil]).bind fun h1 =>
      (((ldV (.agg [.slice 3, .bool, .slice 70]) h1 (.ob h.length 0)).bind fun x2 =>
          some (.agg [.sl 3 x2.1, .bool x2.2.1, .sl 70 x2.2.2.1], h1))))
    ((nn a0).bind fun p3 =>
      ((atO p3 0).bind fun p4 =>
        ((ldV (.flat .map) (h ++ [.row (68 + boxK) [.sl 3 .nil, .bool false, .sl 70 .nil]]) p4).bind fun x5 =>
          ((V.lookD P 63 (.flat .ptr) (h ++ [.row (68 + boxK) [.sl 3 .nil, .bool false, .sl 70 .nil]]) .str x5 (.str a1)).bind fun x6 =>
            (cond (VP.isNil x6.1)
              ((stV (h ++ [.row (68 + boxK) [.sl 3 .nil, .bool false, .sl 70 .nil]]) (.ob h.length 0) [.sl 3 .nil, .bool false, .sl 70 .nil]).bind fun h7 =>
                (((ldV (.agg [.slice 3, .bool, .slice 70]) h7 (.ob h.length 0)).bind fun x8 =>
                    some (.agg [.sl 3 x8.1, .bool x8.2.1, .sl 70 x8.2.2.1], h7))))
              ((nn a0).bind fun p9 =>
                ((atO p9 0).bind fun p10 =>
                  ((ldV (.flat .map) (h ++ [.row (68 + boxK) [.sl 3 .nil, .bool false, .sl 70 .nil]]) p10).bind fun x11 =>
                    ((V.lookD P 63 (.flat .ptr) (h ++ [.row (68 + boxK) [.sl 3 .nil, .bool false, .sl 70 .nil]]) .str x11 (.str a1)).bind fun x12 =>
                      ((nn x12.1).bind fun p13 =>
                        ((ldV (.agg [.slice 3, .bool, .slice 70]) (h ++ [.row (68 + boxK) [.sl 3 .nil, .bool false, .sl 70 .nil]]) p13).bind fun x14 =>
                        ((stV (h ++ [.row (68 + boxK) [.sl 3 .nil, .bool false, .sl 70 .nil]]) (.ob h.length 0) [.sl 3 x14.1, .bool x14.2.1, .sl 70 x14.2.2.1]).bind fun h15 =>
                        (((ldV (.agg [.slice 3, .bool, .slice 70]) h15 (.ob h.length 0)).bind fun x16 =>
                        some (.agg [.sl 3 x16.1, .bool x16.2.1, .sl 70 x16.2.2.1], h15)))))))))))))))) := by kernel_rfl
/-! slices.Clone[[]int,int] -/
theorem f35_eq (n : Nat) (a0 : VS) (h : VH) : bodyV P tab (vF P tab n) n 35 [.sl 3 a0] h =
  (cond (VS.isNil a0)
    (some (.sl 3 .nil, h))
    ((appD true h 1 8 3 (.fz [] (.ex 0)) a0).bind fun r1 =>
      (some (.sl 3 r1.1, r1.2)))) := by kernel_rfl
end Go.Proofs.Ytgmgpandhaeniaa
