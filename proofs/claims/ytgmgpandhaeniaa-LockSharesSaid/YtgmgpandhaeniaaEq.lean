import Derived.Test.YtgmgpandhaeniaaVc
import Derived.Test.YtgmgpandhaeniaaProg
set_option maxRecDepth 100000
set_option maxHeartbeats 0
set_option linter.unusedVariables false
set_option linter.unusedSimpArgs false
namespace Go.Proofs.Ytgmgpandhaeniaa
open Go.Proofs.Ytgmgpandhaeniaa.Sh Go.Proofs.Ytgmgpandhaeniaa.Sh.V
def noP : List V → VH → VRes := fun _ _ => none
def notes : List (Nat × Notes) := [(3, ⟨[], [(6, [1, 2, 5, 6, 7, 8, 9, 10, 11, 12, 13, 14, 15, 16, 17, 18, 19, 20, 21, 22, 23, 24, 25, 26, 27, 28, 29, 30, 31, 32, 33, 34, 35, 36, 37, 38, 39, 40, 41, 42, 43, 44, 45, 46, 47, 48, 49, 50, 51, 52, 53, 54, 55, 56, 57, 58, 59, 60, 61, 62, 63, 64, 65, 66, 67, 68, 69, 70, 71, 72, 73, 74, 75, 76, 77, 78, 79, 80, 81, 82, 83, 84, 85, 86, 87, 88, 89, 90, 91, 92, 93, 94, 95, 96, 97, 98, 99, 100, 101, 102, 103, 104, 105, 106, 107, 108, 109]), (12, [1, 2, 4, 7, 8, 9, 10, 11, 12, 13, 14, 15, 16, 17, 18, 19, 20, 21, 22, 23, 24, 25, 26, 27, 28, 29, 30, 31, 32, 33, 34, 35, 36, 37, 38, 39, 40, 41, 42, 43, 44, 45, 46, 47, 48, 49, 50, 51, 52, 53, 54, 55, 56, 57, 58, 59, 60, 61, 62, 63, 64, 65, 66, 67, 68, 69, 70, 71, 72, 73, 74, 75, 76, 77, 78, 79, 80, 81, 82, 83, 84, 85, 86, 87, 88, 89, 90, 91, 92, 93, 94, 95, 96, 97, 98, 99, 100, 101, 102, 103, 104, 105, 106, 107, 108, 109]), (14, [1, 2, 4, 8, 9, 10, 11, 12, 13, 14, 15, 16, 17, 18, 19, 20, 21, 22, 23, 24, 25, 26, 27, 28, 29, 30, 31, 32, 33, 34, 35, 36, 37, 38, 39, 40, 41, 42, 43, 44, 45, 46, 47, 48, 49, 50, 51, 52, 53, 54, 55, 56, 57, 58, 59, 60, 61, 62, 63, 64, 65, 66, 67, 68, 69, 70, 71, 72, 73, 74, 75, 76, 77, 78, 79, 80, 81, 82, 83, 84, 85, 86, 87, 88, 89, 90, 91, 92, 93, 94, 95, 96, 97, 98, 99, 100, 101, 102, 103, 104, 105, 106, 107, 108, 109]), (23, [1, 2, 4, 7, 10, 11, 12, 13, 14, 15, 16, 17, 18, 19, 20, 21, 22, 23, 24, 25, 26, 27, 28, 29, 30, 31, 32, 33, 34, 35, 36, 37, 38, 39, 40, 41, 42, 43, 44, 45, 46, 47, 48, 49, 50, 51, 52, 53, 54, 55, 56, 57, 58, 59, 60, 61, 62, 63, 64, 65, 66, 67, 68, 69, 70, 71, 72, 73, 74, 75, 76, 77, 78, 79, 80, 81, 82, 83, 84, 85, 86, 87, 88, 89, 90, 91, 92, 93, 94, 95, 96, 97, 98, 99, 100, 101, 102, 103, 104, 105, 106, 107, 108, 109])], []⟩),
  (4, ⟨[], [(7, [0, 1, 2, 3, 4, 9, 10, 11, 12, 13, 14, 15, 16, 17, 18, 19, 20, 21, 22, 23, 24, 25, 26, 27, 28, 29, 30, 31, 32, 33, 34, 35, 36, 37, 38, 39, 40, 41, 42, 43, 44, 45, 46, 47, 48, 49, 50, 51, 52, 53, 54, 55, 56, 57, 58, 59, 60, 61, 62, 63, 64, 65, 66, 67, 68, 69, 70, 71, 72, 73, 74, 75, 76, 77, 78, 79, 80, 81, 82, 83, 84, 85, 86, 87, 88, 89, 90, 91, 92, 93, 94, 95, 96, 97, 98, 99, 100, 101, 102, 103, 104, 105, 106, 107, 108, 109, 110, 111, 112, 113]), (11, [0, 1, 2, 3, 4, 8, 10, 11, 12, 13, 14, 15, 16, 17, 18, 19, 20, 21, 22, 23, 24, 25, 26, 27, 28, 29, 30, 31, 32, 33, 34, 35, 36, 37, 38, 39, 40, 41, 42, 43, 44, 45, 46, 47, 48, 49, 50, 51, 52, 53, 54, 55, 56, 57, 58, 59, 60, 61, 62, 63, 64, 65, 66, 67, 68, 69, 70, 71, 72, 73, 74, 75, 76, 77, 78, 79, 80, 81, 82, 83, 84, 85, 86, 87, 88, 89, 90, 91, 92, 93, 94, 95, 96, 97, 98, 99, 100, 101, 102, 103, 104, 105, 106, 107, 108, 109, 110, 111, 112, 113]), (18, [0, 1, 2, 3, 4, 8, 9, 10, 12, 13, 14, 15, 16, 17, 18, 19, 20, 21, 22, 23, 24, 25, 26, 27, 28, 29, 30, 31, 32, 33, 34, 35, 36, 37, 38, 39, 40, 41, 42, 43, 44, 45, 46, 47, 48, 49, 50, 51, 52, 53, 54, 55, 56, 57, 58, 59, 60, 61, 62, 63, 64, 65, 66, 67, 68, 69, 70, 71, 72, 73, 74, 75, 76, 77, 78, 79, 80, 81, 82, 83, 84, 85, 86, 87, 88, 89, 90, 91, 92, 93, 94, 95, 96, 97, 98, 99, 100, 101, 102, 103, 104, 105, 106, 107, 108, 109, 110, 111, 112, 113])], []⟩),
  (7, ⟨[], [(7, [0, 1, 3, 4, 5, 6, 12, 13, 14, 15, 16, 17, 18, 19, 20, 21, 22, 23, 24, 25, 26, 27, 28, 29, 30, 31, 32, 33, 34, 35, 36, 37, 38, 39, 40, 41, 42, 43, 44, 45, 46, 47, 48, 49, 50, 51, 52, 53, 54, 55, 56, 57, 58, 59, 60, 61, 62, 63, 64, 65, 66, 67, 68, 69, 70, 71, 72, 73, 74, 75, 76, 77, 78, 79, 80, 81, 82, 83, 84, 85, 86, 87, 88, 89, 90, 91, 92, 93, 94, 95, 96, 97, 98, 99, 100, 101, 102, 103, 104, 105, 106, 107, 108, 109, 110, 111, 112, 113, 114, 115, 116, 117, 118, 119, 120, 121, 122, 123, 124, 125, 126]), (16, [0, 1, 3, 4, 5, 6, 10, 11, 12, 14, 15, 16, 17, 18, 19, 20, 21, 22, 23, 24, 25, 26, 27, 28, 29, 30, 31, 32, 33, 34, 35, 36, 37, 38, 39, 40, 41, 42, 43, 44, 45, 46, 47, 48, 49, 50, 51, 52, 53, 54, 55, 56, 57, 58, 59, 60, 61, 62, 63, 64, 65, 66, 67, 68, 69, 70, 71, 72, 73, 74, 75, 76, 77, 78, 79, 80, 81, 82, 83, 84, 85, 86, 87, 88, 89, 90, 91, 92, 93, 94, 95, 96, 97, 98, 99, 100, 101, 102, 103, 104, 105, 106, 107, 108, 109, 110, 111, 112, 113, 114, 115, 116, 117, 118, 119, 120, 121, 122, 123, 124, 125, 126]), (21, [0, 1, 3, 4, 5, 6, 10, 11, 12, 13, 15, 16, 17, 18, 19, 20, 21, 22, 23, 24, 25, 26, 27, 28, 29, 30, 31, 32, 33, 34, 35, 36, 37, 38, 39, 40, 41, 42, 43, 44, 45, 46, 47, 48, 49, 50, 51, 52, 53, 54, 55, 56, 57, 58, 59, 60, 61, 62, 63, 64, 65, 66, 67, 68, 69, 70, 71, 72, 73, 74, 75, 76, 77, 78, 79, 80, 81, 82, 83, 84, 85, 86, 87, 88, 89, 90, 91, 92, 93, 94, 95, 96, 97, 98, 99, 100, 101, 102, 103, 104, 105, 106, 107, 108, 109, 110, 111, 112, 113, 114, 115, 116, 117, 118, 119, 120, 121, 122, 123, 124, 125, 126])], []⟩),
  (10, ⟨[(3, .order [(0, true), (1, true), (3, true), (4, true), (2, false), (5, false), (6, true), (7, true)])], [], []⟩),
  (13, ⟨[], [(3, [2, 3, 4, 6, 7, 8, 9, 13, 14, 15, 16, 17, 18, 19, 20, 21, 22, 23, 24, 25, 26, 27, 28, 29, 30, 31, 32, 33, 34, 35, 36, 37, 38, 39, 40, 41, 42, 43, 44, 45, 46, 47, 48, 49, 50, 51, 52, 53, 54, 55])], []⟩),
  (15, ⟨[], [(4, [2, 3, 4, 6, 7, 8, 9, 10, 11, 12, 13, 14, 15, 16, 17, 18, 19, 20, 21, 22, 23, 24, 25])], []⟩),
  (18, ⟨[], [(3, [0, 1, 2, 3, 4, 6, 7, 8, 9, 10, 14, 15, 16, 17, 18, 19, 20, 21, 22, 23])], []⟩),
  (19, ⟨[(1, .order [(0, true), (1, true), (2, true), (3, true), (4, true), (5, true), (6, true), (7, true), (8, true), (9, true), (10, true), (11, true), (12, true)])], [], []⟩),
  (20, ⟨[], [(5, [0, 2, 3, 5, 8, 9, 10, 11, 12, 13, 14, 15, 16, 17, 18, 19, 20, 21, 22, 23, 24, 28, 29, 30, 31, 32, 33, 34, 35, 36, 37, 38, 39, 40, 41, 42, 43])], []⟩),
  (21, ⟨[], [(7, [0, 2, 3, 4, 6, 9, 10, 11, 12, 13, 14, 15, 16, 17, 18, 19, 20, 21, 22, 23, 24, 25, 26, 27, 28, 29, 30, 34, 35, 36, 37, 38, 39, 40, 41, 42, 43, 44, 45, 46, 47, 48, 49, 50, 51, 52, 53, 54, 55, 56, 57, 58, 59, 60, 61, 62, 63, 64, 65, 66, 67, 68, 69, 70, 71, 72, 73, 74, 75, 76, 77]), (13, [0, 2, 3, 4, 5, 6, 7, 9, 10, 11, 12, 13, 14, 15, 16, 17, 18, 19, 20, 21, 22, 23, 24, 25, 26, 27, 28, 29, 30, 31, 32, 33, 34, 35, 36, 37, 38, 39, 40, 41, 42, 43, 44, 45, 46, 47, 48, 49, 50, 51, 52, 53, 54, 55, 56, 57, 61, 62, 63, 64, 65, 66, 67, 68, 69, 70, 71, 72, 73, 74, 75, 76, 77])], []⟩),
  (25, ⟨[], [(3, [2, 3, 4, 6, 7, 8, 9, 13, 14, 15, 16, 17, 18, 19, 20, 21, 22, 23, 24, 25, 26, 27, 28, 29, 30, 31, 32, 33, 34, 35, 36, 37, 38])], []⟩),
  (29, ⟨[(2, .order [(0, true), (1, true), (2, true), (3, true), (4, true), (5, true), (6, false), (7, false), (8, false), (9, true), (10, true), (11, false)])], [], []⟩),
  (30, ⟨[(4, .order [(0, true), (1, true), (2, true), (3, true), (4, true), (5, true), (6, false), (7, false), (8, false), (9, true), (10, true), (11, false)]), (5, .tail 7)], [(2, [2, 3, 4, 8, 9, 10, 11, 12, 13, 14, 15, 16, 17, 18, 19, 20, 21, 22, 23, 24, 25, 26, 27, 28, 29, 30, 31, 32, 33, 34, 35, 36, 37, 38, 39, 40, 41, 42, 43, 44, 45, 46, 47, 48, 49, 50, 51, 52])], []⟩),
  (32, ⟨[(2, .tail 5)], [], []⟩),
  (33, ⟨[(6, .tail 6)], [(2, [2, 3, 4, 6, 7, 8, 9, 10, 11, 12, 13, 14, 15, 16, 17, 18, 19, 20, 21, 22, 23, 24, 25, 26, 27, 28, 29, 30, 31, 32, 33, 34, 35, 36, 37, 38, 39, 40, 41, 42, 43, 44, 45, 46, 47, 48, 49, 50, 51])], []⟩),
  (37, ⟨[], [(4, [1, 2, 4, 5, 6, 7, 8, 9, 10, 11, 12, 13, 14, 15, 16, 17, 18, 19, 20, 21, 22, 23, 24, 25, 26, 27, 28, 29, 30, 31, 32, 33, 34, 35, 36, 37, 38, 39, 40, 41, 42, 43, 44, 45, 46, 47, 48, 49, 50, 51, 52, 53, 54, 55, 56, 57, 58, 59, 60]), (9, [1, 2, 6, 7, 8, 9, 10, 11, 12, 13, 14, 15, 16, 17, 18, 19, 20, 21, 22, 23, 24, 25, 26, 27, 28, 29, 30, 31, 32, 33, 34, 35, 36, 37, 38, 39, 40, 41, 42, 43, 44, 45, 46, 47, 48, 49, 50, 51, 52, 53, 54, 55, 56, 57, 58, 59, 60])], []⟩),
  (48, ⟨[], [(2, [2, 3, 4, 5, 6, 9, 10, 11, 12, 13, 14, 15, 16, 17, 18])], []⟩),
  (49, ⟨[(11, .tail 8), (15, .tail 8)], [], []⟩),
  (52, ⟨[], [(5, [2, 3, 4, 7, 8, 9, 10, 11, 12, 13, 14, 15, 16, 17, 18, 19, 20, 21, 22, 23, 24, 25, 26, 27, 28, 29, 30, 31, 32, 33, 34, 35, 36, 37, 38, 39, 40, 41])], []⟩),
  (54, ⟨[], [(5, [2, 3, 4, 7, 8, 9, 10, 11, 12, 13, 14, 15, 16, 17, 18, 19, 20, 21, 22, 23, 24, 25, 26, 27, 28, 29, 30, 31, 32, 33, 34, 35, 36, 37, 38, 39, 40, 41])], []⟩),
  (56, ⟨[(17, .tail 12)], [(2, [4, 5, 6, 7, 10, 11, 12, 13, 14, 15, 16, 17, 18, 19, 20, 21, 22, 23, 24, 25, 26, 27, 28, 29, 30, 31, 32, 33, 34, 35, 36, 37, 38, 39, 40, 41, 42, 43, 44, 45, 46, 47, 48, 49, 50, 51, 52, 53, 54, 55, 56, 57, 58, 59, 60, 61, 62, 63, 64, 65, 66, 67, 68, 69, 70, 71, 72, 73, 74, 75, 76, 77, 78, 79, 80, 81, 82, 83, 84, 85, 86, 87, 88, 89, 90, 91, 92, 93, 94, 95, 96, 97, 98, 99, 100, 101, 102, 103, 104, 105, 106, 107, 108, 109, 110, 111, 112, 113, 114, 115, 116, 117, 118, 119, 120, 121, 122, 123, 124, 125, 126, 127, 128, 129, 130, 131, 132, 133])], []⟩),
  (63, ⟨[], [(1, [1, 2, 3, 4, 6, 7, 8, 9, 10, 11, 12, 13])], []⟩),
  (64, ⟨[], [(2, [2, 3, 4, 5, 6, 9, 10, 11, 12, 13, 14, 15, 16, 17, 18])], []⟩),
  (65, ⟨[], [(2, [2, 3, 4, 5, 6, 9, 10, 11, 12, 13, 14, 15, 16, 17, 18])], []⟩),
  (66, ⟨[(4, .tail 13), (6, .order [(0, true), (1, true), (2, true), (3, true), (4, true), (5, true), (6, true), (7, true), (8, true), (9, true), (10, true), (11, true), (12, true), (13, false), (14, true), (15, false), (16, true), (17, false)])], [(1, [3, 4, 5, 7, 8, 9, 10, 11, 12, 13, 14, 15, 16, 17, 18, 19, 20, 21, 22, 23, 24, 25, 26, 27, 28, 29, 30, 31, 32, 33, 34, 35, 36, 37, 38, 39, 40, 41, 42, 43, 44, 45, 46, 47, 48]), (4, [3, 4, 5, 8, 9, 10, 11, 12, 13, 14, 15, 16, 17, 18, 19, 20, 21, 22, 23, 24, 25, 26, 27, 28, 29, 30, 31, 32, 33, 34, 35, 36, 37, 38, 39, 40, 41, 42, 43, 44, 45, 46, 47, 48])], []⟩)]
noncomputable abbrev P : Program := Try.prog
def reach : List Nat := [3, 4, 6, 7, 9, 10, 11, 12, 13, 14, 15, 16, 17, 18, 19, 20, 21, 25, 26, 27, 28, 29, 30, 31, 32, 33, 34, 35, 36, 37, 48, 49, 51, 52, 53, 54, 55, 56, 57, 63, 64, 65, 66, 72, 75, 76, 85]
def noteOf (f : FuncId) : Notes := (find notes f).getD ⟨[], [], []⟩
noncomputable def prims : List (FuncId × (List V → VH → VRes)) := [(50, sortedP [63] 9), (59, noP), (60, noP), (67, noP), (68, noP), (69, noP), (70, noP), (71, noP), (73, noP), (74, noP)]
noncomputable def tab : VTab := mkVp (mkV P noteOf reach [] (fun f => !among [21, 29, 49] f) (among [10, 15, 19, 57, 76]) (fun f g => among2 [] f g) (fun f => !among [] f)) prims
/-! godown/godownlaw14.LockShares -/
noncomputable def L7_0 (n m : Nat) (s2 : Bool) (s7 : VP) (s8 : Int) (s9 : Int) (s10 : VS) (s11 : Int) (h : VH) : VRes := loopAt P tab 7 [1, 1, 1, 1, 1, 0, 1, 0] n [] m [.undef, .undef, .bool s2, .undef, .undef, .undef, .undef, .ptr s7, .int .i64 s8, .int .i64 s9, .sl 3 s10, .int .i64 s11, .undef, .undef, .undef, .undef, .undef, .undef, .undef, .undef, .undef, .undef, .undef, .undef, .undef, .undef, .undef, .undef, .undef, .undef, .undef, .undef, .undef, .undef, .undef, .undef, .undef, .undef, .undef, .undef, .undef, .undef, .undef, .undef, .undef, .undef, .undef, .undef, .undef, .undef, .undef, .undef, .undef, .undef, .undef, .undef, .undef, .undef, .undef, .undef, .undef, .undef, .undef, .undef, .undef, .undef, .undef, .undef, .undef, .undef, .undef, .undef, .undef, .undef, .undef, .undef, .undef, .undef, .undef, .undef, .undef, .undef, .undef, .undef, .undef, .undef, .undef, .undef, .undef, .undef, .undef, .undef, .undef, .undef, .undef, .undef, .undef, .undef, .undef, .undef, .undef, .undef, .undef, .undef, .undef, .undef, .undef, .undef, .undef, .undef, .undef, .undef, .undef, .undef, .undef, .undef, .undef, .undef, .undef, .undef, .undef, .undef, .undef, .undef, .undef, .undef, .undef] h
noncomputable def L7_1 (n m : Nat) (s2 : Bool) (s7 : VP) (s8 : Int) (s9 : Int) (s13 : Int) (h : VH) : VRes := loopAt P tab 7 [1, 1, 1, 1, 1, 1, 1, 1, 0, 1, 0] n [] m [.undef, .undef, .bool s2, .undef, .undef, .undef, .undef, .ptr s7, .int .i64 s8, .int .i64 s9, .undef, .undef, .undef, .int .i64 s13, .undef, .undef, .undef, .undef, .undef, .undef, .undef, .undef, .undef, .undef, .undef, .undef, .undef, .undef, .undef, .undef, .undef, .undef, .undef, .undef, .undef, .undef, .undef, .undef, .undef, .undef, .undef, .undef, .undef, .undef, .undef, .undef, .undef, .undef, .undef, .undef, .undef, .undef, .undef, .undef, .undef, .undef, .undef, .undef, .undef, .undef, .undef, .undef, .undef, .undef, .undef, .undef, .undef, .undef, .undef, .undef, .undef, .undef, .undef, .undef, .undef, .undef, .undef, .undef, .undef, .undef, .undef, .undef, .undef, .undef, .undef, .undef, .undef, .undef, .undef, .undef, .undef, .undef, .undef, .undef, .undef, .undef, .undef, .undef, .undef, .undef, .undef, .undef, .undef, .undef, .undef, .undef, .undef, .undef, .undef, .undef, .undef, .undef, .undef, .undef, .undef, .undef, .undef, .undef, .undef, .undef, .undef, .undef, .undef, .undef, .undef, .undef, .undef] h
noncomputable def L7_2 (n m : Nat) (s2 : Bool) (s7 : VP) (s8 : Int) (s9 : Int) (s14 : Int) (h : VH) : VRes := loopAt P tab 7 [1, 1, 1, 1, 1, 1, 1, 1, 1, 0, 1, 0] n [] m [.undef, .undef, .bool s2, .undef, .undef, .undef, .undef, .ptr s7, .int .i64 s8, .int .i64 s9, .undef, .undef, .undef, .undef, .int .i64 s14, .undef, .undef, .undef, .undef, .undef, .undef, .undef, .undef, .undef, .undef, .undef, .undef, .undef, .undef, .undef, .undef, .undef, .undef, .undef, .undef, .undef, .undef, .undef, .undef, .undef, .undef, .undef, .undef, .undef, .undef, .undef, .undef, .undef, .undef, .undef, .undef, .undef, .undef, .undef, .undef, .undef, .undef, .undef, .undef, .undef, .undef, .undef, .undef, .undef, .undef, .undef, .undef, .undef, .undef, .undef, .undef, .undef, .undef, .undef, .undef, .undef, .undef, .undef, .undef, .undef, .undef, .undef, .undef, .undef, .undef, .undef, .undef, .undef, .undef, .undef, .undef, .undef, .undef, .undef, .undef, .undef, .undef, .undef, .undef, .undef, .undef, .undef, .undef, .undef, .undef, .undef, .undef, .undef, .undef, .undef, .undef, .undef, .undef, .undef, .undef, .undef, .undef, .undef, .undef, .undef, .undef, .undef, .undef, .undef, .undef, .undef, .undef] h
theorem L7_0_eq (n m : Nat) (s2 : Bool) (s7 : VP) (s8 : Int) (s9 : Int) (s10 : VS) (s11 : Int) (h : VH) : L7_0 n (m + 1) s2 s7 s8 s9 s10 s11 h =
  (cond (decide ((s11 : Int) < s8))
    ((callD (vF P tab n) P false (.one (.flat .bool)) 12 [.ptr s7, .int .i64 s11, .agg [.str ⟨#[97]⟩, .bool false]] h).bind fun r1 =>
      (cond (!r1.1)
        (some (.bool false, r1.2))
        ((appD true r1.2 1 8 3 s10 (.fz [[.int .i64 s11]] (.ex 1))).bind fun r2 =>
          (L7_0 n m s2 s7 s8 s9 r2.1 (IntKind.wrap .i64 (s11 + 1)) r2.2))))
    ((callD (vF P tab n) P false (.one (.flat .bool)) 12 [.ptr s7, .int .i64 50, .agg [.str ⟨#[97]⟩, .bool true]] h).bind fun r3 =>
      (cond (!(r3.1 == ((s8 : Int) == 0)))
        (some (.bool false, r3.2))
        ((callD (vF P tab n) P false (.one (.flat (.slice 3))) 21 [.ptr s7, .int .i64 50] r3.2).bind fun r4 =>
          ((callD (vF P tab n) P false (.one (.flat .bool)) 15 [.sl 3 r4.1, .sl 3 s10] r4.2).bind fun r5 =>
            (cond (!r5.1)
              (cond (decide ((s8 : Int) > 0))
                (some (.bool false, r5.2))
                (L7_1 n n s2 s7 s8 s9 0 r5.2))
              (L7_1 n n s2 s7 s8 s9 0 r5.2))))))) := by kernel_rfl
theorem L7_1_eq (n m : Nat) (s2 : Bool) (s7 : VP) (s8 : Int) (s9 : Int) (s13 : Int) (h : VH) : L7_1 n (m + 1) s2 s7 s8 s9 s13 h =
  (cond (decide ((s13 : Int) < s9))
    ((callD (vF P tab n) P false (.one (.flat .bool)) 12 [.ptr s7, .int .i64 (IntKind.wrap .i64 (60 + s13)), .agg [.str ⟨#[97]⟩, .bool false]] h).bind fun r1 =>
      (cond r1.1
        (some (.bool false, r1.2))
        (L7_1 n m s2 s7 s8 s9 (IntKind.wrap .i64 (s13 + 1)) r1.2)))
    (L7_2 n n s2 s7 s8 s9 0 h)) := by kernel_rfl
theorem L7_2_eq (n m : Nat) (s2 : Bool) (s7 : VP) (s8 : Int) (s9 : Int) (s14 : Int) (h : VH) : L7_2 n (m + 1) s2 s7 s8 s9 s14 h =
  (cond (decide ((s14 : Int) < s8))
    ((callD (vF P tab n) P false (.one (.flat (.slice 3))) 13 [.ptr s7, .int .i64 s14] h).bind fun r1 =>
      (cond (decide ((s14 : Int) < (IntKind.wrap .i64 (s8 - 1))))
        (cond (decide ((((VS.len r1.1 : Nat) : Int) : Int) > 0))
          (some (.bool false, r1.2))
          (cond ((s14 : Int) == (IntKind.wrap .i64 (s8 - 1)))
            ((callD (vF P tab n) P false (.one (.flat .bool)) 15 [.sl 3 r1.1, .sl 3 (.fz [[.int .i64 50]] (.ex 1))] r1.2).bind fun r2 =>
              (cond (!r2.1)
                (some (.bool false, r2.2))
                (L7_2 n m s2 s7 s8 s9 (IntKind.wrap .i64 (s14 + 1)) r2.2)))
            (L7_2 n m s2 s7 s8 s9 (IntKind.wrap .i64 (s14 + 1)) r1.2)))
        (cond ((s14 : Int) == (IntKind.wrap .i64 (s8 - 1)))
          ((callD (vF P tab n) P false (.one (.flat .bool)) 15 [.sl 3 r1.1, .sl 3 (.fz [[.int .i64 50]] (.ex 1))] r1.2).bind fun r3 =>
            (cond (!r3.1)
              (some (.bool false, r3.2))
              (L7_2 n m s2 s7 s8 s9 (IntKind.wrap .i64 (s14 + 1)) r3.2)))
          (L7_2 n m s2 s7 s8 s9 (IntKind.wrap .i64 (s14 + 1)) r1.2))))
    ((callD (vF P tab n) P false (.one (.flat .bool)) 16 [.ptr s7, .str ⟨#[97]⟩] h).bind fun r4 =>
      (cond r4.1
        ((callD (vF P tab n) P false (.one (.flat (.slice 3))) 17 [.ptr s7, .str ⟨#[97]⟩] r4.2).bind fun r5 =>
          ((callD (vF P tab n) P false (.one (.flat .bool)) 15 [.sl 3 r5.1, .sl 3 (.fz [[.int .i64 50]] (.ex 1))] r5.2).bind fun r6 =>
            (cond r6.1
              ((callD (vF P tab n) P false (.one (.flat (.slice 3))) 13 [.ptr s7, .int .i64 50] r6.2).bind fun r7 =>
                (cond ((((VS.len r7.1 : Nat) : Int) : Int) == s9)
                  ((callD (vF P tab n) P false (.one (.flat (.slice 3))) 17 [.ptr s7, .str ⟨#[97]⟩] r7.2).bind fun r8 =>
                    (cond ((((VS.len r8.1 : Nat) : Int) : Int) == s9)
                      (cond s2
                        (some (.bool true, r8.2))
                        ((callD (vF P tab n) P false (.one (.flat (.slice 3))) 18 [.ptr s7, .str ⟨#[97]⟩] r8.2).bind fun r9 =>
                        (some (.bool ((((VS.len r9.1 : Nat) : Int) : Int) == 0), r9.2))))
                      (some (.bool false, r8.2))))
                  (some (.bool false, r7.2))))
              (some (.bool false, r6.2)))))
        (some (.bool false, r4.2))))) := by kernel_rfl
theorem f7_eq (n : Nat) (a0 : Int) (a1 : Int) (a2 : Bool) (h : VH) : bodyV P tab (vF P tab n) n 7 [.int .u8 a0, .int .u8 a1, .bool a2] h =
  ((callD (vF P tab n) P false (.one (.flat .bool)) 10 [] h).bind fun r1 =>
    (cond (!r1.1)
      (some (.bool false, r1.2))
      ((callD (vF P tab n) P false (.one (.flat .ptr)) 11 [] r1.2).bind fun r2 =>
        ((remI a0 8).bind fun x3 =>
          ((remI a1 5).bind fun x4 =>
            (L7_0 n n a2 r2.1 (IntKind.wrap .i64 x3) (IntKind.wrap .i64 x4) .nil 0 r2.2)))))) := by kernel_rfl
/-! godown/lock.New -/
theorem f11_eq (n : Nat)  (h : VH) : bodyV P tab (vF P tab n) n 11 [] h =
  (some (.ptr (.ob (List.length ((List.append (α := VO) (h ++ [.map .str []]) [.map (.int .i64) []]) : VH)) 0), (List.append (α := VO) (List.append (α := VO) (h ++ [.map .str []]) [.map (.int .i64) []]) [.row (62 + boxK) [.map (some h.length), .map (some (List.length ((h ++ [.map .str []]) : VH)))]]))) := by kernel_rfl
/-! (*godown/lock.Table).Ask -/
theorem f12_eq (n : Nat) (a0 : VP) (a1 : Int) (a2_0 : ByteArray) (a2_1 : Bool) (h : VH) : bodyV P tab (vF P tab n) n 12 [.ptr a0, .int .i64 a1, .agg [.str a2_0, .bool a2_1]] h =
  (cond (VP.isNil a0)
    (some (.bool false, (h ++ [.row (28 + boxK) [.str a2_0, .bool a2_1]])))
    ((nn a0).bind fun p1 =>
      ((atO p1 1).bind fun p2 =>
        ((ldV (.flat .map) (h ++ [.row (28 + boxK) [.str a2_0, .bool a2_1]]) p2).bind fun x3 =>
          ((V.lookD P 9 (.flat .str) (h ++ [.row (28 + boxK) [.str a2_0, .bool a2_1]]) (.int .i64) x3 (.int .i64 a1)).bind fun x4 =>
            (cond x4.2
              (some (.bool false, (h ++ [.row (28 + boxK) [.str a2_0, .bool a2_1]])))
              ((ldV (.flat .str) (h ++ [.row (28 + boxK) [.str a2_0, .bool a2_1]]) (.ob h.length 0)).bind fun x5 =>
                ((callD (vF P tab n) P false (.one (.flat .ptr)) 26 [.ptr a0, .str x5] (h ++ [.row (28 + boxK) [.str a2_0, .bool a2_1]])).bind fun r6 =>
                  ((nn r6.1).bind fun p7 =>
                    ((atO p7 0).bind fun p8 =>
                      ((ldV (.flat (.slice 3)) r6.2 p8).bind fun x9 =>
                        ((callD (vF P tab n) P false (.one (.flat .bool)) 27 [.sl 3 x9, .int .i64 a1] r6.2).bind fun r10 =>
                        (cond r10.1
                        ((nn r6.1).bind fun p11 =>
                        ((atO p11 1).bind fun p12 =>
                        ((ldV (.flat .bool) r10.2 p12).bind fun x13 =>
                        (cond x13
                        (some (.bool true, r10.2))
                        ((ldV (.flat .bool) r10.2 (.ob h.length 1)).bind fun x14 =>
                        (cond (!x14)
                        (some (.bool true, r10.2))
                        ((ldV (.flat .bool) r10.2 (.ob h.length 1)).bind fun x15 =>
                        ((stV (r10.2 ++ [.row (70 + boxK) [.int .i64 0, .bool false, .bool false]]) (.ob r10.2.length 0) [.int .i64 a1, .bool x15, .bool r10.1]).bind fun h16 =>
                        ((ldV (.agg [.int .i64, .bool, .bool]) h16 (.ob r10.2.length 0)).bind fun x17 =>
                        ((callD (vF P tab n) P false (.one (.flat .bool)) 28 [.ptr r6.1, .agg [.int .i64 x17.1, .bool x17.2.1, .bool x17.2.2.1]] h16).bind fun r18 =>
                        (cond r18.1
                        (cond r10.1
                        ((ldV (.agg [.int .i64, .bool, .bool]) r18.2 (.ob r10.2.length 0)).bind fun x19 =>
                        ((callD (vF P tab n) P false (.tup []) 29 [.ptr r6.1, .agg [.int .i64 x19.1, .bool x19.2.1, .bool x19.2.2.1]] r18.2).bind fun r20 =>
                        (some (.bool true, r20.2))))
                        ((nn r6.1).bind fun p21 =>
                        ((atO p21 2).bind fun p22 =>
                        ((ldV (.flat (.slice 70)) r18.2 p22).bind fun x23 =>
                        (cond ((((VS.len x23 : Nat) : Int) : Int) == 0)
                        ((ldV (.agg [.int .i64, .bool, .bool]) r18.2 (.ob r10.2.length 0)).bind fun x24 =>
                        ((callD (vF P tab n) P false (.tup []) 29 [.ptr r6.1, .agg [.int .i64 x24.1, .bool x24.2.1, .bool x24.2.2.1]] r18.2).bind fun r25 =>
                        (some (.bool true, r25.2))))
                        ((ldV (.flat .str) r18.2 (.ob h.length 0)).bind fun x26 =>
                        ((ldV (.agg [.int .i64, .bool, .bool]) r18.2 (.ob r10.2.length 0)).bind fun x27 =>
                        ((callD (vF P tab n) P false (.tup []) 30 [.ptr a0, .str x26, .agg [.int .i64 x27.1, .bool x27.2.1, .bool x27.2.2.1]] r18.2).bind fun r28 =>
                        (some (.bool false, r28.2))))))))))
                        ((ldV (.flat .str) r18.2 (.ob h.length 0)).bind fun x29 =>
                        ((ldV (.agg [.int .i64, .bool, .bool]) r18.2 (.ob r10.2.length 0)).bind fun x30 =>
                        ((callD (vF P tab n) P false (.tup []) 30 [.ptr a0, .str x29, .agg [.int .i64 x30.1, .bool x30.2.1, .bool x30.2.2.1]] r18.2).bind fun r31 =>
                        (some (.bool false, r31.2))))))))))))))))
                        ((ldV (.flat .bool) r10.2 (.ob h.length 1)).bind fun x32 =>
                        ((stV (r10.2 ++ [.row (70 + boxK) [.int .i64 0, .bool false, .bool false]]) (.ob r10.2.length 0) [.int .i64 a1, .bool x32, .bool r10.1]).bind fun h33 =>
                        ((ldV (.agg [.int .i64, .bool, .bool]) h33 (.ob r10.2.length 0)).bind fun x34 =>
                        ((callD (vF P tab n) P false (.one (.flat .bool)) 28 [.ptr r6.1, .agg [.int .i64 x34.1, .bool x34.2.1, .bool x34.2.2.1]] h33).bind fun r35 =>
                        (cond r35.1
                        (cond r10.1
                        ((ldV (.agg [.int .i64, .bool, .bool]) r35.2 (.ob r10.2.length 0)).bind fun x36 =>
                        ((callD (vF P tab n) P false (.tup []) 29 [.ptr r6.1, .agg [.int .i64 x36.1, .bool x36.2.1, .bool x36.2.2.1]] r35.2).bind fun r37 =>
                        (some (.bool true, r37.2))))
                        ((nn r6.1).bind fun p38 =>
                        ((atO p38 2).bind fun p39 =>
                        ((ldV (.flat (.slice 70)) r35.2 p39).bind fun x40 =>
                        (cond ((((VS.len x40 : Nat) : Int) : Int) == 0)
                        ((ldV (.agg [.int .i64, .bool, .bool]) r35.2 (.ob r10.2.length 0)).bind fun x41 =>
                        ((callD (vF P tab n) P false (.tup []) 29 [.ptr r6.1, .agg [.int .i64 x41.1, .bool x41.2.1, .bool x41.2.2.1]] r35.2).bind fun r42 =>
                        (some (.bool true, r42.2))))
                        ((ldV (.flat .str) r35.2 (.ob h.length 0)).bind fun x43 =>
                        ((ldV (.agg [.int .i64, .bool, .bool]) r35.2 (.ob r10.2.length 0)).bind fun x44 =>
                        ((callD (vF P tab n) P false (.tup []) 30 [.ptr a0, .str x43, .agg [.int .i64 x44.1, .bool x44.2.1, .bool x44.2.2.1]] r35.2).bind fun r45 =>
                        (some (.bool false, r45.2))))))))))
                        ((ldV (.flat .str) r35.2 (.ob h.length 0)).bind fun x46 =>
                        ((ldV (.agg [.int .i64, .bool, .bool]) r35.2 (.ob r10.2.length 0)).bind fun x47 =>
                        ((callD (vF P tab n) P false (.tup []) 30 [.ptr a0, .str x46, .agg [.int .i64 x47.1, .bool x47.2.1, .bool x47.2.2.1]] r35.2).bind fun r48 =>
                        (some (.bool false, r48.2))))))))))))))))))))))) := by kernel_rfl
/-! (*godown/lock.Table).Free -/
noncomputable def L13_0 (n m : Nat) (s0 : VP) (s1 : Int) (s5 : VS) (s10 : VS) (s11 : Int) (s12 : Int) (h : VH) : VRes := loopAt P tab 13 [1, 1, 0, 1, 0] n [] m [.ptr s0, .int .i64 s1, .undef, .undef, .undef, .sl 3 s5, .undef, .undef, .undef, .undef, .sl 9 s10, .int .i64 s11, .int .i64 s12, .undef, .undef, .undef, .undef, .undef, .undef, .undef, .undef, .undef, .undef, .undef, .undef, .undef, .undef, .undef, .undef, .undef, .undef, .undef, .undef, .undef, .undef, .undef, .undef, .undef, .undef, .undef, .undef, .undef, .undef, .undef, .undef, .undef, .undef, .undef, .undef, .undef, .undef, .undef, .undef, .undef, .undef, .undef] h
theorem L13_0_eq (n m : Nat) (s0 : VP) (s1 : Int) (s5 : VS) (s10 : VS) (s11 : Int) (s12 : Int) (h : VH) : L13_0 n (m + 1) s0 s1 s5 s10 s11 s12 h =
  (cond (decide ((s12 : Int) < s11))
    ((ixV 1 s10 s12).bind fun p1 =>
      ((ldV (.flat .str) h p1).bind fun x2 =>
        ((nn s0).bind fun p3 =>
          ((atO p3 0).bind fun p4 =>
            ((ldV (.flat .map) h p4).bind fun x5 =>
              ((V.lookD P 63 (.flat .ptr) h .str x5 (.str x2)).bind fun x6 =>
                ((callD (vF P tab n) P false (.one (.flat .bool)) 32 [.ptr x6.1, .int .i64 s1] h).bind fun r7 =>
                  (cond r7.1
                    ((callD (vF P tab n) P false (.one (.flat (.slice 3))) 33 [.ptr s0, .ptr x6.1] r7.2).bind fun r8 =>
                      ((appD true r8.2 1 8 3 s5 r8.1).bind fun r9 =>
                        ((nn x6.1).bind fun p10 =>
                        ((atO p10 0).bind fun p11 =>
                        ((ldV (.flat (.slice 3)) r9.2 p11).bind fun x12 =>
                        ((nn x6.1).bind fun p13 =>
                        ((atO p13 2).bind fun p14 =>
                        ((ldV (.flat (.slice 70)) r9.2 p14).bind fun x15 =>
                        (cond (((IntKind.wrap .i64 (((VS.len x12 : Nat) : Int) + ((VS.len x15 : Nat) : Int))) : Int) == 0)
                        ((nn s0).bind fun p16 =>
                        ((atO p16 0).bind fun p17 =>
                        ((ldV (.flat .map) r9.2 p17).bind fun x18 =>
                        ((V.cutMD r9.2 .str x18 (.str x2)).bind fun h19 =>
                        (L13_0 n m s0 s1 r9.1 s10 s11 (IntKind.wrap .i64 (s12 + 1)) h19)))))
                        (L13_0 n m s0 s1 r9.1 s10 s11 (IntKind.wrap .i64 (s12 + 1)) r9.2))))))))))
                    ((nn x6.1).bind fun p20 =>
                      ((atO p20 0).bind fun p21 =>
                        ((ldV (.flat (.slice 3)) r7.2 p21).bind fun x22 =>
                        ((nn x6.1).bind fun p23 =>
                        ((atO p23 2).bind fun p24 =>
                        ((ldV (.flat (.slice 70)) r7.2 p24).bind fun x25 =>
                        (cond (((IntKind.wrap .i64 (((VS.len x22 : Nat) : Int) + ((VS.len x25 : Nat) : Int))) : Int) == 0)
                        ((nn s0).bind fun p26 =>
                        ((atO p26 0).bind fun p27 =>
                        ((ldV (.flat .map) r7.2 p27).bind fun x28 =>
                        ((V.cutMD r7.2 .str x28 (.str x2)).bind fun h29 =>
                        (L13_0 n m s0 s1 s5 s10 s11 (IntKind.wrap .i64 (s12 + 1)) h29)))))
                        (L13_0 n m s0 s1 s5 s10 s11 (IntKind.wrap .i64 (s12 + 1)) r7.2))))))))))))))))
    (cond (!VP.isNil s0)
      ((nn s0).bind fun p30 =>
        ((atO p30 1).bind fun p31 =>
          ((ldV (.flat .map) h p31).bind fun x32 =>
            ((V.cutMD h (.int .i64) x32 (.int .i64 s1)).bind fun h33 =>
              (some (.sl 3 s5, h33))))))
      (some (.sl 3 s5, h)))) := by kernel_rfl
theorem f13_eq (n : Nat) (a0 : VP) (a1 : Int) (h : VH) : bodyV P tab (vF P tab n) n 13 [.ptr a0, .int .i64 a1] h =
  ((callD (vF P tab n) P false (.one (.flat (.slice 9))) 31 [.ptr a0] h).bind fun r1 =>
    (L13_0 n n a0 a1 .nil r1.1 ((VS.len r1.1 : Nat) : Int) 0 r1.2)) := by kernel_rfl
/-! (*godown/lock.Table).Len -/
theorem f14_eq (n : Nat) (a0 : VP) (h : VH) : bodyV P tab (vF P tab n) n 14 [.ptr a0] h =
  ((callD (vF P tab n) P false (.one (.flat (.slice 9))) 31 [.ptr a0] h).bind fun r1 =>
    (some (.int .i64 ((VS.len r1.1 : Nat) : Int), r1.2))) := by kernel_rfl
/-! godown/godownref01.Ints -/
noncomputable def L15_0 (n m : Nat) (s0 : VS) (s1 : VS) (s5 : Int) (h : VH) : VRes := loopAt P tab 15 [1, 1, 0, 1, 0] n [] m [.sl 3 s0, .sl 3 s1, .undef, .undef, .undef, .int .i64 s5, .undef, .undef, .undef, .undef, .undef, .undef, .undef, .undef, .undef, .undef, .undef, .undef, .undef, .undef, .undef, .undef, .undef, .undef, .undef, .undef] h
theorem L15_0_eq (n m : Nat) (s0 : VS) (s1 : VS) (s5 : Int) (h : VH) : L15_0 n (m + 1) s0 s1 s5 h =
  (cond (decide ((s5 : Int) < ((VS.len s0 : Nat) : Int)))
    ((ixV 1 s0 s5).bind fun p1 =>
      ((ldV (.flat (.int .i64)) h p1).bind fun x2 =>
        ((ixV 1 s1 s5).bind fun p3 =>
          ((ldV (.flat (.int .i64)) h p3).bind fun x4 =>
            (cond ((x2 : Int) != x4)
              (some (.bool false, h))
              (L15_0 n m s0 s1 (IntKind.wrap .i64 (s5 + 1)) h))))))
    (some (.bool true, h))) := by kernel_rfl
theorem f15_eq (n : Nat) (a0 : VS) (a1 : VS) (h : VH) : bodyV P tab (vF P tab n) n 15 [.sl 3 a0, .sl 3 a1] h =
  (cond ((((VS.len a0 : Nat) : Int) : Int) != ((VS.len a1 : Nat) : Int))
    (some (.bool false, h))
    (L15_0 n n a0 a1 0 h)) := by kernel_rfl
/-! (*godown/lock.Table).Only -/
theorem f16_eq (n : Nat) (a0 : VP) (a1 : ByteArray) (h : VH) : bodyV P tab (vF P tab n) n 16 [.ptr a0, .str a1] h =
  ((callD (vF P tab n) P false (.one (.agg [.slice 3, .bool, .slice 70])) 34 [.ptr a0, .str a1] h).bind fun r1 =>
    (some (.bool r1.1.2.1, r1.2))) := by kernel_rfl
/-! (*godown/lock.Table).Holders -/
theorem f17_eq (n : Nat) (a0 : VP) (a1 : ByteArray) (h : VH) : bodyV P tab (vF P tab n) n 17 [.ptr a0, .str a1] h =
  ((callD (vF P tab n) P false (.one (.agg [.slice 3, .bool, .slice 70])) 34 [.ptr a0, .str a1] h).bind fun r1 =>
    ((callD (vF P tab n) P false (.one (.flat (.slice 3))) 35 [.sl 3 r1.1.1] r1.2).bind fun r2 =>
      (some (.sl 3 r2.1, r2.2)))) := by kernel_rfl
/-! (*godown/lock.Table).Queue -/
noncomputable def L18_0 (n m : Nat) (s5 : VS) (s11 : VS) (s12 : Int) (s13 : Int) (h : VH) : VRes := loopAt P tab 18 [1, 1, 0, 1, 0] n [] m [.undef, .undef, .undef, .undef, .undef, .sl 3 s5, .undef, .undef, .undef, .undef, .undef, .sl 70 s11, .int .i64 s12, .int .i64 s13, .undef, .undef, .undef, .undef, .undef, .undef, .undef, .undef, .undef, .undef] h
theorem L18_0_eq (n m : Nat) (s5 : VS) (s11 : VS) (s12 : Int) (s13 : Int) (h : VH) : L18_0 n (m + 1) s5 s11 s12 s13 h =
  (cond (decide ((s13 : Int) < s12))
    ((ixV 3 s11 s13).bind fun p1 =>
      ((ldV (.agg [.int .i64, .bool, .bool]) h p1).bind fun x2 =>
        ((stV (h ++ [.row (70 + boxK) [.int .i64 0, .bool false, .bool false]]) (.ob h.length 0) [.int .i64 x2.1, .bool x2.2.1, .bool x2.2.2.1]).bind fun h3 =>
          ((ldV (.flat (.int .i64)) h3 (.ob h.length 0)).bind fun x4 =>
            ((appD true h3 1 8 3 s5 (.fz [[.int .i64 x4]] (.ex 1))).bind fun r5 =>
              (L18_0 n m r5.1 s11 s12 (IntKind.wrap .i64 (s13 + 1)) r5.2))))))
    (some (.sl 3 s5, h))) := by kernel_rfl
theorem f18_eq (n : Nat) (a0 : VP) (a1 : ByteArray) (h : VH) : bodyV P tab (vF P tab n) n 18 [.ptr a0, .str a1] h =
  ((callD (vF P tab n) P false (.one (.agg [.slice 3, .bool, .slice 70])) 34 [.ptr a0, .str a1] h).bind fun r1 =>
    (L18_0 n n .nil r1.1.2.2.1 ((VS.len r1.1.2.2.1 : Nat) : Int) 0 r1.2)) := by kernel_rfl
/-! godown/godownlaw14.need -/
theorem f19_eq (n : Nat) (a0_0 : Int) (a0_1 : Int) (a0_2 : Int) (h : VH) : bodyV P tab (vF P tab n) n 19 [.agg [.int .u8 a0_0, .int .u8 a0_1, .int .u8 a0_2]] h =
  ((ldV (.flat (.int .u8)) (h ++ [.row (39 + boxK) [.int .u8 a0_0, .int .u8 a0_1, .int .u8 a0_2]]) (.ob h.length 1)).bind fun x1 =>
    ((remI x1 4).bind fun x2 =>
      ((strV (h ++ [.row (39 + boxK) [.int .u8 a0_0, .int .u8 a0_1, .int .u8 a0_2]]) 5 (.fz [[.int .u8 (IntKind.wrap .u8 (97 + x2))]] (.ex 1))).bind fun z3 =>
        ((ldV (.flat (.int .u8)) (h ++ [.row (39 + boxK) [.int .u8 a0_0, .int .u8 a0_1, .int .u8 a0_2]]) (.ob h.length 2)).bind fun x4 =>
          ((quoI .u8 x4 4).bind fun x5 =>
            ((remI x5 2).bind fun x6 =>
              (some (.tup [.str z3, .bool ((x6 : Int) == 0)], (h ++ [.row (39 + boxK) [.int .u8 a0_0, .int .u8 a0_1, .int .u8 a0_2]]))))))))) := by kernel_rfl
/-! (*godown/lock.Table).Waits -/
noncomputable def L20_0 (n m : Nat) (s1 : Int) (s4 : Nat) (s6 : ByteArray) (s7 : Bool) (s25 : VS) (s26 : Int) (s27 : Int) (h : VH) : VRes := loopAt P tab 20 [1, 1, 1, 0, 1, 0] n [] m [.undef, .int .i64 s1, .undef, .undef, .ptr (.ob s4 0), .undef, .str s6, .bool s7, .undef, .undef, .undef, .undef, .undef, .undef, .undef, .undef, .undef, .undef, .undef, .undef, .undef, .undef, .undef, .undef, .undef, .sl 70 s25, .int .i64 s26, .int .i64 s27, .undef, .undef, .undef, .undef, .undef, .undef, .undef, .undef, .undef, .undef, .undef, .undef, .undef, .undef, .undef, .undef] h
theorem L20_0_eq (n m : Nat) (s1 : Int) (s4 : Nat) (s6 : ByteArray) (s7 : Bool) (s25 : VS) (s26 : Int) (s27 : Int) (h : VH) : L20_0 n (m + 1) s1 s4 s6 s7 s25 s26 s27 h =
  (cond (decide ((s27 : Int) < s26))
    ((ixV 3 s25 s27).bind fun p1 =>
      ((ldV (.agg [.int .i64, .bool, .bool]) h p1).bind fun x2 =>
        ((stV (h ++ [.row (70 + boxK) [.int .i64 0, .bool false, .bool false]]) (.ob h.length 0) [.int .i64 x2.1, .bool x2.2.1, .bool x2.2.2.1]).bind fun h3 =>
          (cond s7
            ((ldV (.flat (.int .i64)) h3 (.ob h.length 0)).bind fun x4 =>
              (cond ((x4 : Int) == s1)
                ((ldV (.flat .bool) h3 (.ob h.length 1)).bind fun x5 =>
                  ((stV h3 (.ob s4 0) [.str s6, .bool x5]).bind fun h6 =>
                    (((ldV (.agg [.str, .bool]) h6 (.ob s4 0)).bind fun x7 =>
                        some (.tup [.agg [.str x7.1, .bool x7.2.1], .bool true], h6)))))
                (L20_0 n m s1 s4 s6 s7 s25 s26 (IntKind.wrap .i64 (s27 + 1)) h3)))
            (L20_0 n m s1 s4 s6 s7 s25 s26 (IntKind.wrap .i64 (s27 + 1)) h3)))))
    ((stV h (.ob s4 0) [.str ⟨#[]⟩, .bool false]).bind fun h8 =>
      (((ldV (.agg [.str, .bool]) h8 (.ob s4 0)).bind fun x9 =>
          some (.tup [.agg [.str x9.1, .bool x9.2.1], .bool false], h8))))) := by kernel_rfl
theorem f20_eq (n : Nat) (a0 : VP) (a1 : Int) (h : VH) : bodyV P tab (vF P tab n) n 20 [.ptr a0, .int .i64 a1] h =
  (cond (VP.isNil a0)
    ((stV (h ++ [.row (28 + boxK) [.str ⟨#[]⟩, .bool false]]) (.ob h.length 0) [.str ⟨#[]⟩, .bool false]).bind fun h1 =>
      (((ldV (.agg [.str, .bool]) h1 (.ob h.length 0)).bind fun x2 =>
          some (.tup [.agg [.str x2.1, .bool x2.2.1], .bool false], h1))))
    ((nn a0).bind fun p3 =>
      ((atO p3 1).bind fun p4 =>
        ((ldV (.flat .map) (h ++ [.row (28 + boxK) [.str ⟨#[]⟩, .bool false]]) p4).bind fun x5 =>
          ((V.lookD P 9 (.flat .str) (h ++ [.row (28 + boxK) [.str ⟨#[]⟩, .bool false]]) (.int .i64) x5 (.int .i64 a1)).bind fun x6 =>
            ((callD (vF P tab n) P false (.one (.agg [.slice 3, .bool, .slice 70])) 34 [.ptr a0, .str x6.1] (h ++ [.row (28 + boxK) [.str ⟨#[]⟩, .bool false]])).bind fun r7 =>
              (L20_0 n n a1 h.length x6.1 x6.2 r7.1.2.2.1 ((VS.len r7.1.2.2.1 : Nat) : Int) 0 r7.2))))))) := by kernel_rfl
/-! (*godown/lock.Table).Ahead -/
noncomputable def L21_0 (n m : Nat) (s1 : Int) (s5 : Nat) (s7 : VP) (s8 : VS) (s31 : VS) (s32 : Int) (s33 : Int) (h : VH) : VRes := loopAt P tab 21 [1, 1, 1, 1, 1, 0, 1, 0] n [] m [.undef, .int .i64 s1, .undef, .undef, .undef, .ptr (.ob s5 0), .undef, .ptr s7, .sl 3 s8, .undef, .undef, .undef, .undef, .undef, .undef, .undef, .undef, .undef, .undef, .undef, .undef, .undef, .undef, .undef, .undef, .undef, .undef, .undef, .undef, .undef, .undef, .sl 3 s31, .int .i64 s32, .int .i64 s33, .undef, .undef, .undef, .undef, .undef, .undef, .undef, .undef, .undef, .undef, .undef, .undef, .undef, .undef, .undef, .undef, .undef, .undef, .undef, .undef, .undef, .undef, .undef, .undef, .undef, .undef, .undef, .undef, .undef, .undef, .undef, .undef, .undef, .undef, .undef, .undef, .undef, .undef, .undef, .undef, .undef, .undef, .undef, .undef] h
noncomputable def L21_1 (n m : Nat) (s1 : Int) (s8 : VS) (s58 : VS) (s59 : Int) (s60 : Int) (h : VH) : VRes := loopAt P tab 21 [1, 1, 1, 1, 1, 1, 0, 1, 0] n [] m [.undef, .int .i64 s1, .undef, .undef, .undef, .undef, .undef, .undef, .sl 3 s8, .undef, .undef, .undef, .undef, .undef, .undef, .undef, .undef, .undef, .undef, .undef, .undef, .undef, .undef, .undef, .undef, .undef, .undef, .undef, .undef, .undef, .undef, .undef, .undef, .undef, .undef, .undef, .undef, .undef, .undef, .undef, .undef, .undef, .undef, .undef, .undef, .undef, .undef, .undef, .undef, .undef, .undef, .undef, .undef, .undef, .undef, .undef, .undef, .undef, .sl 70 s58, .int .i64 s59, .int .i64 s60, .undef, .undef, .undef, .undef, .undef, .undef, .undef, .undef, .undef, .undef, .undef, .undef, .undef, .undef, .undef, .undef, .undef] h
theorem L21_0_eq (n m : Nat) (s1 : Int) (s5 : Nat) (s7 : VP) (s8 : VS) (s31 : VS) (s32 : Int) (s33 : Int) (h : VH) : L21_0 n (m + 1) s1 s5 s7 s8 s31 s32 s33 h =
  (cond (decide ((s33 : Int) < s32))
    ((ixV 1 s31 s33).bind fun p1 =>
      ((ldV (.flat (.int .i64)) h p1).bind fun x2 =>
        (cond ((x2 : Int) != s1)
          ((ldV (.flat .bool) h (.ob s5 1)).bind fun x3 =>
            (cond x3
              ((appD false (h ++ [.row 3 [.int .i64 x2]]) 1 8 3 s8 (.hp h.length 0 1)).bind fun r4 =>
                (L21_0 n m s1 s5 s7 r4.1 s31 s32 (IntKind.wrap .i64 (s33 + 1)) r4.2))
              ((nn s7).bind fun p5 =>
                ((atO p5 1).bind fun p6 =>
                  ((ldV (.flat .bool) h p6).bind fun x7 =>
                    (cond x7
                      ((appD false (h ++ [.row 3 [.int .i64 x2]]) 1 8 3 s8 (.hp h.length 0 1)).bind fun r8 =>
                        (L21_0 n m s1 s5 s7 r8.1 s31 s32 (IntKind.wrap .i64 (s33 + 1)) r8.2))
                      (L21_0 n m s1 s5 s7 s8 s31 s32 (IntKind.wrap .i64 (s33 + 1)) h)))))))
          (L21_0 n m s1 s5 s7 s8 s31 s32 (IntKind.wrap .i64 (s33 + 1)) h))))
    ((nn s7).bind fun p9 =>
      ((atO p9 2).bind fun p10 =>
        ((ldV (.flat (.slice 70)) h p10).bind fun x11 =>
          (L21_1 n n s1 s8 x11 ((VS.len x11 : Nat) : Int) 0 h))))) := by kernel_rfl
theorem L21_1_eq (n m : Nat) (s1 : Int) (s8 : VS) (s58 : VS) (s59 : Int) (s60 : Int) (h : VH) : L21_1 n (m + 1) s1 s8 s58 s59 s60 h =
  (cond (decide ((s60 : Int) < s59))
    ((ixV 3 s58 s60).bind fun p1 =>
      ((ldV (.agg [.int .i64, .bool, .bool]) h p1).bind fun x2 =>
        ((stV (h ++ [.row (70 + boxK) [.int .i64 0, .bool false, .bool false]]) (.ob h.length 0) [.int .i64 x2.1, .bool x2.2.1, .bool x2.2.2.1]).bind fun h3 =>
          ((ldV (.flat (.int .i64)) h3 (.ob h.length 0)).bind fun x4 =>
            (cond ((x4 : Int) == s1)
              ((callD (vF P tab n) P false (.tup []) 36 [.sl 3 s8] h3).bind fun r5 =>
                ((callD (vF P tab n) P false (.one (.flat (.slice 3))) 37 [.sl 3 s8] r5.2).bind fun r6 =>
                  (some (.sl 3 r6.1, r6.2))))
              ((ldV (.flat (.int .i64)) h3 (.ob h.length 0)).bind fun x7 =>
                ((appD false (h3 ++ [.row 3 [.int .i64 x7]]) 1 8 3 s8 (.hp h3.length 0 1)).bind fun r8 =>
                  (L21_1 n m s1 r8.1 s58 s59 (IntKind.wrap .i64 (s60 + 1)) r8.2))))))))
    ((callD (vF P tab n) P false (.tup []) 36 [.sl 3 s8] h).bind fun r9 =>
      ((callD (vF P tab n) P false (.one (.flat (.slice 3))) 37 [.sl 3 s8] r9.2).bind fun r10 =>
        (some (.sl 3 r10.1, r10.2))))) := by kernel_rfl
theorem f21_eq (n : Nat) (a0 : VP) (a1 : Int) (h : VH) : bodyV P tab (vF P tab n) n 21 [.ptr a0, .int .i64 a1] h =
  ((callD (vF P tab n) P false (.tup [(.agg [.str, .bool]), (.flat .bool)]) 20 [.ptr a0, .int .i64 a1] h).bind fun r1 =>
    ((stV (r1.2 ++ [.row (28 + boxK) [.str ⟨#[]⟩, .bool false]]) (.ob r1.2.length 0) [.str r1.1.1.1, .bool r1.1.1.2.1]).bind fun h2 =>
      (cond (!r1.1.2.1)
        (some (.sl 3 .nil, h2))
        ((nn a0).bind fun p3 =>
          ((atO p3 0).bind fun p4 =>
            ((ldV (.flat .map) h2 p4).bind fun x5 =>
              ((ldV (.flat .str) h2 (.ob r1.2.length 0)).bind fun x6 =>
                ((V.lookD P 63 (.flat .ptr) h2 .str x5 (.str x6)).bind fun x7 =>
                  ((nn x7.1).bind fun p8 =>
                    ((atO p8 0).bind fun p9 =>
                      ((ldV (.flat (.slice 3)) h2 p9).bind fun x10 =>
                        (L21_0 n n a1 r1.2.length x7.1 .nil x10 ((VS.len x10 : Nat) : Int) 0 h2)))))))))))) := by kernel_rfl
/-! (*godown/lock.Table).of -/
theorem f26_eq (n : Nat) (a0 : VP) (a1 : ByteArray) (h : VH) : bodyV P tab (vF P tab n) n 26 [.ptr a0, .str a1] h =
  ((nn a0).bind fun p1 =>
    ((atO p1 0).bind fun p2 =>
      ((ldV (.flat .map) h p2).bind fun x3 =>
        ((V.lookD P 63 (.flat .ptr) h .str x3 (.str a1)).bind fun x4 =>
          (cond (VP.isNil x4.1)
            ((nn a0).bind fun p5 =>
              ((atO p5 0).bind fun p6 =>
                ((ldV (.flat .map) (h ++ [.row (68 + boxK) [.sl 3 .nil, .bool false, .sl 70 .nil]]) p6).bind fun x7 =>
                  ((V.putD (h ++ [.row (68 + boxK) [.sl 3 .nil, .bool false, .sl 70 .nil]]) .str x7 (.str a1) (.ptr (.ob h.length 0))).bind fun h8 =>
                    (some (.ptr (.ob h.length 0), h8))))))
            (some (.ptr x4.1, h))))))) := by kernel_rfl
/-! slices.Contains[[]int,int] -/
theorem f27_eq (n : Nat) (a0 : VS) (a1 : Int) (h : VH) : bodyV P tab (vF P tab n) n 27 [.sl 3 a0, .int .i64 a1] h =
  ((callD (vF P tab n) P false (.one (.flat (.int .i64))) 48 [.sl 3 a0, .int .i64 a1] h).bind fun r1 =>
    (some (.bool (decide ((r1.1 : Int) ≥ 0)), r1.2))) := by kernel_rfl
/-! (*godown/lock.lock).may -/
theorem f28_eq (n : Nat) (a0 : VP) (a1_0 : Int) (a1_1 : Bool) (a1_2 : Bool) (h : VH) : bodyV P tab (vF P tab n) n 28 [.ptr a0, .agg [.int .i64 a1_0, .bool a1_1, .bool a1_2]] h =
  ((ldV (.flat .bool) (h ++ [.row (70 + boxK) [.int .i64 a1_0, .bool a1_1, .bool a1_2]]) (.ob h.length 2)).bind fun x1 =>
    (cond x1
      ((nn a0).bind fun p2 =>
        ((atO p2 0).bind fun p3 =>
          ((ldV (.flat (.slice 3)) (h ++ [.row (70 + boxK) [.int .i64 a1_0, .bool a1_1, .bool a1_2]]) p3).bind fun x4 =>
            (some (.bool ((((VS.len x4 : Nat) : Int) : Int) == 1), (h ++ [.row (70 + boxK) [.int .i64 a1_0, .bool a1_1, .bool a1_2]]))))))
      ((ldV (.flat .bool) (h ++ [.row (70 + boxK) [.int .i64 a1_0, .bool a1_1, .bool a1_2]]) (.ob h.length 1)).bind fun x5 =>
        (cond x5
          ((nn a0).bind fun p6 =>
            ((atO p6 0).bind fun p7 =>
              ((ldV (.flat (.slice 3)) (h ++ [.row (70 + boxK) [.int .i64 a1_0, .bool a1_1, .bool a1_2]]) p7).bind fun x8 =>
                (some (.bool ((((VS.len x8 : Nat) : Int) : Int) == 0), (h ++ [.row (70 + boxK) [.int .i64 a1_0, .bool a1_1, .bool a1_2]]))))))
          ((nn a0).bind fun p9 =>
            ((atO p9 1).bind fun p10 =>
              ((ldV (.flat .bool) (h ++ [.row (70 + boxK) [.int .i64 a1_0, .bool a1_1, .bool a1_2]]) p10).bind fun x11 =>
                (some (.bool (!x11), (h ++ [.row (70 + boxK) [.int .i64 a1_0, .bool a1_1, .bool a1_2]])))))))))) := by kernel_rfl
/-! (*godown/lock.lock).give -/
theorem f29_eq (n : Nat) (a0 : VP) (a1_0 : Int) (a1_1 : Bool) (a1_2 : Bool) (h : VH) : bodyV P tab (vF P tab n) n 29 [.ptr a0, .agg [.int .i64 a1_0, .bool a1_1, .bool a1_2]] h =
  ((ldV (.flat .bool) (h ++ [.row (70 + boxK) [.int .i64 a1_0, .bool a1_1, .bool a1_2]]) (.ob h.length 2)).bind fun x1 =>
    (cond (!x1)
      ((nn a0).bind fun p2 =>
        ((atO p2 0).bind fun p3 =>
          ((ldV (.flat (.slice 3)) (h ++ [.row (70 + boxK) [.int .i64 a1_0, .bool a1_1, .bool a1_2]]) p3).bind fun x4 =>
            ((ldV (.flat (.int .i64)) (h ++ [.row (70 + boxK) [.int .i64 a1_0, .bool a1_1, .bool a1_2]]) (.ob h.length 0)).bind fun x5 =>
              (cond (V.stays (h ++ [.row (70 + boxK) [.int .i64 a1_0, .bool a1_1, .bool a1_2]]) (hj (heldOf p3 [.slice 3] [.sl 3 x4]) []))
                (cond (V.stays (List.append (α := VO) (h ++ [.row (70 + boxK) [.int .i64 a1_0, .bool a1_1, .bool a1_2]]) [.row 3 [.int .i64 x5]]) (hj (heldOf p3 [.slice 3] [.sl 3 x4]) []))
                  ((appD false (List.append (α := VO) (h ++ [.row (70 + boxK) [.int .i64 a1_0, .bool a1_1, .bool a1_2]]) [.row 3 [.int .i64 x5]]) 1 8 3 x4 (.hp (List.length ((h ++ [.row (70 + boxK) [.int .i64 a1_0, .bool a1_1, .bool a1_2]]) : VH)) 0 1)).bind fun r6 =>
                    ((nn a0).bind fun p7 =>
                      ((atO p7 0).bind fun p8 =>
                        ((stV r6.2 p8 [.sl 3 r6.1]).bind fun h9 =>
                        ((nn a0).bind fun p10 =>
                        ((atO p10 0).bind fun p11 =>
                        ((ldV (.flat (.slice 3)) h9 p11).bind fun x12 =>
                        ((callD (vF P tab n) P false (.tup []) 36 [.sl 3 x12] h9).bind fun r13 =>
                        ((ldV (.flat .bool) r13.2 (.ob h.length 1)).bind fun x14 =>
                        ((nn a0).bind fun p15 =>
                        ((atO p15 1).bind fun p16 =>
                        ((stV r13.2 p16 [.bool x14]).bind fun h17 =>
                        (some (.tup [], h17))))))))))))))
                  none)
                none)))))
      ((ldV (.flat .bool) (h ++ [.row (70 + boxK) [.int .i64 a1_0, .bool a1_1, .bool a1_2]]) (.ob h.length 1)).bind fun x18 =>
        ((nn a0).bind fun p19 =>
          ((atO p19 1).bind fun p20 =>
            ((stV (h ++ [.row (70 + boxK) [.int .i64 a1_0, .bool a1_1, .bool a1_2]]) p20 [.bool x18]).bind fun h21 =>
              (some (.tup [], h21)))))))) := by kernel_rfl
/-! (*godown/lock.Table).wait -/
noncomputable def L30_0 (n m : Nat) (s0 : VP) (s1 : ByteArray) (s5 : Nat) (s6 : VP) (s7 : Int) (h : VH) : VRes := loopAt P tab 30 [1, 1, 0, 0] n [] m [.ptr s0, .str s1, .undef, .undef, .undef, .ptr (.ob s5 0), .ptr s6, .int .i64 s7, .undef, .undef, .undef, .undef, .undef, .undef, .undef, .undef, .undef, .undef, .undef, .undef, .undef, .undef, .undef, .undef, .undef, .undef, .undef, .undef, .undef, .undef, .undef, .undef, .undef, .undef, .undef, .undef, .undef, .undef, .undef, .undef, .undef, .undef, .undef, .undef, .undef, .undef, .undef, .undef, .undef, .undef, .undef, .undef, .undef] h
theorem L30_0_eq (n m : Nat) (s0 : VP) (s1 : ByteArray) (s5 : Nat) (s6 : VP) (s7 : Int) (h : VH) : L30_0 n (m + 1) s0 s1 s5 s6 s7 h =
  ((nn s6).bind fun p1 =>
    ((atO p1 2).bind fun p2 =>
      ((ldV (.flat (.slice 70)) h p2).bind fun x3 =>
        (cond (decide ((s7 : Int) < ((VS.len x3 : Nat) : Int)))
          ((ldV (.flat .bool) h (.ob s5 2)).bind fun x4 =>
            (cond (!x4)
              (L30_0 n m s0 s1 s5 s6 (IntKind.wrap .i64 (s7 + 1)) h)
              ((nn s6).bind fun p5 =>
                ((atO p5 2).bind fun p6 =>
                  ((ldV (.flat (.slice 70)) h p6).bind fun x7 =>
                    ((ixV 3 x7 s7).bind fun p8 =>
                      ((atO p8 2).bind fun p9 =>
                        ((ldV (.flat .bool) h p9).bind fun x10 =>
                        (cond x10
                        (L30_0 n m s0 s1 s5 s6 (IntKind.wrap .i64 (s7 + 1)) h)
                        ((nn s6).bind fun p11 =>
                        ((atO p11 2).bind fun p12 =>
                        ((ldV (.flat (.slice 70)) h p12).bind fun x13 =>
                        ((ldV (.agg [.int .i64, .bool, .bool]) h (.ob s5 0)).bind fun x14 =>
                        (cond (V.stays h (hj (heldOf p12 [.slice 70] [.sl 70 x13]) []))
                        (cond (V.stays h (hj (heldOf p12 [.slice 70] [.sl 70 x13]) []))
                        ((callD (vF P tab n) P false (.one (.flat (.slice 70))) 49 [.sl 70 x13, .int .i64 s7, .sl 70 (.fz [[.int .i64 x14.1, .bool x14.2.1, .bool x14.2.2.1]] (.ex 1))] h).bind fun r15 =>
                        ((nn s6).bind fun p16 =>
                        ((atO p16 2).bind fun p17 =>
                        ((stV r15.2 p17 [.sl 70 r15.1]).bind fun h18 =>
                        ((nn s0).bind fun p19 =>
                        ((atO p19 1).bind fun p20 =>
                        ((ldV (.flat .map) h18 p20).bind fun x21 =>
                        ((ldV (.flat (.int .i64)) h18 (.ob s5 0)).bind fun x22 =>
                        ((V.putD h18 (.int .i64) x21 (.int .i64 x22) (.str s1)).bind fun h23 =>
                        (some (.tup [], h23)))))))))))
                        none)
                        none))))))))))))))
          ((nn s6).bind fun p24 =>
            ((atO p24 2).bind fun p25 =>
              ((ldV (.flat (.slice 70)) h p25).bind fun x26 =>
                ((ldV (.agg [.int .i64, .bool, .bool]) h (.ob s5 0)).bind fun x27 =>
                  (cond (V.stays h (hj (heldOf p25 [.slice 70] [.sl 70 x26]) []))
                    (cond (V.stays h (hj (heldOf p25 [.slice 70] [.sl 70 x26]) []))
                      ((callD (vF P tab n) P false (.one (.flat (.slice 70))) 49 [.sl 70 x26, .int .i64 s7, .sl 70 (.fz [[.int .i64 x27.1, .bool x27.2.1, .bool x27.2.2.1]] (.ex 1))] h).bind fun r28 =>
                        ((nn s6).bind fun p29 =>
                        ((atO p29 2).bind fun p30 =>
                        ((stV r28.2 p30 [.sl 70 r28.1]).bind fun h31 =>
                        ((nn s0).bind fun p32 =>
                        ((atO p32 1).bind fun p33 =>
                        ((ldV (.flat .map) h31 p33).bind fun x34 =>
                        ((ldV (.flat (.int .i64)) h31 (.ob s5 0)).bind fun x35 =>
                        ((V.putD h31 (.int .i64) x34 (.int .i64 x35) (.str s1)).bind fun h36 =>
                        (some (.tup [], h36)))))))))))
                      none)
                    none))))))))) := by kernel_rfl
theorem f30_eq (n : Nat) (a0 : VP) (a1 : ByteArray) (a2_0 : Int) (a2_1 : Bool) (a2_2 : Bool) (h : VH) : bodyV P tab (vF P tab n) n 30 [.ptr a0, .str a1, .agg [.int .i64 a2_0, .bool a2_1, .bool a2_2]] h =
  ((callD (vF P tab n) P false (.one (.flat .ptr)) 26 [.ptr a0, .str a1] (h ++ [.row (70 + boxK) [.int .i64 a2_0, .bool a2_1, .bool a2_2]])).bind fun r1 =>
    (L30_0 n n a0 a1 h.length r1.1 0 r1.2)) := by kernel_rfl
/-! (*godown/lock.Table).keys -/
theorem f31_eq (n : Nat) (a0 : VP) (h : VH) : bodyV P tab (vF P tab n) n 31 [.ptr a0] h =
  (cond (VP.isNil a0)
    (some (.sl 9 .nil, h))
    ((nn a0).bind fun p1 =>
      ((atO p1 0).bind fun p2 =>
        ((ldV (.flat .map) h p2).bind fun x3 =>
          ((callD (vF P tab n) P false (.one (.flat .any)) 51 [.map x3] h).bind fun r4 =>
            ((callD (vF P tab n) P false (.one (.flat (.slice 9))) 50 [r4.1] r4.2).bind fun r5 =>
              (some (.sl 9 r5.1, r5.2)))))))) := by kernel_rfl
/-! (*godown/lock.lock).leave -/
theorem f32_eq (n : Nat) (a0 : VP) (a1 : Int) (h : VH) : bodyV P tab (vF P tab n) n 32 [.ptr a0, .int .i64 a1] h =
  ((nn a0).bind fun p1 =>
    ((atO p1 0).bind fun p2 =>
      ((ldV (.flat (.slice 3)) (h ++ [.row (3 + boxK) [.int .i64 a1]]) p2).bind fun x3 =>
        ((nn a0).bind fun p4 =>
          ((atO p4 2).bind fun p5 =>
            ((ldV (.flat (.slice 70)) (h ++ [.row (3 + boxK) [.int .i64 a1]]) p5).bind fun x6 =>
              ((nn a0).bind fun p7 =>
                ((atO p7 0).bind fun p8 =>
                  ((ldV (.flat (.slice 3)) (h ++ [.row (3 + boxK) [.int .i64 a1]]) p8).bind fun x9 =>
                    ((ldV (.flat (.int .i64)) (h ++ [.row (3 + boxK) [.int .i64 a1]]) (.ob h.length 0)).bind fun x10 =>
                      ((callD (vF P tab n) P false (.one (.flat .bool)) 27 [.sl 3 x9, .int .i64 x10] (h ++ [.row (3 + boxK) [.int .i64 a1]])).bind fun r11 =>
                        (cond r11.1
                        ((nn a0).bind fun p12 =>
                        ((atO p12 1).bind fun p13 =>
                        ((stV r11.2 p13 [.bool false]).bind fun h14 =>
                        ((nn a0).bind fun p15 =>
                        ((atO p15 0).bind fun p16 =>
                        ((ldV (.flat (.slice 3)) h14 p16).bind fun x17 =>
                        ((callD (vF P tab n) P false (.one (.flat (.slice 3))) 52 [.sl 3 x17, .func (.func 53) [] [.ptr (.ob h.length 0)]] h14).bind fun r18 =>
                        ((nn a0).bind fun p19 =>
                        ((atO p19 0).bind fun p20 =>
                        ((stV r18.2 p20 [.sl 3 r18.1]).bind fun h21 =>
                        ((nn a0).bind fun p22 =>
                        ((atO p22 2).bind fun p23 =>
                        ((ldV (.flat (.slice 70)) h21 p23).bind fun x24 =>
                        ((callD (vF P tab n) P false (.one (.flat (.slice 70))) 54 [.sl 70 x24, .func (.func 55) [] [.ptr (.ob h.length 0)]] h21).bind fun r25 =>
                        ((nn a0).bind fun p26 =>
                        ((atO p26 2).bind fun p27 =>
                        ((stV r25.2 p27 [.sl 70 r25.1]).bind fun h28 =>
                        ((nn a0).bind fun p29 =>
                        ((atO p29 0).bind fun p30 =>
                        ((ldV (.flat (.slice 3)) h28 p30).bind fun x31 =>
                        ((nn a0).bind fun p32 =>
                        ((atO p32 2).bind fun p33 =>
                        ((ldV (.flat (.slice 70)) h28 p33).bind fun x34 =>
                        (some (.bool (decide (((IntKind.wrap .i64 (((VS.len x31 : Nat) : Int) + ((VS.len x34 : Nat) : Int))) : Int) < (IntKind.wrap .i64 (((VS.len x3 : Nat) : Int) + ((VS.len x6 : Nat) : Int))))), h28)))))))))))))))))))))))))
                        ((nn a0).bind fun p35 =>
                        ((atO p35 0).bind fun p36 =>
                        ((ldV (.flat (.slice 3)) r11.2 p36).bind fun x37 =>
                        ((callD (vF P tab n) P false (.one (.flat (.slice 3))) 52 [.sl 3 x37, .func (.func 53) [] [.ptr (.ob h.length 0)]] r11.2).bind fun r38 =>
                        ((nn a0).bind fun p39 =>
                        ((atO p39 0).bind fun p40 =>
                        ((stV r38.2 p40 [.sl 3 r38.1]).bind fun h41 =>
                        ((nn a0).bind fun p42 =>
                        ((atO p42 2).bind fun p43 =>
                        ((ldV (.flat (.slice 70)) h41 p43).bind fun x44 =>
                        ((callD (vF P tab n) P false (.one (.flat (.slice 70))) 54 [.sl 70 x44, .func (.func 55) [] [.ptr (.ob h.length 0)]] h41).bind fun r45 =>
                        ((nn a0).bind fun p46 =>
                        ((atO p46 2).bind fun p47 =>
                        ((stV r45.2 p47 [.sl 70 r45.1]).bind fun h48 =>
                        ((nn a0).bind fun p49 =>
                        ((atO p49 0).bind fun p50 =>
                        ((ldV (.flat (.slice 3)) h48 p50).bind fun x51 =>
                        ((nn a0).bind fun p52 =>
                        ((atO p52 2).bind fun p53 =>
                        ((ldV (.flat (.slice 70)) h48 p53).bind fun x54 =>
                        (some (.bool (decide (((IntKind.wrap .i64 (((VS.len x51 : Nat) : Int) + ((VS.len x54 : Nat) : Int))) : Int) < (IntKind.wrap .i64 (((VS.len x3 : Nat) : Int) + ((VS.len x6 : Nat) : Int))))), h48)))))))))))))))))))))))))))))))))) := by kernel_rfl
/-! (*godown/lock.Table).let -/
noncomputable def L33_0 (n m : Nat) (s0 : VP) (s1 : VP) (s5 : VS) (h : VH) : VRes := loopAt P tab 33 [1, 1, 0, 0] n [] m [.ptr s0, .ptr s1, .undef, .undef, .undef, .sl 3 s5, .undef, .undef, .undef, .undef, .undef, .undef, .undef, .undef, .undef, .undef, .undef, .undef, .undef, .undef, .undef, .undef, .undef, .undef, .undef, .undef, .undef, .undef, .undef, .undef, .undef, .undef, .undef, .undef, .undef, .undef, .undef, .undef, .undef, .undef, .undef, .undef, .undef, .undef, .undef, .undef, .undef, .undef, .undef, .undef, .undef, .undef] h
theorem L33_0_eq (n m : Nat) (s0 : VP) (s1 : VP) (s5 : VS) (h : VH) : L33_0 n (m + 1) s0 s1 s5 h =
  ((nn s1).bind fun p1 =>
    ((atO p1 2).bind fun p2 =>
      ((ldV (.flat (.slice 70)) h p2).bind fun x3 =>
        (cond (decide ((((VS.len x3 : Nat) : Int) : Int) > 0))
          ((nn s1).bind fun p4 =>
            ((atO p4 2).bind fun p5 =>
              ((ldV (.flat (.slice 70)) h p5).bind fun x6 =>
                ((ixV 3 x6 0).bind fun p7 =>
                  ((ldV (.agg [.int .i64, .bool, .bool]) h p7).bind fun x8 =>
                    ((callD (vF P tab n) P false (.one (.flat .bool)) 28 [.ptr s1, .agg [.int .i64 x8.1, .bool x8.2.1, .bool x8.2.2.1]] h).bind fun r9 =>
                      (cond r9.1
                        ((nn s1).bind fun p10 =>
                        ((atO p10 2).bind fun p11 =>
                        ((ldV (.flat (.slice 70)) r9.2 p11).bind fun x12 =>
                        ((ixV 3 x12 0).bind fun p13 =>
                        ((ldV (.agg [.int .i64, .bool, .bool]) r9.2 p13).bind fun x14 =>
                        ((stV (r9.2 ++ [.row (70 + boxK) [.int .i64 0, .bool false, .bool false]]) (.ob r9.2.length 0) [.int .i64 x14.1, .bool x14.2.1, .bool x14.2.2.1]).bind fun h15 =>
                        ((nn s1).bind fun p16 =>
                        ((atO p16 2).bind fun p17 =>
                        ((ldV (.flat (.slice 70)) h15 p17).bind fun x18 =>
                        ((cutD h15 70 3 x18 (some 1) none none).bind fun z19 =>
                        ((nn s1).bind fun p20 =>
                        ((atO p20 2).bind fun p21 =>
                        ((stV h15 p21 [.sl 70 z19]).bind fun h22 =>
                        ((ldV (.agg [.int .i64, .bool, .bool]) h22 (.ob r9.2.length 0)).bind fun x23 =>
                        ((callD (vF P tab n) P false (.tup []) 29 [.ptr s1, .agg [.int .i64 x23.1, .bool x23.2.1, .bool x23.2.2.1]] h22).bind fun r24 =>
                        ((nn s0).bind fun p25 =>
                        ((atO p25 1).bind fun p26 =>
                        ((ldV (.flat .map) r24.2 p26).bind fun x27 =>
                        ((ldV (.flat (.int .i64)) r24.2 (.ob r9.2.length 0)).bind fun x28 =>
                        ((V.cutMD r24.2 (.int .i64) x27 (.int .i64 x28)).bind fun h29 =>
                        ((ldV (.flat (.int .i64)) h29 (.ob r9.2.length 0)).bind fun x30 =>
                        ((appD true h29 1 8 3 s5 (.fz [[.int .i64 x30]] (.ex 1))).bind fun r31 =>
                        (L33_0 n m s0 s1 r31.1 r31.2)))))))))))))))))))))))
                        (some (.sl 3 s5, r9.2)))))))))
          (some (.sl 3 s5, h)))))) := by kernel_rfl
theorem f33_eq (n : Nat) (a0 : VP) (a1 : VP) (h : VH) : bodyV P tab (vF P tab n) n 33 [.ptr a0, .ptr a1] h =
  (L33_0 n n a0 a1 .nil h) := by kernel_rfl
/-! (*godown/lock.Table).see -/
theorem f34_eq (n : Nat) (a0 : VP) (a1 : ByteArray) (h : VH) : bodyV P tab (vF P tab n) n 34 [.ptr a0, .str a1] h =
  (cond (VP.isNil a0)
    ((stV (h ++ [.row (68 + boxK) [.sl 3 .nil, .bool false, .sl 70 .nil]]) (.ob h.length 0) [.sl 3 .nil, .bool false, .sl 70 .nil]).bind fun h1 =>
      (((ldV (.agg [.slice 3, .bool, .slice 70]) h1 (.ob h.length 0)).bind fun x2 =>
          some (.agg [.sl 3 x2.1, .bool x2.2.1, .sl 70 x2.2.2.1], h1))))
    ((nn a0).bind fun p3 =>
      ((atO p3 0).bind fun p4 =>
        ((ldV (.flat .map) (h ++ [.row (68 + boxK) [.sl 3 .nil, .bool false, .sl 70 .nil]]) p4).bind fun x5 =>
          ((V.lookD P 63 (.flat .ptr) (h ++ [.row (68 + boxK) [.sl 3 .nil, .bool false, .sl 70 .nil]]) .str x5 (.str a1)).bind fun x6 =>
            (cond (VP.isNil x6.1)
              ((stV (h ++ [.row (68 + boxK) [.sl 3 .nil, .bool false, .sl 70 .nil]]) (.ob h.length 0) [.sl 3 .nil, .bool false, .sl 70 .nil]).bind fun h7 =>
                (((ldV (.agg [.slice 3, .bool, .slice 70]) h7 (.ob h.length 0)).bind fun x8 =>
                    some (.agg [.sl 3 x8.1, .bool x8.2.1, .sl 70 x8.2.2.1], h7))))
              ((nn a0).bind fun p9 =>
                ((atO p9 0).bind fun p10 =>
                  ((ldV (.flat .map) (h ++ [.row (68 + boxK) [.sl 3 .nil, .bool false, .sl 70 .nil]]) p10).bind fun x11 =>
                    ((V.lookD P 63 (.flat .ptr) (h ++ [.row (68 + boxK) [.sl 3 .nil, .bool false, .sl 70 .nil]]) .str x11 (.str a1)).bind fun x12 =>
                      ((nn x12.1).bind fun p13 =>
                        ((ldV (.agg [.slice 3, .bool, .slice 70]) (h ++ [.row (68 + boxK) [.sl 3 .nil, .bool false, .sl 70 .nil]]) p13).bind fun x14 =>
                        ((stV (h ++ [.row (68 + boxK) [.sl 3 .nil, .bool false, .sl 70 .nil]]) (.ob h.length 0) [.sl 3 x14.1, .bool x14.2.1, .sl 70 x14.2.2.1]).bind fun h15 =>
                        (((ldV (.agg [.slice 3, .bool, .slice 70]) h15 (.ob h.length 0)).bind fun x16 =>
                        some (.agg [.sl 3 x16.1, .bool x16.2.1, .sl 70 x16.2.2.1], h15)))))))))))))))) := by kernel_rfl
/-! slices.Clone[[]int,int] -/
theorem f35_eq (n : Nat) (a0 : VS) (h : VH) : bodyV P tab (vF P tab n) n 35 [.sl 3 a0] h =
  (cond (VS.isNil a0)
    (some (.sl 3 .nil, h))
    ((appD true h 1 8 3 (.fz [] (.ex 0)) a0).bind fun r1 =>
      (some (.sl 3 r1.1, r1.2)))) := by kernel_rfl
/-! slices.Sort[[]int,int] -/
theorem f36_eq (n : Nat) (a0 : VS) (h : VH) : bodyV P tab (vF P tab n) n 36 [.sl 3 a0] h =
  ((callD (vF P tab n) P false (.one (.flat (.int .i64))) 57 [.int .u64 (IntKind.wrap .u64 ((VS.len a0 : Nat) : Int))] h).bind fun r1 =>
    ((callD (vF P tab n) P false (.tup []) 56 [.sl 3 a0, .int .i64 0, .int .i64 ((VS.len a0 : Nat) : Int), .int .i64 r1.1] r1.2).bind fun r2 =>
      (some (.tup [], r2.2)))) := by kernel_rfl
/-! slices.Index[[]int,int] -/
noncomputable def L48_0 (n m : Nat) (s0 : VS) (s1 : Int) (s7 : Int) (s8 : Int) (h : VH) : VRes := loopAt P tab 48 [1, 0, 1, 0] n [] m [.sl 3 s0, .int .i64 s1, .undef, .undef, .undef, .undef, .undef, .int .i64 s7, .int .i64 s8, .undef, .undef, .undef, .undef, .undef, .undef, .undef, .undef, .undef, .undef] h
theorem L48_0_eq (n m : Nat) (s0 : VS) (s1 : Int) (s7 : Int) (s8 : Int) (h : VH) : L48_0 n (m + 1) s0 s1 s7 s8 h =
  (cond (decide ((s8 : Int) < s7))
    ((ixV 1 s0 s8).bind fun p1 =>
      ((ldV (.flat (.int .i64)) h p1).bind fun x2 =>
        (cond ((s1 : Int) == x2)
          (some (.int .i64 s8, h))
          (L48_0 n m s0 s1 s7 (IntKind.wrap .i64 (s8 + 1)) h))))
    (some (.int .i64 (-1), h))) := by kernel_rfl
theorem f48_eq (n : Nat) (a0 : VS) (a1 : Int) (h : VH) : bodyV P tab (vF P tab n) n 48 [.sl 3 a0, .int .i64 a1] h =
  (L48_0 n n a0 a1 ((VS.len a0 : Nat) : Int) 0 h) := by kernel_rfl
/-! maps.Keys[map[string]*godown/lock.lock,string,*godown/lock.lock] -/
theorem f51_eq (n : Nat) (a0 : Option Nat) (h : VH) : bodyV P tab (vF P tab n) n 51 [.map a0] h =
  (some (.func (.func 63) [] [.ptr (.ob h.length 0)], (h ++ [.row (59 + boxK) [.map a0]]))) := by kernel_rfl
/-! slices.pdqsortOrdered[int] -/
noncomputable def L56_0 (n m : Nat) (s0 : VS) (s1 : Int) (s2 : Int) (s3 : Int) (s8 : Bool) (s9 : Bool) (h : VH) : VRes := loopAt P tab 56 [1, 1, 0] n [] m [.sl 3 s0, .int .i64 s1, .int .i64 s2, .int .i64 s3, .undef, .undef, .undef, .undef, .bool s8, .bool s9, .undef, .undef, .undef, .undef, .undef, .undef, .undef, .undef, .undef, .undef, .undef, .undef, .undef, .undef, .undef, .undef, .undef, .undef, .undef, .undef, .undef, .undef, .undef, .undef, .undef, .undef, .undef, .undef, .undef, .undef, .undef, .undef, .undef, .undef, .undef, .undef, .undef, .undef, .undef, .undef, .undef, .undef, .undef, .undef, .undef, .undef, .undef, .undef, .undef, .undef, .undef, .undef, .undef, .undef, .undef, .undef, .undef, .undef, .undef, .undef, .undef, .undef, .undef, .undef, .undef, .undef, .undef, .undef, .undef, .undef, .undef, .undef, .undef, .undef, .undef, .undef, .undef, .undef, .undef, .undef, .undef, .undef, .undef, .undef, .undef, .undef, .undef, .undef, .undef, .undef, .undef, .undef, .undef, .undef, .undef, .undef, .undef, .undef, .undef, .undef, .undef, .undef, .undef, .undef, .undef, .undef, .undef, .undef, .undef, .undef, .undef, .undef, .undef, .undef, .undef, .undef, .undef, .undef, .undef, .undef, .undef, .undef, .undef, .undef] h
theorem L56_0_eq (n m : Nat) (s0 : VS) (s1 : Int) (s2 : Int) (s3 : Int) (s8 : Bool) (s9 : Bool) (h : VH) : L56_0 n (m + 1) s0 s1 s2 s3 s8 s9 h =
  (cond (decide (((IntKind.wrap .i64 (s2 - s1)) : Int) ≤ 12))
    ((callD (vF P tab n) P false (.tup []) 66 [.sl 3 s0, .int .i64 s1, .int .i64 s2] h).bind fun r1 =>
      (some (.tup [], r1.2)))
    (cond ((s3 : Int) == 0)
      ((callD (vF P tab n) P false (.tup []) 67 [.sl 3 s0, .int .i64 s1, .int .i64 s2] h).bind fun r2 =>
        (some (.tup [], r2.2)))
      (cond (!s8)
        ((callD (vF P tab n) P false (.tup []) 68 [.sl 3 s0, .int .i64 s1, .int .i64 s2] h).bind fun r3 =>
          ((callD (vF P tab n) P false (.tup [(.flat (.int .i64)), (.flat (.int .i64))]) 69 [.sl 3 s0, .int .i64 s1, .int .i64 s2] r3.2).bind fun r4 =>
            (cond ((r4.1.2.1 : Int) == 2)
              ((callD (vF P tab n) P false (.tup []) 70 [.sl 3 s0, .int .i64 s1, .int .i64 s2] r4.2).bind fun r5 =>
                (cond s8
                  (cond s9
                    ((callD (vF P tab n) P false (.one (.flat .bool)) 71 [.sl 3 s0, .int .i64 s1, .int .i64 s2] r5.2).bind fun r6 =>
                      (cond r6.1
                        (some (.tup [], r6.2))
                        (cond (decide ((s1 : Int) > 0))
                        ((ixV 1 s0 (IntKind.wrap .i64 (s1 - 1))).bind fun p7 =>
                        ((ldV (.flat (.int .i64)) r6.2 p7).bind fun x8 =>
                        ((ixV 1 s0 (IntKind.wrap .i64 ((IntKind.wrap .i64 (s2 - 1)) - (IntKind.wrap .i64 (r4.1.1 - s1))))).bind fun p9 =>
                        ((ldV (.flat (.int .i64)) r6.2 p9).bind fun x10 =>
                        ((callD (vF P tab n) P false (.one (.flat .bool)) 72 [.int .i64 x8, .int .i64 x10] r6.2).bind fun r11 =>
                        (cond (!r11.1)
                        ((callD (vF P tab n) P false (.one (.flat (.int .i64))) 73 [.sl 3 s0, .int .i64 s1, .int .i64 s2, .int .i64 (IntKind.wrap .i64 ((IntKind.wrap .i64 (s2 - 1)) - (IntKind.wrap .i64 (r4.1.1 - s1))))] r11.2).bind fun r12 =>
                        (L56_0 n m s0 r12.1 s2 (IntKind.wrap .i64 (s3 - 1)) s8 s9 r12.2))
                        ((callD (vF P tab n) P false (.tup [(.flat (.int .i64)), (.flat .bool)]) 74 [.sl 3 s0, .int .i64 s1, .int .i64 s2, .int .i64 (IntKind.wrap .i64 ((IntKind.wrap .i64 (s2 - 1)) - (IntKind.wrap .i64 (r4.1.1 - s1))))] r11.2).bind fun r13 =>
                        ((quoI .i64 (IntKind.wrap .i64 (s2 - s1)) 8).bind fun x14 =>
                        (cond (decide (((IntKind.wrap .i64 (r13.1.1 - s1)) : Int) < (IntKind.wrap .i64 (s2 - r13.1.1))))
                        ((callD (vF P tab n) P false (.tup []) 56 [.sl 3 s0, .int .i64 s1, .int .i64 r13.1.1, .int .i64 (IntKind.wrap .i64 (s3 - 1))] r13.2).bind fun r15 =>
                        (L56_0 n m s0 (IntKind.wrap .i64 (r13.1.1 + 1)) s2 (IntKind.wrap .i64 (s3 - 1)) (decide (((IntKind.wrap .i64 (r13.1.1 - s1)) : Int) ≥ x14)) r13.1.2.1 r15.2))
                        ((callD (vF P tab n) P false (.tup []) 56 [.sl 3 s0, .int .i64 (IntKind.wrap .i64 (r13.1.1 + 1)), .int .i64 s2, .int .i64 (IntKind.wrap .i64 (s3 - 1))] r13.2).bind fun r16 =>
                        (L56_0 n m s0 s1 r13.1.1 (IntKind.wrap .i64 (s3 - 1)) (decide (((IntKind.wrap .i64 (s2 - r13.1.1)) : Int) ≥ x14)) r13.1.2.1 r16.2)))))))))))
                        ((callD (vF P tab n) P false (.tup [(.flat (.int .i64)), (.flat .bool)]) 74 [.sl 3 s0, .int .i64 s1, .int .i64 s2, .int .i64 (IntKind.wrap .i64 ((IntKind.wrap .i64 (s2 - 1)) - (IntKind.wrap .i64 (r4.1.1 - s1))))] r6.2).bind fun r17 =>
                        ((quoI .i64 (IntKind.wrap .i64 (s2 - s1)) 8).bind fun x18 =>
                        (cond (decide (((IntKind.wrap .i64 (r17.1.1 - s1)) : Int) < (IntKind.wrap .i64 (s2 - r17.1.1))))
                        ((callD (vF P tab n) P false (.tup []) 56 [.sl 3 s0, .int .i64 s1, .int .i64 r17.1.1, .int .i64 (IntKind.wrap .i64 (s3 - 1))] r17.2).bind fun r19 =>
                        (L56_0 n m s0 (IntKind.wrap .i64 (r17.1.1 + 1)) s2 (IntKind.wrap .i64 (s3 - 1)) (decide (((IntKind.wrap .i64 (r17.1.1 - s1)) : Int) ≥ x18)) r17.1.2.1 r19.2))
                        ((callD (vF P tab n) P false (.tup []) 56 [.sl 3 s0, .int .i64 (IntKind.wrap .i64 (r17.1.1 + 1)), .int .i64 s2, .int .i64 (IntKind.wrap .i64 (s3 - 1))] r17.2).bind fun r20 =>
                        (L56_0 n m s0 s1 r17.1.1 (IntKind.wrap .i64 (s3 - 1)) (decide (((IntKind.wrap .i64 (s2 - r17.1.1)) : Int) ≥ x18)) r17.1.2.1 r20.2))))))))
                    (cond (decide ((s1 : Int) > 0))
                      ((ixV 1 s0 (IntKind.wrap .i64 (s1 - 1))).bind fun p21 =>
                        ((ldV (.flat (.int .i64)) r5.2 p21).bind fun x22 =>
                        ((ixV 1 s0 (IntKind.wrap .i64 ((IntKind.wrap .i64 (s2 - 1)) - (IntKind.wrap .i64 (r4.1.1 - s1))))).bind fun p23 =>
                        ((ldV (.flat (.int .i64)) r5.2 p23).bind fun x24 =>
                        ((callD (vF P tab n) P false (.one (.flat .bool)) 72 [.int .i64 x22, .int .i64 x24] r5.2).bind fun r25 =>
                        (cond (!r25.1)
                        ((callD (vF P tab n) P false (.one (.flat (.int .i64))) 73 [.sl 3 s0, .int .i64 s1, .int .i64 s2, .int .i64 (IntKind.wrap .i64 ((IntKind.wrap .i64 (s2 - 1)) - (IntKind.wrap .i64 (r4.1.1 - s1))))] r25.2).bind fun r26 =>
                        (L56_0 n m s0 r26.1 s2 (IntKind.wrap .i64 (s3 - 1)) s8 s9 r26.2))
                        ((callD (vF P tab n) P false (.tup [(.flat (.int .i64)), (.flat .bool)]) 74 [.sl 3 s0, .int .i64 s1, .int .i64 s2, .int .i64 (IntKind.wrap .i64 ((IntKind.wrap .i64 (s2 - 1)) - (IntKind.wrap .i64 (r4.1.1 - s1))))] r25.2).bind fun r27 =>
                        ((quoI .i64 (IntKind.wrap .i64 (s2 - s1)) 8).bind fun x28 =>
                        (cond (decide (((IntKind.wrap .i64 (r27.1.1 - s1)) : Int) < (IntKind.wrap .i64 (s2 - r27.1.1))))
                        ((callD (vF P tab n) P false (.tup []) 56 [.sl 3 s0, .int .i64 s1, .int .i64 r27.1.1, .int .i64 (IntKind.wrap .i64 (s3 - 1))] r27.2).bind fun r29 =>
                        (L56_0 n m s0 (IntKind.wrap .i64 (r27.1.1 + 1)) s2 (IntKind.wrap .i64 (s3 - 1)) (decide (((IntKind.wrap .i64 (r27.1.1 - s1)) : Int) ≥ x28)) r27.1.2.1 r29.2))
                        ((callD (vF P tab n) P false (.tup []) 56 [.sl 3 s0, .int .i64 (IntKind.wrap .i64 (r27.1.1 + 1)), .int .i64 s2, .int .i64 (IntKind.wrap .i64 (s3 - 1))] r27.2).bind fun r30 =>
                        (L56_0 n m s0 s1 r27.1.1 (IntKind.wrap .i64 (s3 - 1)) (decide (((IntKind.wrap .i64 (s2 - r27.1.1)) : Int) ≥ x28)) r27.1.2.1 r30.2)))))))))))
                      ((callD (vF P tab n) P false (.tup [(.flat (.int .i64)), (.flat .bool)]) 74 [.sl 3 s0, .int .i64 s1, .int .i64 s2, .int .i64 (IntKind.wrap .i64 ((IntKind.wrap .i64 (s2 - 1)) - (IntKind.wrap .i64 (r4.1.1 - s1))))] r5.2).bind fun r31 =>
                        ((quoI .i64 (IntKind.wrap .i64 (s2 - s1)) 8).bind fun x32 =>
                        (cond (decide (((IntKind.wrap .i64 (r31.1.1 - s1)) : Int) < (IntKind.wrap .i64 (s2 - r31.1.1))))
                        ((callD (vF P tab n) P false (.tup []) 56 [.sl 3 s0, .int .i64 s1, .int .i64 r31.1.1, .int .i64 (IntKind.wrap .i64 (s3 - 1))] r31.2).bind fun r33 =>
                        (L56_0 n m s0 (IntKind.wrap .i64 (r31.1.1 + 1)) s2 (IntKind.wrap .i64 (s3 - 1)) (decide (((IntKind.wrap .i64 (r31.1.1 - s1)) : Int) ≥ x32)) r31.1.2.1 r33.2))
                        ((callD (vF P tab n) P false (.tup []) 56 [.sl 3 s0, .int .i64 (IntKind.wrap .i64 (r31.1.1 + 1)), .int .i64 s2, .int .i64 (IntKind.wrap .i64 (s3 - 1))] r31.2).bind fun r34 =>
                        (L56_0 n m s0 s1 r31.1.1 (IntKind.wrap .i64 (s3 - 1)) (decide (((IntKind.wrap .i64 (s2 - r31.1.1)) : Int) ≥ x32)) r31.1.2.1 r34.2)))))))
                  (cond (decide ((s1 : Int) > 0))
                    ((ixV 1 s0 (IntKind.wrap .i64 (s1 - 1))).bind fun p35 =>
                      ((ldV (.flat (.int .i64)) r5.2 p35).bind fun x36 =>
                        ((ixV 1 s0 (IntKind.wrap .i64 ((IntKind.wrap .i64 (s2 - 1)) - (IntKind.wrap .i64 (r4.1.1 - s1))))).bind fun p37 =>
                        ((ldV (.flat (.int .i64)) r5.2 p37).bind fun x38 =>
                        ((callD (vF P tab n) P false (.one (.flat .bool)) 72 [.int .i64 x36, .int .i64 x38] r5.2).bind fun r39 =>
                        (cond (!r39.1)
                        ((callD (vF P tab n) P false (.one (.flat (.int .i64))) 73 [.sl 3 s0, .int .i64 s1, .int .i64 s2, .int .i64 (IntKind.wrap .i64 ((IntKind.wrap .i64 (s2 - 1)) - (IntKind.wrap .i64 (r4.1.1 - s1))))] r39.2).bind fun r40 =>
                        (L56_0 n m s0 r40.1 s2 (IntKind.wrap .i64 (s3 - 1)) s8 s9 r40.2))
                        ((callD (vF P tab n) P false (.tup [(.flat (.int .i64)), (.flat .bool)]) 74 [.sl 3 s0, .int .i64 s1, .int .i64 s2, .int .i64 (IntKind.wrap .i64 ((IntKind.wrap .i64 (s2 - 1)) - (IntKind.wrap .i64 (r4.1.1 - s1))))] r39.2).bind fun r41 =>
                        ((quoI .i64 (IntKind.wrap .i64 (s2 - s1)) 8).bind fun x42 =>
                        (cond (decide (((IntKind.wrap .i64 (r41.1.1 - s1)) : Int) < (IntKind.wrap .i64 (s2 - r41.1.1))))
                        ((callD (vF P tab n) P false (.tup []) 56 [.sl 3 s0, .int .i64 s1, .int .i64 r41.1.1, .int .i64 (IntKind.wrap .i64 (s3 - 1))] r41.2).bind fun r43 =>
                        (L56_0 n m s0 (IntKind.wrap .i64 (r41.1.1 + 1)) s2 (IntKind.wrap .i64 (s3 - 1)) (decide (((IntKind.wrap .i64 (r41.1.1 - s1)) : Int) ≥ x42)) r41.1.2.1 r43.2))
                        ((callD (vF P tab n) P false (.tup []) 56 [.sl 3 s0, .int .i64 (IntKind.wrap .i64 (r41.1.1 + 1)), .int .i64 s2, .int .i64 (IntKind.wrap .i64 (s3 - 1))] r41.2).bind fun r44 =>
                        (L56_0 n m s0 s1 r41.1.1 (IntKind.wrap .i64 (s3 - 1)) (decide (((IntKind.wrap .i64 (s2 - r41.1.1)) : Int) ≥ x42)) r41.1.2.1 r44.2)))))))))))
                    ((callD (vF P tab n) P false (.tup [(.flat (.int .i64)), (.flat .bool)]) 74 [.sl 3 s0, .int .i64 s1, .int .i64 s2, .int .i64 (IntKind.wrap .i64 ((IntKind.wrap .i64 (s2 - 1)) - (IntKind.wrap .i64 (r4.1.1 - s1))))] r5.2).bind fun r45 =>
                      ((quoI .i64 (IntKind.wrap .i64 (s2 - s1)) 8).bind fun x46 =>
                        (cond (decide (((IntKind.wrap .i64 (r45.1.1 - s1)) : Int) < (IntKind.wrap .i64 (s2 - r45.1.1))))
                        ((callD (vF P tab n) P false (.tup []) 56 [.sl 3 s0, .int .i64 s1, .int .i64 r45.1.1, .int .i64 (IntKind.wrap .i64 (s3 - 1))] r45.2).bind fun r47 =>
                        (L56_0 n m s0 (IntKind.wrap .i64 (r45.1.1 + 1)) s2 (IntKind.wrap .i64 (s3 - 1)) (decide (((IntKind.wrap .i64 (r45.1.1 - s1)) : Int) ≥ x46)) r45.1.2.1 r47.2))
                        ((callD (vF P tab n) P false (.tup []) 56 [.sl 3 s0, .int .i64 (IntKind.wrap .i64 (r45.1.1 + 1)), .int .i64 s2, .int .i64 (IntKind.wrap .i64 (s3 - 1))] r45.2).bind fun r48 =>
                        (L56_0 n m s0 s1 r45.1.1 (IntKind.wrap .i64 (s3 - 1)) (decide (((IntKind.wrap .i64 (s2 - r45.1.1)) : Int) ≥ x46)) r45.1.2.1 r48.2))))))))
              (cond s8
                (cond s9
                  (cond ((r4.1.2.1 : Int) == 1)
                    ((callD (vF P tab n) P false (.one (.flat .bool)) 71 [.sl 3 s0, .int .i64 s1, .int .i64 s2] r4.2).bind fun r49 =>
                      (cond r49.1
                        (some (.tup [], r49.2))
                        (cond (decide ((s1 : Int) > 0))
                        ((ixV 1 s0 (IntKind.wrap .i64 (s1 - 1))).bind fun p50 =>
                        ((ldV (.flat (.int .i64)) r49.2 p50).bind fun x51 =>
                        ((ixV 1 s0 r4.1.1).bind fun p52 =>
                        ((ldV (.flat (.int .i64)) r49.2 p52).bind fun x53 =>
                        ((callD (vF P tab n) P false (.one (.flat .bool)) 72 [.int .i64 x51, .int .i64 x53] r49.2).bind fun r54 =>
                        (cond (!r54.1)
                        ((callD (vF P tab n) P false (.one (.flat (.int .i64))) 73 [.sl 3 s0, .int .i64 s1, .int .i64 s2, .int .i64 r4.1.1] r54.2).bind fun r55 =>
                        (L56_0 n m s0 r55.1 s2 (IntKind.wrap .i64 (s3 - 1)) s8 s9 r55.2))
                        ((callD (vF P tab n) P false (.tup [(.flat (.int .i64)), (.flat .bool)]) 74 [.sl 3 s0, .int .i64 s1, .int .i64 s2, .int .i64 r4.1.1] r54.2).bind fun r56 =>
                        ((quoI .i64 (IntKind.wrap .i64 (s2 - s1)) 8).bind fun x57 =>
                        (cond (decide (((IntKind.wrap .i64 (r56.1.1 - s1)) : Int) < (IntKind.wrap .i64 (s2 - r56.1.1))))
                        ((callD (vF P tab n) P false (.tup []) 56 [.sl 3 s0, .int .i64 s1, .int .i64 r56.1.1, .int .i64 (IntKind.wrap .i64 (s3 - 1))] r56.2).bind fun r58 =>
                        (L56_0 n m s0 (IntKind.wrap .i64 (r56.1.1 + 1)) s2 (IntKind.wrap .i64 (s3 - 1)) (decide (((IntKind.wrap .i64 (r56.1.1 - s1)) : Int) ≥ x57)) r56.1.2.1 r58.2))
                        ((callD (vF P tab n) P false (.tup []) 56 [.sl 3 s0, .int .i64 (IntKind.wrap .i64 (r56.1.1 + 1)), .int .i64 s2, .int .i64 (IntKind.wrap .i64 (s3 - 1))] r56.2).bind fun r59 =>
                        (L56_0 n m s0 s1 r56.1.1 (IntKind.wrap .i64 (s3 - 1)) (decide (((IntKind.wrap .i64 (s2 - r56.1.1)) : Int) ≥ x57)) r56.1.2.1 r59.2)))))))))))
                        ((callD (vF P tab n) P false (.tup [(.flat (.int .i64)), (.flat .bool)]) 74 [.sl 3 s0, .int .i64 s1, .int .i64 s2, .int .i64 r4.1.1] r49.2).bind fun r60 =>
                        ((quoI .i64 (IntKind.wrap .i64 (s2 - s1)) 8).bind fun x61 =>
                        (cond (decide (((IntKind.wrap .i64 (r60.1.1 - s1)) : Int) < (IntKind.wrap .i64 (s2 - r60.1.1))))
                        ((callD (vF P tab n) P false (.tup []) 56 [.sl 3 s0, .int .i64 s1, .int .i64 r60.1.1, .int .i64 (IntKind.wrap .i64 (s3 - 1))] r60.2).bind fun r62 =>
                        (L56_0 n m s0 (IntKind.wrap .i64 (r60.1.1 + 1)) s2 (IntKind.wrap .i64 (s3 - 1)) (decide (((IntKind.wrap .i64 (r60.1.1 - s1)) : Int) ≥ x61)) r60.1.2.1 r62.2))
                        ((callD (vF P tab n) P false (.tup []) 56 [.sl 3 s0, .int .i64 (IntKind.wrap .i64 (r60.1.1 + 1)), .int .i64 s2, .int .i64 (IntKind.wrap .i64 (s3 - 1))] r60.2).bind fun r63 =>
                        (L56_0 n m s0 s1 r60.1.1 (IntKind.wrap .i64 (s3 - 1)) (decide (((IntKind.wrap .i64 (s2 - r60.1.1)) : Int) ≥ x61)) r60.1.2.1 r63.2))))))))
                    (cond (decide ((s1 : Int) > 0))
                      ((ixV 1 s0 (IntKind.wrap .i64 (s1 - 1))).bind fun p64 =>
                        ((ldV (.flat (.int .i64)) r4.2 p64).bind fun x65 =>
                        ((ixV 1 s0 r4.1.1).bind fun p66 =>
                        ((ldV (.flat (.int .i64)) r4.2 p66).bind fun x67 =>
                        ((callD (vF P tab n) P false (.one (.flat .bool)) 72 [.int .i64 x65, .int .i64 x67] r4.2).bind fun r68 =>
                        (cond (!r68.1)
                        ((callD (vF P tab n) P false (.one (.flat (.int .i64))) 73 [.sl 3 s0, .int .i64 s1, .int .i64 s2, .int .i64 r4.1.1] r68.2).bind fun r69 =>
                        (L56_0 n m s0 r69.1 s2 (IntKind.wrap .i64 (s3 - 1)) s8 s9 r69.2))
                        ((callD (vF P tab n) P false (.tup [(.flat (.int .i64)), (.flat .bool)]) 74 [.sl 3 s0, .int .i64 s1, .int .i64 s2, .int .i64 r4.1.1] r68.2).bind fun r70 =>
                        ((quoI .i64 (IntKind.wrap .i64 (s2 - s1)) 8).bind fun x71 =>
                        (cond (decide (((IntKind.wrap .i64 (r70.1.1 - s1)) : Int) < (IntKind.wrap .i64 (s2 - r70.1.1))))
                        ((callD (vF P tab n) P false (.tup []) 56 [.sl 3 s0, .int .i64 s1, .int .i64 r70.1.1, .int .i64 (IntKind.wrap .i64 (s3 - 1))] r70.2).bind fun r72 =>
                        (L56_0 n m s0 (IntKind.wrap .i64 (r70.1.1 + 1)) s2 (IntKind.wrap .i64 (s3 - 1)) (decide (((IntKind.wrap .i64 (r70.1.1 - s1)) : Int) ≥ x71)) r70.1.2.1 r72.2))
                        ((callD (vF P tab n) P false (.tup []) 56 [.sl 3 s0, .int .i64 (IntKind.wrap .i64 (r70.1.1 + 1)), .int .i64 s2, .int .i64 (IntKind.wrap .i64 (s3 - 1))] r70.2).bind fun r73 =>
                        (L56_0 n m s0 s1 r70.1.1 (IntKind.wrap .i64 (s3 - 1)) (decide (((IntKind.wrap .i64 (s2 - r70.1.1)) : Int) ≥ x71)) r70.1.2.1 r73.2)))))))))))
                      ((callD (vF P tab n) P false (.tup [(.flat (.int .i64)), (.flat .bool)]) 74 [.sl 3 s0, .int .i64 s1, .int .i64 s2, .int .i64 r4.1.1] r4.2).bind fun r74 =>
                        ((quoI .i64 (IntKind.wrap .i64 (s2 - s1)) 8).bind fun x75 =>
                        (cond (decide (((IntKind.wrap .i64 (r74.1.1 - s1)) : Int) < (IntKind.wrap .i64 (s2 - r74.1.1))))
                        ((callD (vF P tab n) P false (.tup []) 56 [.sl 3 s0, .int .i64 s1, .int .i64 r74.1.1, .int .i64 (IntKind.wrap .i64 (s3 - 1))] r74.2).bind fun r76 =>
                        (L56_0 n m s0 (IntKind.wrap .i64 (r74.1.1 + 1)) s2 (IntKind.wrap .i64 (s3 - 1)) (decide (((IntKind.wrap .i64 (r74.1.1 - s1)) : Int) ≥ x75)) r74.1.2.1 r76.2))
                        ((callD (vF P tab n) P false (.tup []) 56 [.sl 3 s0, .int .i64 (IntKind.wrap .i64 (r74.1.1 + 1)), .int .i64 s2, .int .i64 (IntKind.wrap .i64 (s3 - 1))] r74.2).bind fun r77 =>
                        (L56_0 n m s0 s1 r74.1.1 (IntKind.wrap .i64 (s3 - 1)) (decide (((IntKind.wrap .i64 (s2 - r74.1.1)) : Int) ≥ x75)) r74.1.2.1 r77.2)))))))
                  (cond (decide ((s1 : Int) > 0))
                    ((ixV 1 s0 (IntKind.wrap .i64 (s1 - 1))).bind fun p78 =>
                      ((ldV (.flat (.int .i64)) r4.2 p78).bind fun x79 =>
                        ((ixV 1 s0 r4.1.1).bind fun p80 =>
                        ((ldV (.flat (.int .i64)) r4.2 p80).bind fun x81 =>
                        ((callD (vF P tab n) P false (.one (.flat .bool)) 72 [.int .i64 x79, .int .i64 x81] r4.2).bind fun r82 =>
                        (cond (!r82.1)
                        ((callD (vF P tab n) P false (.one (.flat (.int .i64))) 73 [.sl 3 s0, .int .i64 s1, .int .i64 s2, .int .i64 r4.1.1] r82.2).bind fun r83 =>
                        (L56_0 n m s0 r83.1 s2 (IntKind.wrap .i64 (s3 - 1)) s8 s9 r83.2))
                        ((callD (vF P tab n) P false (.tup [(.flat (.int .i64)), (.flat .bool)]) 74 [.sl 3 s0, .int .i64 s1, .int .i64 s2, .int .i64 r4.1.1] r82.2).bind fun r84 =>
                        ((quoI .i64 (IntKind.wrap .i64 (s2 - s1)) 8).bind fun x85 =>
                        (cond (decide (((IntKind.wrap .i64 (r84.1.1 - s1)) : Int) < (IntKind.wrap .i64 (s2 - r84.1.1))))
                        ((callD (vF P tab n) P false (.tup []) 56 [.sl 3 s0, .int .i64 s1, .int .i64 r84.1.1, .int .i64 (IntKind.wrap .i64 (s3 - 1))] r84.2).bind fun r86 =>
                        (L56_0 n m s0 (IntKind.wrap .i64 (r84.1.1 + 1)) s2 (IntKind.wrap .i64 (s3 - 1)) (decide (((IntKind.wrap .i64 (r84.1.1 - s1)) : Int) ≥ x85)) r84.1.2.1 r86.2))
                        ((callD (vF P tab n) P false (.tup []) 56 [.sl 3 s0, .int .i64 (IntKind.wrap .i64 (r84.1.1 + 1)), .int .i64 s2, .int .i64 (IntKind.wrap .i64 (s3 - 1))] r84.2).bind fun r87 =>
                        (L56_0 n m s0 s1 r84.1.1 (IntKind.wrap .i64 (s3 - 1)) (decide (((IntKind.wrap .i64 (s2 - r84.1.1)) : Int) ≥ x85)) r84.1.2.1 r87.2)))))))))))
                    ((callD (vF P tab n) P false (.tup [(.flat (.int .i64)), (.flat .bool)]) 74 [.sl 3 s0, .int .i64 s1, .int .i64 s2, .int .i64 r4.1.1] r4.2).bind fun r88 =>
                      ((quoI .i64 (IntKind.wrap .i64 (s2 - s1)) 8).bind fun x89 =>
                        (cond (decide (((IntKind.wrap .i64 (r88.1.1 - s1)) : Int) < (IntKind.wrap .i64 (s2 - r88.1.1))))
                        ((callD (vF P tab n) P false (.tup []) 56 [.sl 3 s0, .int .i64 s1, .int .i64 r88.1.1, .int .i64 (IntKind.wrap .i64 (s3 - 1))] r88.2).bind fun r90 =>
                        (L56_0 n m s0 (IntKind.wrap .i64 (r88.1.1 + 1)) s2 (IntKind.wrap .i64 (s3 - 1)) (decide (((IntKind.wrap .i64 (r88.1.1 - s1)) : Int) ≥ x89)) r88.1.2.1 r90.2))
                        ((callD (vF P tab n) P false (.tup []) 56 [.sl 3 s0, .int .i64 (IntKind.wrap .i64 (r88.1.1 + 1)), .int .i64 s2, .int .i64 (IntKind.wrap .i64 (s3 - 1))] r88.2).bind fun r91 =>
                        (L56_0 n m s0 s1 r88.1.1 (IntKind.wrap .i64 (s3 - 1)) (decide (((IntKind.wrap .i64 (s2 - r88.1.1)) : Int) ≥ x89)) r88.1.2.1 r91.2)))))))
                (cond (decide ((s1 : Int) > 0))
                  ((ixV 1 s0 (IntKind.wrap .i64 (s1 - 1))).bind fun p92 =>
                    ((ldV (.flat (.int .i64)) r4.2 p92).bind fun x93 =>
                      ((ixV 1 s0 r4.1.1).bind fun p94 =>
                        ((ldV (.flat (.int .i64)) r4.2 p94).bind fun x95 =>
                        ((callD (vF P tab n) P false (.one (.flat .bool)) 72 [.int .i64 x93, .int .i64 x95] r4.2).bind fun r96 =>
                        (cond (!r96.1)
                        ((callD (vF P tab n) P false (.one (.flat (.int .i64))) 73 [.sl 3 s0, .int .i64 s1, .int .i64 s2, .int .i64 r4.1.1] r96.2).bind fun r97 =>
                        (L56_0 n m s0 r97.1 s2 (IntKind.wrap .i64 (s3 - 1)) s8 s9 r97.2))
                        ((callD (vF P tab n) P false (.tup [(.flat (.int .i64)), (.flat .bool)]) 74 [.sl 3 s0, .int .i64 s1, .int .i64 s2, .int .i64 r4.1.1] r96.2).bind fun r98 =>
                        ((quoI .i64 (IntKind.wrap .i64 (s2 - s1)) 8).bind fun x99 =>
                        (cond (decide (((IntKind.wrap .i64 (r98.1.1 - s1)) : Int) < (IntKind.wrap .i64 (s2 - r98.1.1))))
                        ((callD (vF P tab n) P false (.tup []) 56 [.sl 3 s0, .int .i64 s1, .int .i64 r98.1.1, .int .i64 (IntKind.wrap .i64 (s3 - 1))] r98.2).bind fun r100 =>
                        (L56_0 n m s0 (IntKind.wrap .i64 (r98.1.1 + 1)) s2 (IntKind.wrap .i64 (s3 - 1)) (decide (((IntKind.wrap .i64 (r98.1.1 - s1)) : Int) ≥ x99)) r98.1.2.1 r100.2))
                        ((callD (vF P tab n) P false (.tup []) 56 [.sl 3 s0, .int .i64 (IntKind.wrap .i64 (r98.1.1 + 1)), .int .i64 s2, .int .i64 (IntKind.wrap .i64 (s3 - 1))] r98.2).bind fun r101 =>
                        (L56_0 n m s0 s1 r98.1.1 (IntKind.wrap .i64 (s3 - 1)) (decide (((IntKind.wrap .i64 (s2 - r98.1.1)) : Int) ≥ x99)) r98.1.2.1 r101.2)))))))))))
                  ((callD (vF P tab n) P false (.tup [(.flat (.int .i64)), (.flat .bool)]) 74 [.sl 3 s0, .int .i64 s1, .int .i64 s2, .int .i64 r4.1.1] r4.2).bind fun r102 =>
                    ((quoI .i64 (IntKind.wrap .i64 (s2 - s1)) 8).bind fun x103 =>
                      (cond (decide (((IntKind.wrap .i64 (r102.1.1 - s1)) : Int) < (IntKind.wrap .i64 (s2 - r102.1.1))))
                        ((callD (vF P tab n) P false (.tup []) 56 [.sl 3 s0, .int .i64 s1, .int .i64 r102.1.1, .int .i64 (IntKind.wrap .i64 (s3 - 1))] r102.2).bind fun r104 =>
                        (L56_0 n m s0 (IntKind.wrap .i64 (r102.1.1 + 1)) s2 (IntKind.wrap .i64 (s3 - 1)) (decide (((IntKind.wrap .i64 (r102.1.1 - s1)) : Int) ≥ x103)) r102.1.2.1 r104.2))
                        ((callD (vF P tab n) P false (.tup []) 56 [.sl 3 s0, .int .i64 (IntKind.wrap .i64 (r102.1.1 + 1)), .int .i64 s2, .int .i64 (IntKind.wrap .i64 (s3 - 1))] r102.2).bind fun r105 =>
                        (L56_0 n m s0 s1 r102.1.1 (IntKind.wrap .i64 (s3 - 1)) (decide (((IntKind.wrap .i64 (s2 - r102.1.1)) : Int) ≥ x103)) r102.1.2.1 r105.2))))))))))
        ((callD (vF P tab n) P false (.tup [(.flat (.int .i64)), (.flat (.int .i64))]) 69 [.sl 3 s0, .int .i64 s1, .int .i64 s2] h).bind fun r106 =>
          (cond ((r106.1.2.1 : Int) == 2)
            ((callD (vF P tab n) P false (.tup []) 70 [.sl 3 s0, .int .i64 s1, .int .i64 s2] r106.2).bind fun r107 =>
              (cond s8
                (cond s9
                  ((callD (vF P tab n) P false (.one (.flat .bool)) 71 [.sl 3 s0, .int .i64 s1, .int .i64 s2] r107.2).bind fun r108 =>
                    (cond r108.1
                      (some (.tup [], r108.2))
                      (cond (decide ((s1 : Int) > 0))
                        ((ixV 1 s0 (IntKind.wrap .i64 (s1 - 1))).bind fun p109 =>
                        ((ldV (.flat (.int .i64)) r108.2 p109).bind fun x110 =>
                        ((ixV 1 s0 (IntKind.wrap .i64 ((IntKind.wrap .i64 (s2 - 1)) - (IntKind.wrap .i64 (r106.1.1 - s1))))).bind fun p111 =>
                        ((ldV (.flat (.int .i64)) r108.2 p111).bind fun x112 =>
                        ((callD (vF P tab n) P false (.one (.flat .bool)) 72 [.int .i64 x110, .int .i64 x112] r108.2).bind fun r113 =>
                        (cond (!r113.1)
                        ((callD (vF P tab n) P false (.one (.flat (.int .i64))) 73 [.sl 3 s0, .int .i64 s1, .int .i64 s2, .int .i64 (IntKind.wrap .i64 ((IntKind.wrap .i64 (s2 - 1)) - (IntKind.wrap .i64 (r106.1.1 - s1))))] r113.2).bind fun r114 =>
                        (L56_0 n m s0 r114.1 s2 s3 s8 s9 r114.2))
                        ((callD (vF P tab n) P false (.tup [(.flat (.int .i64)), (.flat .bool)]) 74 [.sl 3 s0, .int .i64 s1, .int .i64 s2, .int .i64 (IntKind.wrap .i64 ((IntKind.wrap .i64 (s2 - 1)) - (IntKind.wrap .i64 (r106.1.1 - s1))))] r113.2).bind fun r115 =>
                        ((quoI .i64 (IntKind.wrap .i64 (s2 - s1)) 8).bind fun x116 =>
                        (cond (decide (((IntKind.wrap .i64 (r115.1.1 - s1)) : Int) < (IntKind.wrap .i64 (s2 - r115.1.1))))
                        ((callD (vF P tab n) P false (.tup []) 56 [.sl 3 s0, .int .i64 s1, .int .i64 r115.1.1, .int .i64 s3] r115.2).bind fun r117 =>
                        (L56_0 n m s0 (IntKind.wrap .i64 (r115.1.1 + 1)) s2 s3 (decide (((IntKind.wrap .i64 (r115.1.1 - s1)) : Int) ≥ x116)) r115.1.2.1 r117.2))
                        ((callD (vF P tab n) P false (.tup []) 56 [.sl 3 s0, .int .i64 (IntKind.wrap .i64 (r115.1.1 + 1)), .int .i64 s2, .int .i64 s3] r115.2).bind fun r118 =>
                        (L56_0 n m s0 s1 r115.1.1 s3 (decide (((IntKind.wrap .i64 (s2 - r115.1.1)) : Int) ≥ x116)) r115.1.2.1 r118.2)))))))))))
                        ((callD (vF P tab n) P false (.tup [(.flat (.int .i64)), (.flat .bool)]) 74 [.sl 3 s0, .int .i64 s1, .int .i64 s2, .int .i64 (IntKind.wrap .i64 ((IntKind.wrap .i64 (s2 - 1)) - (IntKind.wrap .i64 (r106.1.1 - s1))))] r108.2).bind fun r119 =>
                        ((quoI .i64 (IntKind.wrap .i64 (s2 - s1)) 8).bind fun x120 =>
                        (cond (decide (((IntKind.wrap .i64 (r119.1.1 - s1)) : Int) < (IntKind.wrap .i64 (s2 - r119.1.1))))
                        ((callD (vF P tab n) P false (.tup []) 56 [.sl 3 s0, .int .i64 s1, .int .i64 r119.1.1, .int .i64 s3] r119.2).bind fun r121 =>
                        (L56_0 n m s0 (IntKind.wrap .i64 (r119.1.1 + 1)) s2 s3 (decide (((IntKind.wrap .i64 (r119.1.1 - s1)) : Int) ≥ x120)) r119.1.2.1 r121.2))
                        ((callD (vF P tab n) P false (.tup []) 56 [.sl 3 s0, .int .i64 (IntKind.wrap .i64 (r119.1.1 + 1)), .int .i64 s2, .int .i64 s3] r119.2).bind fun r122 =>
                        (L56_0 n m s0 s1 r119.1.1 s3 (decide (((IntKind.wrap .i64 (s2 - r119.1.1)) : Int) ≥ x120)) r119.1.2.1 r122.2))))))))
                  (cond (decide ((s1 : Int) > 0))
                    ((ixV 1 s0 (IntKind.wrap .i64 (s1 - 1))).bind fun p123 =>
                      ((ldV (.flat (.int .i64)) r107.2 p123).bind fun x124 =>
                        ((ixV 1 s0 (IntKind.wrap .i64 ((IntKind.wrap .i64 (s2 - 1)) - (IntKind.wrap .i64 (r106.1.1 - s1))))).bind fun p125 =>
                        ((ldV (.flat (.int .i64)) r107.2 p125).bind fun x126 =>
                        ((callD (vF P tab n) P false (.one (.flat .bool)) 72 [.int .i64 x124, .int .i64 x126] r107.2).bind fun r127 =>
                        (cond (!r127.1)
                        ((callD (vF P tab n) P false (.one (.flat (.int .i64))) 73 [.sl 3 s0, .int .i64 s1, .int .i64 s2, .int .i64 (IntKind.wrap .i64 ((IntKind.wrap .i64 (s2 - 1)) - (IntKind.wrap .i64 (r106.1.1 - s1))))] r127.2).bind fun r128 =>
                        (L56_0 n m s0 r128.1 s2 s3 s8 s9 r128.2))
                        ((callD (vF P tab n) P false (.tup [(.flat (.int .i64)), (.flat .bool)]) 74 [.sl 3 s0, .int .i64 s1, .int .i64 s2, .int .i64 (IntKind.wrap .i64 ((IntKind.wrap .i64 (s2 - 1)) - (IntKind.wrap .i64 (r106.1.1 - s1))))] r127.2).bind fun r129 =>
                        ((quoI .i64 (IntKind.wrap .i64 (s2 - s1)) 8).bind fun x130 =>
                        (cond (decide (((IntKind.wrap .i64 (r129.1.1 - s1)) : Int) < (IntKind.wrap .i64 (s2 - r129.1.1))))
                        ((callD (vF P tab n) P false (.tup []) 56 [.sl 3 s0, .int .i64 s1, .int .i64 r129.1.1, .int .i64 s3] r129.2).bind fun r131 =>
                        (L56_0 n m s0 (IntKind.wrap .i64 (r129.1.1 + 1)) s2 s3 (decide (((IntKind.wrap .i64 (r129.1.1 - s1)) : Int) ≥ x130)) r129.1.2.1 r131.2))
                        ((callD (vF P tab n) P false (.tup []) 56 [.sl 3 s0, .int .i64 (IntKind.wrap .i64 (r129.1.1 + 1)), .int .i64 s2, .int .i64 s3] r129.2).bind fun r132 =>
                        (L56_0 n m s0 s1 r129.1.1 s3 (decide (((IntKind.wrap .i64 (s2 - r129.1.1)) : Int) ≥ x130)) r129.1.2.1 r132.2)))))))))))
                    ((callD (vF P tab n) P false (.tup [(.flat (.int .i64)), (.flat .bool)]) 74 [.sl 3 s0, .int .i64 s1, .int .i64 s2, .int .i64 (IntKind.wrap .i64 ((IntKind.wrap .i64 (s2 - 1)) - (IntKind.wrap .i64 (r106.1.1 - s1))))] r107.2).bind fun r133 =>
                      ((quoI .i64 (IntKind.wrap .i64 (s2 - s1)) 8).bind fun x134 =>
                        (cond (decide (((IntKind.wrap .i64 (r133.1.1 - s1)) : Int) < (IntKind.wrap .i64 (s2 - r133.1.1))))
                        ((callD (vF P tab n) P false (.tup []) 56 [.sl 3 s0, .int .i64 s1, .int .i64 r133.1.1, .int .i64 s3] r133.2).bind fun r135 =>
                        (L56_0 n m s0 (IntKind.wrap .i64 (r133.1.1 + 1)) s2 s3 (decide (((IntKind.wrap .i64 (r133.1.1 - s1)) : Int) ≥ x134)) r133.1.2.1 r135.2))
                        ((callD (vF P tab n) P false (.tup []) 56 [.sl 3 s0, .int .i64 (IntKind.wrap .i64 (r133.1.1 + 1)), .int .i64 s2, .int .i64 s3] r133.2).bind fun r136 =>
                        (L56_0 n m s0 s1 r133.1.1 s3 (decide (((IntKind.wrap .i64 (s2 - r133.1.1)) : Int) ≥ x134)) r133.1.2.1 r136.2)))))))
                (cond (decide ((s1 : Int) > 0))
                  ((ixV 1 s0 (IntKind.wrap .i64 (s1 - 1))).bind fun p137 =>
                    ((ldV (.flat (.int .i64)) r107.2 p137).bind fun x138 =>
                      ((ixV 1 s0 (IntKind.wrap .i64 ((IntKind.wrap .i64 (s2 - 1)) - (IntKind.wrap .i64 (r106.1.1 - s1))))).bind fun p139 =>
                        ((ldV (.flat (.int .i64)) r107.2 p139).bind fun x140 =>
                        ((callD (vF P tab n) P false (.one (.flat .bool)) 72 [.int .i64 x138, .int .i64 x140] r107.2).bind fun r141 =>
                        (cond (!r141.1)
                        ((callD (vF P tab n) P false (.one (.flat (.int .i64))) 73 [.sl 3 s0, .int .i64 s1, .int .i64 s2, .int .i64 (IntKind.wrap .i64 ((IntKind.wrap .i64 (s2 - 1)) - (IntKind.wrap .i64 (r106.1.1 - s1))))] r141.2).bind fun r142 =>
                        (L56_0 n m s0 r142.1 s2 s3 s8 s9 r142.2))
                        ((callD (vF P tab n) P false (.tup [(.flat (.int .i64)), (.flat .bool)]) 74 [.sl 3 s0, .int .i64 s1, .int .i64 s2, .int .i64 (IntKind.wrap .i64 ((IntKind.wrap .i64 (s2 - 1)) - (IntKind.wrap .i64 (r106.1.1 - s1))))] r141.2).bind fun r143 =>
                        ((quoI .i64 (IntKind.wrap .i64 (s2 - s1)) 8).bind fun x144 =>
                        (cond (decide (((IntKind.wrap .i64 (r143.1.1 - s1)) : Int) < (IntKind.wrap .i64 (s2 - r143.1.1))))
                        ((callD (vF P tab n) P false (.tup []) 56 [.sl 3 s0, .int .i64 s1, .int .i64 r143.1.1, .int .i64 s3] r143.2).bind fun r145 =>
                        (L56_0 n m s0 (IntKind.wrap .i64 (r143.1.1 + 1)) s2 s3 (decide (((IntKind.wrap .i64 (r143.1.1 - s1)) : Int) ≥ x144)) r143.1.2.1 r145.2))
                        ((callD (vF P tab n) P false (.tup []) 56 [.sl 3 s0, .int .i64 (IntKind.wrap .i64 (r143.1.1 + 1)), .int .i64 s2, .int .i64 s3] r143.2).bind fun r146 =>
                        (L56_0 n m s0 s1 r143.1.1 s3 (decide (((IntKind.wrap .i64 (s2 - r143.1.1)) : Int) ≥ x144)) r143.1.2.1 r146.2)))))))))))
                  ((callD (vF P tab n) P false (.tup [(.flat (.int .i64)), (.flat .bool)]) 74 [.sl 3 s0, .int .i64 s1, .int .i64 s2, .int .i64 (IntKind.wrap .i64 ((IntKind.wrap .i64 (s2 - 1)) - (IntKind.wrap .i64 (r106.1.1 - s1))))] r107.2).bind fun r147 =>
                    ((quoI .i64 (IntKind.wrap .i64 (s2 - s1)) 8).bind fun x148 =>
                      (cond (decide (((IntKind.wrap .i64 (r147.1.1 - s1)) : Int) < (IntKind.wrap .i64 (s2 - r147.1.1))))
                        ((callD (vF P tab n) P false (.tup []) 56 [.sl 3 s0, .int .i64 s1, .int .i64 r147.1.1, .int .i64 s3] r147.2).bind fun r149 =>
                        (L56_0 n m s0 (IntKind.wrap .i64 (r147.1.1 + 1)) s2 s3 (decide (((IntKind.wrap .i64 (r147.1.1 - s1)) : Int) ≥ x148)) r147.1.2.1 r149.2))
                        ((callD (vF P tab n) P false (.tup []) 56 [.sl 3 s0, .int .i64 (IntKind.wrap .i64 (r147.1.1 + 1)), .int .i64 s2, .int .i64 s3] r147.2).bind fun r150 =>
                        (L56_0 n m s0 s1 r147.1.1 s3 (decide (((IntKind.wrap .i64 (s2 - r147.1.1)) : Int) ≥ x148)) r147.1.2.1 r150.2))))))))
            (cond s8
              (cond s9
                (cond ((r106.1.2.1 : Int) == 1)
                  ((callD (vF P tab n) P false (.one (.flat .bool)) 71 [.sl 3 s0, .int .i64 s1, .int .i64 s2] r106.2).bind fun r151 =>
                    (cond r151.1
                      (some (.tup [], r151.2))
                      (cond (decide ((s1 : Int) > 0))
                        ((ixV 1 s0 (IntKind.wrap .i64 (s1 - 1))).bind fun p152 =>
                        ((ldV (.flat (.int .i64)) r151.2 p152).bind fun x153 =>
                        ((ixV 1 s0 r106.1.1).bind fun p154 =>
                        ((ldV (.flat (.int .i64)) r151.2 p154).bind fun x155 =>
                        ((callD (vF P tab n) P false (.one (.flat .bool)) 72 [.int .i64 x153, .int .i64 x155] r151.2).bind fun r156 =>
                        (cond (!r156.1)
                        ((callD (vF P tab n) P false (.one (.flat (.int .i64))) 73 [.sl 3 s0, .int .i64 s1, .int .i64 s2, .int .i64 r106.1.1] r156.2).bind fun r157 =>
                        (L56_0 n m s0 r157.1 s2 s3 s8 s9 r157.2))
                        ((callD (vF P tab n) P false (.tup [(.flat (.int .i64)), (.flat .bool)]) 74 [.sl 3 s0, .int .i64 s1, .int .i64 s2, .int .i64 r106.1.1] r156.2).bind fun r158 =>
                        ((quoI .i64 (IntKind.wrap .i64 (s2 - s1)) 8).bind fun x159 =>
                        (cond (decide (((IntKind.wrap .i64 (r158.1.1 - s1)) : Int) < (IntKind.wrap .i64 (s2 - r158.1.1))))
                        ((callD (vF P tab n) P false (.tup []) 56 [.sl 3 s0, .int .i64 s1, .int .i64 r158.1.1, .int .i64 s3] r158.2).bind fun r160 =>
                        (L56_0 n m s0 (IntKind.wrap .i64 (r158.1.1 + 1)) s2 s3 (decide (((IntKind.wrap .i64 (r158.1.1 - s1)) : Int) ≥ x159)) r158.1.2.1 r160.2))
                        ((callD (vF P tab n) P false (.tup []) 56 [.sl 3 s0, .int .i64 (IntKind.wrap .i64 (r158.1.1 + 1)), .int .i64 s2, .int .i64 s3] r158.2).bind fun r161 =>
                        (L56_0 n m s0 s1 r158.1.1 s3 (decide (((IntKind.wrap .i64 (s2 - r158.1.1)) : Int) ≥ x159)) r158.1.2.1 r161.2)))))))))))
                        ((callD (vF P tab n) P false (.tup [(.flat (.int .i64)), (.flat .bool)]) 74 [.sl 3 s0, .int .i64 s1, .int .i64 s2, .int .i64 r106.1.1] r151.2).bind fun r162 =>
                        ((quoI .i64 (IntKind.wrap .i64 (s2 - s1)) 8).bind fun x163 =>
                        (cond (decide (((IntKind.wrap .i64 (r162.1.1 - s1)) : Int) < (IntKind.wrap .i64 (s2 - r162.1.1))))
                        ((callD (vF P tab n) P false (.tup []) 56 [.sl 3 s0, .int .i64 s1, .int .i64 r162.1.1, .int .i64 s3] r162.2).bind fun r164 =>
                        (L56_0 n m s0 (IntKind.wrap .i64 (r162.1.1 + 1)) s2 s3 (decide (((IntKind.wrap .i64 (r162.1.1 - s1)) : Int) ≥ x163)) r162.1.2.1 r164.2))
                        ((callD (vF P tab n) P false (.tup []) 56 [.sl 3 s0, .int .i64 (IntKind.wrap .i64 (r162.1.1 + 1)), .int .i64 s2, .int .i64 s3] r162.2).bind fun r165 =>
                        (L56_0 n m s0 s1 r162.1.1 s3 (decide (((IntKind.wrap .i64 (s2 - r162.1.1)) : Int) ≥ x163)) r162.1.2.1 r165.2))))))))
                  (cond (decide ((s1 : Int) > 0))
                    ((ixV 1 s0 (IntKind.wrap .i64 (s1 - 1))).bind fun p166 =>
                      ((ldV (.flat (.int .i64)) r106.2 p166).bind fun x167 =>
                        ((ixV 1 s0 r106.1.1).bind fun p168 =>
                        ((ldV (.flat (.int .i64)) r106.2 p168).bind fun x169 =>
                        ((callD (vF P tab n) P false (.one (.flat .bool)) 72 [.int .i64 x167, .int .i64 x169] r106.2).bind fun r170 =>
                        (cond (!r170.1)
                        ((callD (vF P tab n) P false (.one (.flat (.int .i64))) 73 [.sl 3 s0, .int .i64 s1, .int .i64 s2, .int .i64 r106.1.1] r170.2).bind fun r171 =>
                        (L56_0 n m s0 r171.1 s2 s3 s8 s9 r171.2))
                        ((callD (vF P tab n) P false (.tup [(.flat (.int .i64)), (.flat .bool)]) 74 [.sl 3 s0, .int .i64 s1, .int .i64 s2, .int .i64 r106.1.1] r170.2).bind fun r172 =>
                        ((quoI .i64 (IntKind.wrap .i64 (s2 - s1)) 8).bind fun x173 =>
                        (cond (decide (((IntKind.wrap .i64 (r172.1.1 - s1)) : Int) < (IntKind.wrap .i64 (s2 - r172.1.1))))
                        ((callD (vF P tab n) P false (.tup []) 56 [.sl 3 s0, .int .i64 s1, .int .i64 r172.1.1, .int .i64 s3] r172.2).bind fun r174 =>
                        (L56_0 n m s0 (IntKind.wrap .i64 (r172.1.1 + 1)) s2 s3 (decide (((IntKind.wrap .i64 (r172.1.1 - s1)) : Int) ≥ x173)) r172.1.2.1 r174.2))
                        ((callD (vF P tab n) P false (.tup []) 56 [.sl 3 s0, .int .i64 (IntKind.wrap .i64 (r172.1.1 + 1)), .int .i64 s2, .int .i64 s3] r172.2).bind fun r175 =>
                        (L56_0 n m s0 s1 r172.1.1 s3 (decide (((IntKind.wrap .i64 (s2 - r172.1.1)) : Int) ≥ x173)) r172.1.2.1 r175.2)))))))))))
                    ((callD (vF P tab n) P false (.tup [(.flat (.int .i64)), (.flat .bool)]) 74 [.sl 3 s0, .int .i64 s1, .int .i64 s2, .int .i64 r106.1.1] r106.2).bind fun r176 =>
                      ((quoI .i64 (IntKind.wrap .i64 (s2 - s1)) 8).bind fun x177 =>
                        (cond (decide (((IntKind.wrap .i64 (r176.1.1 - s1)) : Int) < (IntKind.wrap .i64 (s2 - r176.1.1))))
                        ((callD (vF P tab n) P false (.tup []) 56 [.sl 3 s0, .int .i64 s1, .int .i64 r176.1.1, .int .i64 s3] r176.2).bind fun r178 =>
                        (L56_0 n m s0 (IntKind.wrap .i64 (r176.1.1 + 1)) s2 s3 (decide (((IntKind.wrap .i64 (r176.1.1 - s1)) : Int) ≥ x177)) r176.1.2.1 r178.2))
                        ((callD (vF P tab n) P false (.tup []) 56 [.sl 3 s0, .int .i64 (IntKind.wrap .i64 (r176.1.1 + 1)), .int .i64 s2, .int .i64 s3] r176.2).bind fun r179 =>
                        (L56_0 n m s0 s1 r176.1.1 s3 (decide (((IntKind.wrap .i64 (s2 - r176.1.1)) : Int) ≥ x177)) r176.1.2.1 r179.2)))))))
                (cond (decide ((s1 : Int) > 0))
                  ((ixV 1 s0 (IntKind.wrap .i64 (s1 - 1))).bind fun p180 =>
                    ((ldV (.flat (.int .i64)) r106.2 p180).bind fun x181 =>
                      ((ixV 1 s0 r106.1.1).bind fun p182 =>
                        ((ldV (.flat (.int .i64)) r106.2 p182).bind fun x183 =>
                        ((callD (vF P tab n) P false (.one (.flat .bool)) 72 [.int .i64 x181, .int .i64 x183] r106.2).bind fun r184 =>
                        (cond (!r184.1)
                        ((callD (vF P tab n) P false (.one (.flat (.int .i64))) 73 [.sl 3 s0, .int .i64 s1, .int .i64 s2, .int .i64 r106.1.1] r184.2).bind fun r185 =>
                        (L56_0 n m s0 r185.1 s2 s3 s8 s9 r185.2))
                        ((callD (vF P tab n) P false (.tup [(.flat (.int .i64)), (.flat .bool)]) 74 [.sl 3 s0, .int .i64 s1, .int .i64 s2, .int .i64 r106.1.1] r184.2).bind fun r186 =>
                        ((quoI .i64 (IntKind.wrap .i64 (s2 - s1)) 8).bind fun x187 =>
                        (cond (decide (((IntKind.wrap .i64 (r186.1.1 - s1)) : Int) < (IntKind.wrap .i64 (s2 - r186.1.1))))
                        ((callD (vF P tab n) P false (.tup []) 56 [.sl 3 s0, .int .i64 s1, .int .i64 r186.1.1, .int .i64 s3] r186.2).bind fun r188 =>
                        (L56_0 n m s0 (IntKind.wrap .i64 (r186.1.1 + 1)) s2 s3 (decide (((IntKind.wrap .i64 (r186.1.1 - s1)) : Int) ≥ x187)) r186.1.2.1 r188.2))
                        ((callD (vF P tab n) P false (.tup []) 56 [.sl 3 s0, .int .i64 (IntKind.wrap .i64 (r186.1.1 + 1)), .int .i64 s2, .int .i64 s3] r186.2).bind fun r189 =>
                        (L56_0 n m s0 s1 r186.1.1 s3 (decide (((IntKind.wrap .i64 (s2 - r186.1.1)) : Int) ≥ x187)) r186.1.2.1 r189.2)))))))))))
                  ((callD (vF P tab n) P false (.tup [(.flat (.int .i64)), (.flat .bool)]) 74 [.sl 3 s0, .int .i64 s1, .int .i64 s2, .int .i64 r106.1.1] r106.2).bind fun r190 =>
                    ((quoI .i64 (IntKind.wrap .i64 (s2 - s1)) 8).bind fun x191 =>
                      (cond (decide (((IntKind.wrap .i64 (r190.1.1 - s1)) : Int) < (IntKind.wrap .i64 (s2 - r190.1.1))))
                        ((callD (vF P tab n) P false (.tup []) 56 [.sl 3 s0, .int .i64 s1, .int .i64 r190.1.1, .int .i64 s3] r190.2).bind fun r192 =>
                        (L56_0 n m s0 (IntKind.wrap .i64 (r190.1.1 + 1)) s2 s3 (decide (((IntKind.wrap .i64 (r190.1.1 - s1)) : Int) ≥ x191)) r190.1.2.1 r192.2))
                        ((callD (vF P tab n) P false (.tup []) 56 [.sl 3 s0, .int .i64 (IntKind.wrap .i64 (r190.1.1 + 1)), .int .i64 s2, .int .i64 s3] r190.2).bind fun r193 =>
                        (L56_0 n m s0 s1 r190.1.1 s3 (decide (((IntKind.wrap .i64 (s2 - r190.1.1)) : Int) ≥ x191)) r190.1.2.1 r193.2)))))))
              (cond (decide ((s1 : Int) > 0))
                ((ixV 1 s0 (IntKind.wrap .i64 (s1 - 1))).bind fun p194 =>
                  ((ldV (.flat (.int .i64)) r106.2 p194).bind fun x195 =>
                    ((ixV 1 s0 r106.1.1).bind fun p196 =>
                      ((ldV (.flat (.int .i64)) r106.2 p196).bind fun x197 =>
                        ((callD (vF P tab n) P false (.one (.flat .bool)) 72 [.int .i64 x195, .int .i64 x197] r106.2).bind fun r198 =>
                        (cond (!r198.1)
                        ((callD (vF P tab n) P false (.one (.flat (.int .i64))) 73 [.sl 3 s0, .int .i64 s1, .int .i64 s2, .int .i64 r106.1.1] r198.2).bind fun r199 =>
                        (L56_0 n m s0 r199.1 s2 s3 s8 s9 r199.2))
                        ((callD (vF P tab n) P false (.tup [(.flat (.int .i64)), (.flat .bool)]) 74 [.sl 3 s0, .int .i64 s1, .int .i64 s2, .int .i64 r106.1.1] r198.2).bind fun r200 =>
                        ((quoI .i64 (IntKind.wrap .i64 (s2 - s1)) 8).bind fun x201 =>
                        (cond (decide (((IntKind.wrap .i64 (r200.1.1 - s1)) : Int) < (IntKind.wrap .i64 (s2 - r200.1.1))))
                        ((callD (vF P tab n) P false (.tup []) 56 [.sl 3 s0, .int .i64 s1, .int .i64 r200.1.1, .int .i64 s3] r200.2).bind fun r202 =>
                        (L56_0 n m s0 (IntKind.wrap .i64 (r200.1.1 + 1)) s2 s3 (decide (((IntKind.wrap .i64 (r200.1.1 - s1)) : Int) ≥ x201)) r200.1.2.1 r202.2))
                        ((callD (vF P tab n) P false (.tup []) 56 [.sl 3 s0, .int .i64 (IntKind.wrap .i64 (r200.1.1 + 1)), .int .i64 s2, .int .i64 s3] r200.2).bind fun r203 =>
                        (L56_0 n m s0 s1 r200.1.1 s3 (decide (((IntKind.wrap .i64 (s2 - r200.1.1)) : Int) ≥ x201)) r200.1.2.1 r203.2)))))))))))
                ((callD (vF P tab n) P false (.tup [(.flat (.int .i64)), (.flat .bool)]) 74 [.sl 3 s0, .int .i64 s1, .int .i64 s2, .int .i64 r106.1.1] r106.2).bind fun r204 =>
                  ((quoI .i64 (IntKind.wrap .i64 (s2 - s1)) 8).bind fun x205 =>
                    (cond (decide (((IntKind.wrap .i64 (r204.1.1 - s1)) : Int) < (IntKind.wrap .i64 (s2 - r204.1.1))))
                      ((callD (vF P tab n) P false (.tup []) 56 [.sl 3 s0, .int .i64 s1, .int .i64 r204.1.1, .int .i64 s3] r204.2).bind fun r206 =>
                        (L56_0 n m s0 (IntKind.wrap .i64 (r204.1.1 + 1)) s2 s3 (decide (((IntKind.wrap .i64 (r204.1.1 - s1)) : Int) ≥ x205)) r204.1.2.1 r206.2))
                      ((callD (vF P tab n) P false (.tup []) 56 [.sl 3 s0, .int .i64 (IntKind.wrap .i64 (r204.1.1 + 1)), .int .i64 s2, .int .i64 s3] r204.2).bind fun r207 =>
                        (L56_0 n m s0 s1 r204.1.1 s3 (decide (((IntKind.wrap .i64 (s2 - r204.1.1)) : Int) ≥ x205)) r204.1.2.1 r207.2)))))))))))) := by kernel_rfl
theorem f56_eq (n : Nat) (a0 : VS) (a1 : Int) (a2 : Int) (a3 : Int) (h : VH) : bodyV P tab (vF P tab n) n 56 [.sl 3 a0, .int .i64 a1, .int .i64 a2, .int .i64 a3] h =
  (L56_0 n n a0 a1 a2 a3 true true h) := by kernel_rfl
/-! math/bits.Len -/
theorem f57_eq (n : Nat) (a0 : Int) (h : VH) : bodyV P tab (vF P tab n) n 57 [.int .u64 a0] h =
  ((callD (vF P tab n) P false (.one (.flat (.int .i64))) 76 [.int .u64 a0] h).bind fun r1 =>
    (some (.int .i64 r1.1, r1.2))) := by kernel_rfl
/-! slices.insertionSortOrdered[int] -/
noncomputable def L66_0 (n m : Nat) (s0 : VS) (s1 : Int) (s2 : Int) (s6 : Int) (h : VH) : VRes := loopAt P tab 66 [1, 0] n [] m [.sl 3 s0, .int .i64 s1, .int .i64 s2, .undef, .undef, .undef, .int .i64 s6, .undef, .undef, .undef, .undef, .undef, .undef, .undef, .undef, .undef, .undef, .undef, .undef, .undef, .undef, .undef, .undef, .undef, .undef, .undef, .undef, .undef, .undef, .undef, .undef, .undef, .undef, .undef, .undef, .undef, .undef, .undef, .undef, .undef, .undef, .undef, .undef, .undef, .undef, .undef, .undef, .undef, .undef] h
noncomputable def L66_1 (n m0 m : Nat) (s0 : VS) (s1 : Int) (s2 : Int) (s6 : Int) (s7 : Int) (h : VH) : VRes := loopAt P tab 66 [1, 0, 0, 1, 0, 0, 1, 0] n [m0] m [.sl 3 s0, .int .i64 s1, .int .i64 s2, .undef, .undef, .undef, .int .i64 s6, .int .i64 s7, .undef, .undef, .undef, .undef, .undef, .undef, .undef, .undef, .undef, .undef, .undef, .undef, .undef, .undef, .undef, .undef, .undef, .undef, .undef, .undef, .undef, .undef, .undef, .undef, .undef, .undef, .undef, .undef, .undef, .undef, .undef, .undef, .undef, .undef, .undef, .undef, .undef, .undef, .undef, .undef, .undef] h
theorem L66_0_eq (n m : Nat) (s0 : VS) (s1 : Int) (s2 : Int) (s6 : Int) (h : VH) : L66_0 n (m + 1) s0 s1 s2 s6 h =
  (cond (decide ((s6 : Int) < s2))
    (L66_1 n m n s0 s1 s2 s6 s6 h)
    (some (.tup [], h))) := by kernel_rfl
theorem L66_1_eq (n m0 m : Nat) (s0 : VS) (s1 : Int) (s2 : Int) (s6 : Int) (s7 : Int) (h : VH) : L66_1 n m0 (m + 1) s0 s1 s2 s6 s7 h =
  (cond (decide ((s7 : Int) > s1))
    ((ixV 1 s0 s7).bind fun p1 =>
      ((ldV (.flat (.int .i64)) h p1).bind fun x2 =>
        ((ixV 1 s0 (IntKind.wrap .i64 (s7 - 1))).bind fun p3 =>
          ((ldV (.flat (.int .i64)) h p3).bind fun x4 =>
            ((callD (vF P tab n) P false (.one (.flat .bool)) 72 [.int .i64 x2, .int .i64 x4] h).bind fun r5 =>
              (cond r5.1
                ((ixV 1 s0 (IntKind.wrap .i64 (s7 - 1))).bind fun p6 =>
                  ((ldV (.flat (.int .i64)) r5.2 p6).bind fun x7 =>
                    ((ixV 1 s0 s7).bind fun p8 =>
                      ((ldV (.flat (.int .i64)) r5.2 p8).bind fun x9 =>
                        (cond (V.stays r5.2 (hj (heldOf p6 [.int .i64] [.int .i64 x7]) []))
                        ((ixV 1 s0 s7).bind fun p10 =>
                        ((stV r5.2 p10 [.int .i64 x7]).bind fun h11 =>
                        ((ixV 1 s0 (IntKind.wrap .i64 (s7 - 1))).bind fun p12 =>
                        ((stV h11 p12 [.int .i64 x9]).bind fun h13 =>
                        (L66_1 n m0 m s0 s1 s2 s6 (IntKind.wrap .i64 (s7 - 1)) h13)))))
                        none)))))
                (L66_0 n m0 s0 s1 s2 (IntKind.wrap .i64 (s6 + 1)) r5.2)))))))
    (L66_0 n m0 s0 s1 s2 (IntKind.wrap .i64 (s6 + 1)) h)) := by kernel_rfl
theorem f66_eq (n : Nat) (a0 : VS) (a1 : Int) (a2 : Int) (h : VH) : bodyV P tab (vF P tab n) n 66 [.sl 3 a0, .int .i64 a1, .int .i64 a2] h =
  (L66_0 n n a0 a1 a2 (IntKind.wrap .i64 (a1 + 1)) h) := by kernel_rfl
/-! cmp.Less[int] -/
theorem f72_eq (n : Nat) (a0 : Int) (a1 : Int) (h : VH) : bodyV P tab (vF P tab n) n 72 [.int .i64 a0, .int .i64 a1] h =
  ((callD (vF P tab n) P false (.one (.flat .bool)) 85 [.int .i64 a0] h).bind fun r1 =>
    (cond r1.1
      ((callD (vF P tab n) P false (.one (.flat .bool)) 85 [.int .i64 a1] r1.2).bind fun r2 =>
        (cond (!r2.1)
          (some (.bool true, r2.2))
          (some (.bool (decide ((a0 : Int) < a1)), r2.2))))
      (some (.bool (decide ((a0 : Int) < a1)), r1.2)))) := by kernel_rfl
/-! cmp.isNaN[int] -/
theorem f85_eq (n : Nat) (a0 : Int) (h : VH) : bodyV P tab (vF P tab n) n 85 [.int .i64 a0] h =
  (some (.bool ((a0 : Int) != a0), h)) := by kernel_rfl
end Go.Proofs.Ytgmgpandhaeniaa
