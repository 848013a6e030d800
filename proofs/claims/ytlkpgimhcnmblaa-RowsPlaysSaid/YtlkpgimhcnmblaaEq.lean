import Derived.Test.YtlkpgimhcnmblaaVc
import Derived.Test.YtlkpgimhcnmblaaProg
set_option maxRecDepth 100000
set_option maxHeartbeats 0
set_option linter.unusedVariables false
set_option linter.unusedSimpArgs false
namespace Go.Proofs.Ytlkpgimhcnmblaa
open Go.Proofs.Ytlkpgimhcnmblaa.Sh Go.Proofs.Ytlkpgimhcnmblaa.Sh.V
def notes : List (Nat × Notes) := [(3, ⟨[(7, .order [(0, true), (1, true), (2, true), (3, true), (4, true), (6, true), (7, true), (8, true), (9, true), (10, true), (5, false), (11, false)]), (20, .order [(0, true), (1, true), (2, true), (3, true), (4, true), (5, true), (6, true), (7, true), (9, true), (10, true), (11, true), (12, true), (13, true), (8, false), (14, false)])], [(5, [2, 3, 4, 7, 8, 9, 10, 11, 12, 13, 14, 15, 16, 17, 18, 19, 20, 21, 22, 23, 24, 25, 26, 27, 28, 29, 30, 31, 32, 33, 34, 35, 36, 37, 38, 39, 40, 41, 42, 43, 44, 45, 46, 47, 48, 49, 50, 51, 52, 53, 54, 55, 56, 57, 58, 59, 60, 61, 62, 63, 64, 65, 66, 67, 68, 69, 70, 71, 72, 73, 74, 75, 76, 77, 78, 79, 80, 81, 82, 83, 84, 85, 86, 87, 88, 89, 90, 91, 92, 93, 94, 95, 96, 97, 98, 99, 100, 101, 102, 103, 104, 105, 106, 107, 108, 109, 110, 111, 112, 113, 114, 115, 116, 117, 118, 119, 120, 121, 122, 123, 124, 125, 126, 127, 128, 129, 130, 131, 132, 133, 134, 135, 136, 137, 138, 139, 140, 141, 142, 143, 144, 145]), (11, [0, 2, 3, 4, 6, 10, 11, 12, 13, 14, 15, 16, 17, 18, 19, 20, 21, 22, 23, 24, 25, 26, 27, 28, 29, 30, 31, 32, 33, 34, 35, 36, 37, 38, 39, 40, 41, 42, 43, 44, 45, 46, 47, 48, 49, 50, 51, 52, 53, 54, 55, 56, 57, 58, 59, 60, 61, 62, 63, 64, 65, 66, 67, 68, 69, 70, 71, 72, 73, 74, 75, 76, 77, 78, 79, 80, 81, 82, 83, 84, 85, 86, 87, 88, 89, 90, 91, 92, 93, 94, 95, 96, 97, 98, 99, 100, 101, 102, 103, 104, 105, 106, 107, 108, 109, 110, 111, 112, 113, 114, 115, 116, 117, 118, 119, 120, 121, 122, 123, 124, 125, 126, 127, 128, 129, 130, 131, 132, 133, 134, 135, 136, 137, 138, 139, 140, 141, 142, 143, 144, 145]), (17, [0, 2, 3, 4, 6, 9, 10, 11, 14, 15, 16, 17, 18, 19, 20, 21, 22, 23, 24, 25, 26, 27, 28, 29, 30, 31, 32, 33, 34, 35, 36, 37, 38, 39, 40, 41, 42, 43, 44, 45, 46, 47, 48, 49, 50, 51, 52, 53, 54, 55, 56, 57, 58, 59, 60, 61, 62, 63, 64, 65, 66, 67, 68, 69, 70, 71, 72, 73, 74, 75, 76, 77, 78, 79, 80, 81, 82, 83, 84, 85, 86, 87, 88, 89, 90, 91, 92, 93, 94, 95, 96, 97, 98, 99, 100, 101, 102, 103, 104, 105, 106, 107, 108, 109, 110, 111, 112, 113, 114, 115, 116, 117, 118, 119, 120, 121, 122, 123, 124, 125, 126, 127, 128, 129, 130, 131, 132, 133, 134, 135, 136, 137, 138, 139, 140, 141, 142, 143, 144, 145]), (26, [0, 1, 2, 3, 4, 6, 9, 10, 11, 12, 13, 15, 16, 17, 18, 19, 20, 21, 22, 23, 24, 25, 26, 27, 28, 29, 30, 31, 32, 33, 34, 35, 36, 37, 38, 39, 40, 41, 42, 43, 44, 45, 46, 47, 48, 49, 50, 51, 52, 53, 54, 55, 56, 57, 58, 59, 60, 61, 62, 63, 64, 65, 66, 67, 68, 69, 70, 71, 72, 73, 74, 75, 76, 77, 78, 79, 80, 81, 82, 83, 84, 85, 86, 87, 88, 89, 90, 91, 92, 93, 94, 95, 96, 97, 98, 99, 100, 101, 102, 103, 104, 105, 106, 107, 108, 109, 110, 111, 112, 113, 114, 115, 116, 117, 118, 119, 120, 121, 122, 123, 124, 125, 126, 127, 128, 129, 130, 131, 132, 133, 134, 135, 136, 137, 138, 139, 140, 141, 142, 143, 144, 145])], []⟩),
  (4, ⟨[], [(5, [1, 2, 5, 6, 7, 8, 9, 10, 11, 12, 13, 14, 15, 16, 17, 18, 19, 20, 21, 22, 23, 24, 25, 26, 27, 28, 29, 30, 31])], []⟩),
  (5, ⟨[(13, .order [(0, true), (1, true), (2, true), (3, true), (4, true), (6, true), (7, true), (8, true), (9, true), (10, true), (5, false), (11, false)]), (18, .order [(0, true), (2, true), (3, true), (4, true), (5, true), (1, false), (6, false), (7, true), (8, true), (9, true), (11, true), (12, true), (13, true), (14, true), (10, false), (15, true), (16, true)])], [(7, [1, 2, 7, 8, 9, 10, 11, 12, 13, 14, 15, 16, 17, 18, 19, 20, 21, 22, 23, 24, 25, 26, 27, 28, 29, 30, 31, 32, 33, 34, 35, 36, 37, 38, 39, 40, 41, 42, 43, 44, 45, 46, 47, 48, 49, 50, 51, 52, 53, 54, 55, 56, 57, 58, 59, 60, 61, 62, 63, 64, 65, 66, 67, 68, 69, 70, 71, 72, 73, 74, 75, 76, 77, 78, 79, 80, 81, 82, 83, 84, 85, 86, 87, 88, 89, 90, 91]), (15, [0, 1, 2, 6, 8, 9, 10, 11, 12, 13, 14, 15, 16, 17, 18, 19, 20, 21, 22, 23, 24, 25, 26, 27, 28, 29, 30, 31, 32, 33, 34, 35, 36, 37, 38, 39, 40, 41, 42, 43, 44, 45, 46, 47, 48, 49, 50, 51, 52, 53, 54, 55, 56, 57, 58, 59, 60, 61, 62, 63, 64, 65, 66, 67, 68, 69, 70, 71, 72, 73, 74, 75, 76, 77, 78, 79, 80, 81, 82, 83, 84, 85, 86, 87, 88, 89, 90, 91])], []⟩),
  (6, ⟨[(17, .tail 7), (32, .order [(0, true), (1, true), (2, true), (3, true), (4, true), (5, true), (6, true), (7, true), (8, true), (9, true), (11, true), (12, true), (13, true), (10, false), (14, true), (15, true), (16, true), (17, true), (19, true), (20, true), (21, true), (18, false), (22, true), (23, true), (24, true), (25, true), (27, true), (26, false), (28, false), (29, false), (30, true), (31, true)])], [(6, [2, 3, 4, 8, 9, 10, 11, 12, 13, 14, 15, 16, 17, 18, 19, 20, 21, 22, 23, 24, 25, 26, 27, 28, 29, 30, 31, 32, 33, 34, 35, 36, 37, 38, 39, 40, 41, 42, 43, 44, 45, 46, 47, 48, 49, 50, 51, 52, 53, 54, 55, 56, 57, 58, 59, 60, 61, 62, 63, 64, 65, 66, 67, 68, 69, 70, 71, 72, 73, 74, 75, 76, 77, 78, 79, 80, 81, 82, 83, 84, 85, 86, 87, 88, 89, 90, 91, 92, 93, 94, 95, 96, 97, 98, 99, 100, 101, 102, 103, 104, 105, 106, 107, 108, 109, 110, 111, 112, 113, 114, 115, 116, 117, 118, 119, 120, 121, 122, 123, 124, 125, 126, 127, 128, 129, 130, 131, 132, 133, 134, 135, 136, 137, 138, 139, 140, 141])], []⟩),
  (7, ⟨[(7, .order [(0, true), (1, true), (2, true), (3, true), (4, true), (6, true), (7, true), (8, true), (9, true), (10, true), (5, false), (11, false)])], [(5, [2, 3, 4, 7, 8, 9, 10, 11, 12, 13, 14, 15, 16, 17, 18, 19, 20, 21, 22, 23, 24, 25, 26, 27, 28, 29, 30, 31, 32, 33, 34, 35, 36, 37, 38, 39, 40, 41, 42, 43, 44, 45, 46, 47, 48, 49, 50, 51, 52, 53, 54, 55, 56, 57, 58, 59])], []⟩),
  (17, ⟨[(5, .tail 8), (6, .tail 6)], [(0, [2, 3, 4, 5, 6, 7, 8, 9, 10, 11, 12, 13, 14, 15, 16, 17, 18, 19, 20, 21, 22, 23, 24, 25, 26, 27, 28, 29, 30, 31, 32, 33, 34, 35, 36, 37, 38, 39, 40, 41, 42, 43, 44, 45, 46, 47, 48])], []⟩),
  (18, ⟨[], [(4, [2, 3, 4, 6, 7, 8, 9, 10, 11, 12, 13, 14, 15, 16, 17, 18, 19, 20, 21, 22, 23, 24, 25])], []⟩),
  (22, ⟨[], [(3, [1, 2, 5, 6, 7, 8, 9, 10, 11, 12, 13, 14, 15, 16, 17, 18, 19, 20, 21, 22, 23, 24, 25, 26, 27, 28, 29, 30, 31, 32, 33, 34, 35, 36, 37, 38, 39, 40, 41, 42, 43, 44, 45, 46, 47, 48, 49, 50, 51, 52, 53, 54, 55, 56, 57, 58, 59, 60, 61, 62, 63, 64, 65, 66, 67, 68, 69]), (8, [1, 2, 8, 9, 10, 11, 12, 13, 14, 15, 16, 17, 18, 19, 20, 21, 22, 23, 24, 25, 26, 27, 28, 29, 30, 31, 32, 33, 34, 35, 36, 37, 38, 39, 40, 41, 42, 43, 44, 45, 46, 47, 48, 49, 50, 51, 52, 53, 54, 55, 56, 57, 58, 59, 60, 61, 62, 63, 64, 65, 66, 67, 68, 69])], []⟩),
  (25, ⟨[(5, .tail 8), (6, .tail 6)], [(0, [2, 3, 4, 5, 6, 7, 8, 9, 10, 11, 12, 13, 14, 15, 16, 17, 18, 19, 20, 21, 22, 23, 24, 25, 26, 27, 28, 29, 30, 31, 32, 33, 34, 35, 36, 37, 38, 39, 40, 41, 42, 43, 44, 45, 46, 47, 48])], []⟩),
  (27, ⟨[(1, .order [(0, true), (1, true), (2, true), (3, true), (5, true), (6, true), (7, true), (8, true), (4, false), (9, false), (10, false), (11, false)])], [], []⟩),
  (28, ⟨[(4, .order [(0, true), (1, true), (2, true), (3, true), (4, false), (5, false), (6, false), (7, true)])], [], []⟩),
  (29, ⟨[(5, .tail 9)], [], []⟩),
  (32, ⟨[], [(2, [0, 3, 4, 5, 7, 8, 9, 10, 11, 12, 13, 14, 15, 16, 17, 18, 19, 20, 21, 22, 23, 24, 25, 26, 27])], []⟩),
  (33, ⟨[], [(3, [0, 2, 5, 6, 7, 8, 9, 10, 11, 12, 13, 14, 15, 16, 17, 18, 19, 20, 21, 22])], []⟩),
  (40, ⟨[], [(3, [2, 3, 4, 7, 8, 9, 10, 11, 12, 13, 14, 15, 16, 17, 18, 19, 20, 21, 22, 23, 24, 25, 26, 27])], []⟩),
  (43, ⟨[], [(1, [1, 2, 3, 4, 6, 7, 8, 9, 10, 11, 12, 13])], []⟩),
  (44, ⟨[], [(1, [1, 2, 3, 4, 6, 7, 8, 9, 10, 11, 12, 13])], []⟩)]
noncomputable abbrev P : Program := Try.prog
def reach : List Nat := [3, 4, 5, 6, 7, 8, 9, 10, 11, 12, 13, 14, 15, 16, 17, 18, 19, 20, 21, 22, 23, 24, 25, 26, 27, 28, 29, 30, 31, 32, 33, 34, 36, 37, 38, 39, 40, 43, 44]
def noteOf (f : FuncId) : Notes := (find notes f).getD ⟨[], [], []⟩
noncomputable def prims : List (FuncId × (List V → VH → VRes)) := [(35, sortedP [43, 44] 9)]
noncomputable def tab : VTab := mkVp (mkV P noteOf reach [] (fun f => !among [34, 37] f) (among [9, 12, 18, 22, 27, 28, 29, 32, 33, 39]) (fun f g => among2 [] f g) (fun f => !among [] f)) prims
/-! godown/godownlaw09.RowsUndone -/
noncomputable def L3_0 (n m : Nat) (s0 : VS) (s1 : VS) (s5 : VP) (s6 : Int) (h : VH) : VRes := loopAt P tab 3 [1, 1, 1, 0, 1, 0] n [] m [.sl 29 s0, .sl 29 s1, .undef, .undef, .undef, .ptr s5, .int .i64 s6, .undef, .undef, .undef, .undef, .undef, .undef, .undef, .undef, .undef, .undef, .undef, .undef, .undef, .undef, .undef, .undef, .undef, .undef, .undef, .undef, .undef, .undef, .undef, .undef, .undef, .undef, .undef, .undef, .undef, .undef, .undef, .undef, .undef, .undef, .undef, .undef, .undef, .undef, .undef, .undef, .undef, .undef, .undef, .undef, .undef, .undef, .undef, .undef, .undef, .undef, .undef, .undef, .undef, .undef, .undef, .undef, .undef, .undef, .undef, .undef, .undef, .undef, .undef, .undef, .undef, .undef, .undef, .undef, .undef, .undef, .undef, .undef, .undef, .undef, .undef, .undef, .undef, .undef, .undef, .undef, .undef, .undef, .undef, .undef, .undef, .undef, .undef, .undef, .undef, .undef, .undef, .undef, .undef, .undef, .undef, .undef, .undef, .undef, .undef, .undef, .undef, .undef, .undef, .undef, .undef, .undef, .undef, .undef, .undef, .undef, .undef, .undef, .undef, .undef, .undef, .undef, .undef, .undef, .undef, .undef, .undef, .undef, .undef, .undef, .undef, .undef, .undef, .undef, .undef, .undef, .undef, .undef, .undef, .undef, .undef, .undef, .undef, .undef, .undef] h
noncomputable def L3_1 (n m : Nat) (s1 : VS) (s5 : VP) (s7 : VS) (s8 : VS) (s9 : Int) (h : VH) : VRes := loopAt P tab 3 [1, 1, 1, 1, 1, 1, 0, 1, 0] n [] m [.undef, .sl 29 s1, .undef, .undef, .undef, .ptr s5, .undef, .sl 9 s7, .sl 9 s8, .int .i64 s9, .undef, .undef, .undef, .undef, .undef, .undef, .undef, .undef, .undef, .undef, .undef, .undef, .undef, .undef, .undef, .undef, .undef, .undef, .undef, .undef, .undef, .undef, .undef, .undef, .undef, .undef, .undef, .undef, .undef, .undef, .undef, .undef, .undef, .undef, .undef, .undef, .undef, .undef, .undef, .undef, .undef, .undef, .undef, .undef, .undef, .undef, .undef, .undef, .undef, .undef, .undef, .undef, .undef, .undef, .undef, .undef, .undef, .undef, .undef, .undef, .undef, .undef, .undef, .undef, .undef, .undef, .undef, .undef, .undef, .undef, .undef, .undef, .undef, .undef, .undef, .undef, .undef, .undef, .undef, .undef, .undef, .undef, .undef, .undef, .undef, .undef, .undef, .undef, .undef, .undef, .undef, .undef, .undef, .undef, .undef, .undef, .undef, .undef, .undef, .undef, .undef, .undef, .undef, .undef, .undef, .undef, .undef, .undef, .undef, .undef, .undef, .undef, .undef, .undef, .undef, .undef, .undef, .undef, .undef, .undef, .undef, .undef, .undef, .undef, .undef, .undef, .undef, .undef, .undef, .undef, .undef, .undef, .undef, .undef, .undef, .undef] h
noncomputable def L3_2 (n m : Nat) (s1 : VS) (s5 : VP) (s7 : VS) (s8 : VS) (s12 : Int) (s13 : Int) (h : VH) : VRes := loopAt P tab 3 [1, 1, 1, 1, 1, 1, 1, 1, 0, 1, 0] n [] m [.undef, .sl 29 s1, .undef, .undef, .undef, .ptr s5, .undef, .sl 9 s7, .sl 9 s8, .undef, .undef, .undef, .int .i64 s12, .int .i64 s13, .undef, .undef, .undef, .undef, .undef, .undef, .undef, .undef, .undef, .undef, .undef, .undef, .undef, .undef, .undef, .undef, .undef, .undef, .undef, .undef, .undef, .undef, .undef, .undef, .undef, .undef, .undef, .undef, .undef, .undef, .undef, .undef, .undef, .undef, .undef, .undef, .undef, .undef, .undef, .undef, .undef, .undef, .undef, .undef, .undef, .undef, .undef, .undef, .undef, .undef, .undef, .undef, .undef, .undef, .undef, .undef, .undef, .undef, .undef, .undef, .undef, .undef, .undef, .undef, .undef, .undef, .undef, .undef, .undef, .undef, .undef, .undef, .undef, .undef, .undef, .undef, .undef, .undef, .undef, .undef, .undef, .undef, .undef, .undef, .undef, .undef, .undef, .undef, .undef, .undef, .undef, .undef, .undef, .undef, .undef, .undef, .undef, .undef, .undef, .undef, .undef, .undef, .undef, .undef, .undef, .undef, .undef, .undef, .undef, .undef, .undef, .undef, .undef, .undef, .undef, .undef, .undef, .undef, .undef, .undef, .undef, .undef, .undef, .undef, .undef, .undef, .undef, .undef, .undef, .undef, .undef, .undef] h
noncomputable def L3_3 (n m : Nat) (s5 : VP) (s7 : VS) (s8 : VS) (s14 : Int) (h : VH) : VRes := loopAt P tab 3 [1, 1, 1, 1, 1, 1, 1, 1, 1, 1, 1, 0, 1, 0] n [] m [.undef, .undef, .undef, .undef, .undef, .ptr s5, .undef, .sl 9 s7, .sl 9 s8, .undef, .undef, .undef, .undef, .undef, .int .i64 s14, .undef, .undef, .undef, .undef, .undef, .undef, .undef, .undef, .undef, .undef, .undef, .undef, .undef, .undef, .undef, .undef, .undef, .undef, .undef, .undef, .undef, .undef, .undef, .undef, .undef, .undef, .undef, .undef, .undef, .undef, .undef, .undef, .undef, .undef, .undef, .undef, .undef, .undef, .undef, .undef, .undef, .undef, .undef, .undef, .undef, .undef, .undef, .undef, .undef, .undef, .undef, .undef, .undef, .undef, .undef, .undef, .undef, .undef, .undef, .undef, .undef, .undef, .undef, .undef, .undef, .undef, .undef, .undef, .undef, .undef, .undef, .undef, .undef, .undef, .undef, .undef, .undef, .undef, .undef, .undef, .undef, .undef, .undef, .undef, .undef, .undef, .undef, .undef, .undef, .undef, .undef, .undef, .undef, .undef, .undef, .undef, .undef, .undef, .undef, .undef, .undef, .undef, .undef, .undef, .undef, .undef, .undef, .undef, .undef, .undef, .undef, .undef, .undef, .undef, .undef, .undef, .undef, .undef, .undef, .undef, .undef, .undef, .undef, .undef, .undef, .undef, .undef, .undef, .undef, .undef, .undef] h
theorem L3_0_eq (n m : Nat) (s0 : VS) (s1 : VS) (s5 : VP) (s6 : Int) (h : VH) : L3_0 n (m + 1) s0 s1 s5 s6 h =
  (cond (decide ((s6 : Int) < ((VS.len s0 : Nat) : Int)))
    ((ixV 3 s0 s6).bind fun p1 =>
      ((ldV (.agg [.int .u8, .str, .int .i64]) h p1).bind fun x2 =>
        ((ixV 3 s0 s6).bind fun p3 =>
          ((atO p3 1).bind fun p4 =>
            ((ldV (.flat .str) h p4).bind fun x5 =>
              ((callD (vF P tab n) P false (.one (.flat .str)) 12 [.agg [.int .u8 x2.1, .str x2.2.1, .int .i64 x2.2.2.1], .bool true] h).bind fun r6 =>
                (cond (V.stays r6.2 (hj (heldOf p4 [.str] [.str x5]) []))
                  ((callD (vF P tab n) P false (.tup []) 11 [.ptr s5, .str r6.1, .str x5] r6.2).bind fun r7 =>
                    (cond (V.stays r7.2 (hj (heldOf p1 [.int .u8, .str, .int .i64] [.int .u8 x2.1, .str x2.2.1, .int .i64 x2.2.2.1]) []))
                      (L3_0 n m s0 s1 s5 (IntKind.wrap .i64 (s6 + 1)) r7.2)
                      none))
                  none)))))))
    ((callD (vF P tab n) P false (.one (.flat (.slice 9))) 13 [.ptr s5] h).bind fun r8 =>
      (L3_1 n n s1 s5 r8.1 .nil 0 r8.2))) := by kernel_rfl
theorem L3_1_eq (n m : Nat) (s1 : VS) (s5 : VP) (s7 : VS) (s8 : VS) (s9 : Int) (h : VH) : L3_1 n (m + 1) s1 s5 s7 s8 s9 h =
  (cond (decide ((s9 : Int) < ((VS.len s7 : Nat) : Int)))
    ((ixV 1 s7 s9).bind fun p1 =>
      ((ldV (.flat .str) h p1).bind fun x2 =>
        ((callD (vF P tab n) P false (.tup [(.flat .str), (.flat .bool)]) 14 [.ptr s5, .str x2] h).bind fun r3 =>
          ((appD true r3.2 1 16 9 s8 (.fz [[.str r3.1.1]] (.ex 1))).bind fun r4 =>
            (L3_1 n m s1 s5 s7 r4.1 (IntKind.wrap .i64 (s9 + 1)) r4.2)))))
    ((callD (vF P tab n) P false (.one (.flat (.int .i64))) 15 [.ptr s5] h).bind fun r5 =>
      (L3_2 n n s1 s5 s7 s8 r5.1 0 r5.2))) := by kernel_rfl
theorem L3_2_eq (n m : Nat) (s1 : VS) (s5 : VP) (s7 : VS) (s8 : VS) (s12 : Int) (s13 : Int) (h : VH) : L3_2 n (m + 1) s1 s5 s7 s8 s12 s13 h =
  (cond (decide ((s13 : Int) < ((VS.len s1 : Nat) : Int)))
    ((ixV 3 s1 s13).bind fun p1 =>
      ((atO p1 0).bind fun p2 =>
        ((ldV (.flat (.int .u8)) h p2).bind fun x3 =>
          ((remI x3 2).bind fun x4 =>
            (cond ((x4 : Int) == 0)
              ((ixV 3 s1 s13).bind fun p5 =>
                ((ldV (.agg [.int .u8, .str, .int .i64]) h p5).bind fun x6 =>
                  ((remI s13 2).bind fun x7 =>
                    ((ixV 3 s1 s13).bind fun p8 =>
                      ((atO p8 1).bind fun p9 =>
                        ((ldV (.flat .str) h p9).bind fun x10 =>
                        ((callD (vF P tab n) P false (.one (.flat .str)) 12 [.agg [.int .u8 x6.1, .str x6.2.1, .int .i64 x6.2.2.1], .bool ((x7 : Int) == 0)] h).bind fun r11 =>
                        (cond (V.stays r11.2 (hj (heldOf p9 [.str] [.str x10]) []))
                        ((callD (vF P tab n) P false (.tup []) 11 [.ptr s5, .str r11.1, .str x10] r11.2).bind fun r12 =>
                        (cond (V.stays r12.2 (hj (heldOf p5 [.int .u8, .str, .int .i64] [.int .u8 x6.1, .str x6.2.1, .int .i64 x6.2.2.1]) []))
                        (L3_2 n m s1 s5 s7 s8 s12 (IntKind.wrap .i64 (s13 + 1)) r12.2)
                        none))
                        none))))))))
              ((ixV 3 s1 s13).bind fun p13 =>
                ((ldV (.agg [.int .u8, .str, .int .i64]) h p13).bind fun x14 =>
                  ((callD (vF P tab n) P false (.one (.flat .str)) 12 [.agg [.int .u8 x14.1, .str x14.2.1, .int .i64 x14.2.2.1], .bool true] h).bind fun r15 =>
                    ((callD (vF P tab n) P false (.one (.flat .bool)) 16 [.ptr s5, .str r15.1] r15.2).bind fun r16 =>
                      (L3_2 n m s1 s5 s7 s8 s12 (IntKind.wrap .i64 (s13 + 1)) r16.2))))))))))
    ((callD (vF P tab n) P false (.tup []) 17 [.ptr s5, .int .i64 s12] h).bind fun r17 =>
      ((callD (vF P tab n) P false (.one (.flat (.slice 9))) 13 [.ptr s5] r17.2).bind fun r18 =>
        ((callD (vF P tab n) P false (.one (.flat .bool)) 18 [.sl 9 r18.1, .sl 9 s7] r18.2).bind fun r19 =>
          (cond (!r19.1)
            (some (.bool false, r19.2))
            ((callD (vF P tab n) P false (.one (.flat (.int .i64))) 15 [.ptr s5] r19.2).bind fun r20 =>
              (cond ((r20.1 : Int) != s12)
                (some (.bool false, r20.2))
                (L3_3 n n s5 s7 s8 0 r20.2)))))))) := by kernel_rfl
theorem L3_3_eq (n m : Nat) (s5 : VP) (s7 : VS) (s8 : VS) (s14 : Int) (h : VH) : L3_3 n (m + 1) s5 s7 s8 s14 h =
  (cond (decide ((s14 : Int) < ((VS.len s7 : Nat) : Int)))
    ((ixV 1 s7 s14).bind fun p1 =>
      ((ldV (.flat .str) h p1).bind fun x2 =>
        ((callD (vF P tab n) P false (.tup [(.flat .str), (.flat .bool)]) 14 [.ptr s5, .str x2] h).bind fun r3 =>
          (cond (!r3.1.2.1)
            (some (.bool false, r3.2))
            ((ixV 1 s8 s14).bind fun p4 =>
              ((ldV (.flat .str) r3.2 p4).bind fun x5 =>
                (cond (!(strEq r3.1.1 x5))
                  (some (.bool false, r3.2))
                  (L3_3 n m s5 s7 s8 (IntKind.wrap .i64 (s14 + 1)) r3.2))))))))
    (some (.bool true, h))) := by kernel_rfl
theorem f3_eq (n : Nat) (a0 : VS) (a1 : VS) (h : VH) : bodyV P tab (vF P tab n) n 3 [.sl 29 a0, .sl 29 a1] h =
  ((callD (vF P tab n) P false (.one (.flat .bool)) 9 [] h).bind fun r1 =>
    (cond (!r1.1)
      ((callD (vF P tab n) P false (.one (.flat .bool)) 9 [] r1.2).bind fun r2 =>
        (some (.bool r2.1, r2.2)))
      (cond (decide ((((VS.len a0 : Nat) : Int) : Int) > 40))
        ((callD (vF P tab n) P false (.one (.flat .bool)) 9 [] r1.2).bind fun r3 =>
          (some (.bool r3.1, r3.2)))
        (cond (decide ((((VS.len a1 : Nat) : Int) : Int) > 40))
          ((callD (vF P tab n) P false (.one (.flat .bool)) 9 [] r1.2).bind fun r4 =>
            (some (.bool r4.1, r4.2)))
          ((callD (vF P tab n) P false (.one (.flat .ptr)) 10 [] r1.2).bind fun r5 =>
            (L3_0 n n a0 a1 r5.1 0 r5.2)))))) := by kernel_rfl
/-! godown/godownlaw09.RowsKeys -/
noncomputable def L4_0 (n m : Nat) (s0 : VS) (s3 : VP) (s4 : Int) (h : VH) : VRes := loopAt P tab 4 [1, 1, 1, 0, 1, 0] n [] m [.sl 9 s0, .undef, .undef, .ptr s3, .int .i64 s4, .undef, .undef, .undef, .undef, .undef, .undef, .undef, .undef, .undef, .undef, .undef, .undef, .undef, .undef, .undef, .undef, .undef, .undef, .undef, .undef, .undef, .undef, .undef, .undef, .undef, .undef, .undef] h
theorem L4_0_eq (n m : Nat) (s0 : VS) (s3 : VP) (s4 : Int) (h : VH) : L4_0 n (m + 1) s0 s3 s4 h =
  (cond (decide ((s4 : Int) < ((VS.len s0 : Nat) : Int)))
    ((ixV 1 s0 s4).bind fun p1 =>
      ((ldV (.flat .str) h p1).bind fun x2 =>
        ((callD (vF P tab n) P false (.tup []) 20 [.ptr s3, .str x2, .int .i64 s4] h).bind fun r3 =>
          (L4_0 n m s0 s3 (IntKind.wrap .i64 (s4 + 1)) r3.2))))
    ((callD (vF P tab n) P false (.one (.flat (.slice 9))) 21 [.ptr s3] h).bind fun r4 =>
      ((callD (vF P tab n) P false (.one (.flat (.slice 9))) 22 [.sl 9 s0] r4.2).bind fun r5 =>
        ((callD (vF P tab n) P false (.one (.flat .bool)) 18 [.sl 9 r4.1, .sl 9 r5.1] r5.2).bind fun r6 =>
          (some (.bool r6.1, r6.2)))))) := by kernel_rfl
theorem f4_eq (n : Nat) (a0 : VS) (h : VH) : bodyV P tab (vF P tab n) n 4 [.sl 9 a0] h =
  ((callD (vF P tab n) P false (.one (.flat .bool)) 9 [] h).bind fun r1 =>
    (cond (!r1.1)
      ((callD (vF P tab n) P false (.one (.flat .bool)) 9 [] r1.2).bind fun r2 =>
        (some (.bool r2.1, r2.2)))
      (cond (decide ((((VS.len a0 : Nat) : Int) : Int) > 60))
        ((callD (vF P tab n) P false (.one (.flat .bool)) 9 [] r1.2).bind fun r3 =>
          (some (.bool r3.1, r3.2)))
        ((callD (vF P tab n) P false (.one (.flat .ptr)) 19 [] r1.2).bind fun r4 =>
          (L4_0 n n a0 r4.1 0 r4.2))))) := by kernel_rfl
/-! godown/godownlaw09.RowsNested -/
noncomputable def L5_0 (n m : Nat) (s0 : VS) (s3 : VP) (s4 : VS) (s5 : VS) (s6 : Int) (h : VH) : VRes := loopAt P tab 5 [1, 1, 1, 1, 1, 0, 1, 0] n [] m [.sl 29 s0, .undef, .undef, .ptr s3, .sl 3 s4, .sl 30 s5, .int .i64 s6, .undef, .undef, .undef, .undef, .undef, .undef, .undef, .undef, .undef, .undef, .undef, .undef, .undef, .undef, .undef, .undef, .undef, .undef, .undef, .undef, .undef, .undef, .undef, .undef, .undef, .undef, .undef, .undef, .undef, .undef, .undef, .undef, .undef, .undef, .undef, .undef, .undef, .undef, .undef, .undef, .undef, .undef, .undef, .undef, .undef, .undef, .undef, .undef, .undef, .undef, .undef, .undef, .undef, .undef, .undef, .undef, .undef, .undef, .undef, .undef, .undef, .undef, .undef, .undef, .undef, .undef, .undef, .undef, .undef, .undef, .undef, .undef, .undef, .undef, .undef, .undef, .undef, .undef, .undef, .undef, .undef, .undef, .undef, .undef, .undef] h
noncomputable def L5_1 (n m : Nat) (s3 : VP) (s4 : VS) (s5 : VS) (s7 : Int) (h : VH) : VRes := loopAt P tab 5 [1, 1, 1, 1, 1, 1, 0, 1, 0] n [] m [.undef, .undef, .undef, .ptr s3, .sl 3 s4, .sl 30 s5, .undef, .int .i64 s7, .undef, .undef, .undef, .undef, .undef, .undef, .undef, .undef, .undef, .undef, .undef, .undef, .undef, .undef, .undef, .undef, .undef, .undef, .undef, .undef, .undef, .undef, .undef, .undef, .undef, .undef, .undef, .undef, .undef, .undef, .undef, .undef, .undef, .undef, .undef, .undef, .undef, .undef, .undef, .undef, .undef, .undef, .undef, .undef, .undef, .undef, .undef, .undef, .undef, .undef, .undef, .undef, .undef, .undef, .undef, .undef, .undef, .undef, .undef, .undef, .undef, .undef, .undef, .undef, .undef, .undef, .undef, .undef, .undef, .undef, .undef, .undef, .undef, .undef, .undef, .undef, .undef, .undef, .undef, .undef, .undef, .undef, .undef, .undef] h
theorem L5_0_eq (n m : Nat) (s0 : VS) (s3 : VP) (s4 : VS) (s5 : VS) (s6 : Int) (h : VH) : L5_0 n (m + 1) s0 s3 s4 s5 s6 h =
  (cond (decide ((s6 : Int) < ((VS.len s0 : Nat) : Int)))
    ((callD (vF P tab n) P false (.one (.flat (.int .i64))) 23 [.ptr s3] h).bind fun r1 =>
      ((appD true r1.2 1 8 3 s4 (.fz [[.int .i64 r1.1]] (.ex 1))).bind fun r2 =>
        ((callD (vF P tab n) P false (.one (.flat (.slice 9))) 21 [.ptr s3] r2.2).bind fun r3 =>
          (if List.all [.sl 9 r3.1] closed1 = true then
            ((appD true r3.2 1 24 30 s5 (.fz [[.sl 9 (VS.strip r3.1)]] (.ex 1))).bind fun r4 =>
              ((ixV 3 s0 s6).bind fun p5 =>
                ((atO p5 0).bind fun p6 =>
                  ((ldV (.flat (.int .u8)) r4.2 p6).bind fun x7 =>
                    ((remI x7 3).bind fun x8 =>
                      (cond ((x8 : Int) == 0)
                        ((ixV 3 s0 s6).bind fun p9 =>
                        ((ldV (.agg [.int .u8, .str, .int .i64]) r4.2 p9).bind fun x10 =>
                        ((callD (vF P tab n) P false (.one (.flat .str)) 12 [.agg [.int .u8 x10.1, .str x10.2.1, .int .i64 x10.2.2.1], .bool true] r4.2).bind fun r11 =>
                        ((callD (vF P tab n) P false (.one (.flat .bool)) 24 [.ptr s3, .str r11.1] r11.2).bind fun r12 =>
                        (L5_0 n m s0 s3 r2.1 r4.1 (IntKind.wrap .i64 (s6 + 1)) r12.2)))))
                        ((ixV 3 s0 s6).bind fun p13 =>
                        ((ldV (.agg [.int .u8, .str, .int .i64]) r4.2 p13).bind fun x14 =>
                        ((ixV 3 s0 s6).bind fun p15 =>
                        ((atO p15 2).bind fun p16 =>
                        ((ldV (.flat (.int .i64)) r4.2 p16).bind fun x17 =>
                        ((callD (vF P tab n) P false (.one (.flat .str)) 12 [.agg [.int .u8 x14.1, .str x14.2.1, .int .i64 x14.2.2.1], .bool true] r4.2).bind fun r18 =>
                        (cond (V.stays r18.2 (hj (heldOf p16 [.int .i64] [.int .i64 x17]) []))
                        ((callD (vF P tab n) P false (.tup []) 20 [.ptr s3, .str r18.1, .int .i64 x17] r18.2).bind fun r19 =>
                        (cond (V.stays r19.2 (hj (heldOf p13 [.int .u8, .str, .int .i64] [.int .u8 x14.1, .str x14.2.1, .int .i64 x14.2.2.1]) []))
                        (L5_0 n m s0 s3 r2.1 r4.1 (IntKind.wrap .i64 (s6 + 1)) r19.2)
                        none))
                        none)))))))))))))
            else none))))
    (L5_1 n n s3 s4 s5 (IntKind.wrap .i64 (((VS.len s0 : Nat) : Int) - 1)) h)) := by kernel_rfl
theorem L5_1_eq (n m : Nat) (s3 : VP) (s4 : VS) (s5 : VS) (s7 : Int) (h : VH) : L5_1 n (m + 1) s3 s4 s5 s7 h =
  (cond (decide ((s7 : Int) ≥ 0))
    ((ixV 1 s4 s7).bind fun p1 =>
      ((ldV (.flat (.int .i64)) h p1).bind fun x2 =>
        ((callD (vF P tab n) P false (.tup []) 25 [.ptr s3, .int .i64 x2] h).bind fun r3 =>
          ((ixV 1 s5 s7).bind fun p4 =>
            ((ldV (.flat (.slice 9)) r3.2 p4).bind fun x5 =>
              ((callD (vF P tab n) P false (.one (.flat (.slice 9))) 21 [.ptr s3] r3.2).bind fun r6 =>
                (cond (V.stays r6.2 (hj (heldOf p4 [.slice 9] [.sl 9 x5]) []))
                  ((callD (vF P tab n) P false (.one (.flat .bool)) 18 [.sl 9 r6.1, .sl 9 x5] r6.2).bind fun r7 =>
                    (cond (!r7.1)
                      (some (.bool false, r7.2))
                      ((ixV 1 s4 s7).bind fun p8 =>
                        ((ldV (.flat (.int .i64)) r7.2 p8).bind fun x9 =>
                        ((callD (vF P tab n) P false (.one (.flat (.int .i64))) 23 [.ptr s3] r7.2).bind fun r10 =>
                        (cond (V.stays r10.2 (hj (heldOf p8 [.int .i64] [.int .i64 x9]) (hj (heldOf p4 [.slice 9] [.sl 9 x5]) [])))
                        (cond ((r10.1 : Int) != x9)
                        (some (.bool false, r10.2))
                        (L5_1 n m s3 s4 s5 (IntKind.wrap .i64 (s7 - 1)) r10.2))
                        none))))))
                  none)))))))
    ((callD (vF P tab n) P false (.one (.flat (.int .i64))) 26 [.ptr s3] h).bind fun r11 =>
      (some (.bool ((r11.1 : Int) == 0), r11.2)))) := by kernel_rfl
theorem f5_eq (n : Nat) (a0 : VS) (h : VH) : bodyV P tab (vF P tab n) n 5 [.sl 29 a0] h =
  ((callD (vF P tab n) P false (.one (.flat .bool)) 9 [] h).bind fun r1 =>
    (cond (!r1.1)
      ((callD (vF P tab n) P false (.one (.flat .bool)) 9 [] r1.2).bind fun r2 =>
        (some (.bool r2.1, r2.2)))
      (cond (decide ((((VS.len a0 : Nat) : Int) : Int) > 30))
        ((callD (vF P tab n) P false (.one (.flat .bool)) 9 [] r1.2).bind fun r3 =>
          (some (.bool r3.1, r3.2)))
        ((callD (vF P tab n) P false (.one (.flat .ptr)) 19 [] r1.2).bind fun r4 =>
          (L5_0 n n a0 r4.1 .nil .nil 0 r4.2))))) := by kernel_rfl
/-! godown/godownlaw09.RowsPlays -/
noncomputable def L6_0 (n m : Nat) (s0 : VS) (s1 : Bool) (s5 : VP) (s6 : Nat) (s7 : Int) (h : VH) : VRes := loopAt P tab 6 [1, 1, 1, 1, 0, 1, 0] n [] m [.sl 29 s0, .bool s1, .undef, .undef, .undef, .ptr s5, .ptr (.ob s6 0), .int .i64 s7, .undef, .undef, .undef, .undef, .undef, .undef, .undef, .undef, .undef, .undef, .undef, .undef, .undef, .undef, .undef, .undef, .undef, .undef, .undef, .undef, .undef, .undef, .undef, .undef, .undef, .undef, .undef, .undef, .undef, .undef, .undef, .undef, .undef, .undef, .undef, .undef, .undef, .undef, .undef, .undef, .undef, .undef, .undef, .undef, .undef, .undef, .undef, .undef, .undef, .undef, .undef, .undef, .undef, .undef, .undef, .undef, .undef, .undef, .undef, .undef, .undef, .undef, .undef, .undef, .undef, .undef, .undef, .undef, .undef, .undef, .undef, .undef, .undef, .undef, .undef, .undef, .undef, .undef, .undef, .undef, .undef, .undef, .undef, .undef, .undef, .undef, .undef, .undef, .undef, .undef, .undef, .undef, .undef, .undef, .undef, .undef, .undef, .undef, .undef, .undef, .undef, .undef, .undef, .undef, .undef, .undef, .undef, .undef, .undef, .undef, .undef, .undef, .undef, .undef, .undef, .undef, .undef, .undef, .undef, .undef, .undef, .undef, .undef, .undef, .undef, .undef, .undef, .undef, .undef, .undef, .undef, .undef, .undef, .undef] h
theorem L6_0_eq (n m : Nat) (s0 : VS) (s1 : Bool) (s5 : VP) (s6 : Nat) (s7 : Int) (h : VH) : L6_0 n (m + 1) s0 s1 s5 s6 s7 h =
  (cond (decide ((s7 : Int) < ((VS.len s0 : Nat) : Int)))
    ((ixV 3 s0 s7).bind fun p1 =>
      ((ldV (.agg [.int .u8, .str, .int .i64]) h p1).bind fun x2 =>
        ((callD (vF P tab n) P false (.one (.flat .str)) 12 [.agg [.int .u8 x2.1, .str x2.2.1, .int .i64 x2.2.2.1], .bool s1] h).bind fun r3 =>
          ((ixV 3 s0 s7).bind fun p4 =>
            ((atO p4 0).bind fun p5 =>
              ((ldV (.flat (.int .u8)) r3.2 p5).bind fun x6 =>
                ((remI x6 8).bind fun x7 =>
                  (cond ((x7 : Int) == 0)
                    ((ixV 3 s0 s7).bind fun p8 =>
                      ((atO p8 2).bind fun p9 =>
                        ((ldV (.flat (.int .i64)) r3.2 p9).bind fun x10 =>
                        ((callD (vF P tab n) P false (.tup []) 20 [.ptr s5, .str r3.1, .int .i64 x10] r3.2).bind fun r11 =>
                        ((ldV (.agg [.slice 83, .slice 47]) r11.2 (.ob s6 0)).bind fun x12 =>
                        ((ixV 3 s0 s7).bind fun p13 =>
                        ((atO p13 2).bind fun p14 =>
                        ((ldV (.flat (.int .i64)) r11.2 p14).bind fun x15 =>
                        ((callD (vF P tab n) P false (.one (.agg [.slice 83, .slice 47])) 27 [.agg [.sl 83 x12.1, .sl 47 x12.2.1], .str r3.1, .int .i64 x15] r11.2).bind fun r16 =>
                        ((stV r16.2 (.ob s6 0) [.sl 83 r16.1.1, .sl 47 r16.1.2.1]).bind fun h17 =>
                        ((callD (vF P tab n) P false (.tup [(.flat (.int .i64)), (.flat .bool)]) 31 [.ptr s5, .str r3.1] h17).bind fun r18 =>
                        ((ldV (.agg [.slice 83, .slice 47]) r18.2 (.ob s6 0)).bind fun x19 =>
                        ((callD (vF P tab n) P false (.tup [(.flat (.int .i64)), (.flat .bool)]) 32 [.agg [.sl 83 x19.1, .sl 47 x19.2.1], .str r3.1] r18.2).bind fun r20 =>
                        (cond ((r18.1.1 : Int) != r20.1.1)
                        (some (.bool false, r20.2))
                        (cond (!(r18.1.2.1 == r20.1.2.1))
                        (some (.bool false, r20.2))
                        ((ldV (.flat (.slice 83)) r20.2 (.ob s6 0)).bind fun x21 =>
                        ((callD (vF P tab n) P false (.one (.flat (.int .i64))) 26 [.ptr s5] r20.2).bind fun r22 =>
                        (cond (V.stays r22.2 [(.ob s6 0, .slice 83, .sl 83 x21)])
                        (cond ((r22.1 : Int) != ((VS.len x21 : Nat) : Int))
                        (some (.bool false, r22.2))
                        ((ldV (.flat (.slice 47)) r22.2 (.ob s6 1)).bind fun x23 =>
                        ((callD (vF P tab n) P false (.one (.flat (.int .i64))) 23 [.ptr s5] r22.2).bind fun r24 =>
                        (cond (V.stays r24.2 [(.ob s6 1, .slice 47, .sl 47 x23), (.ob s6 0, .slice 83, .sl 83 x21)])
                        (cond ((r24.1 : Int) != ((VS.len x23 : Nat) : Int))
                        (some (.bool false, r24.2))
                        ((ldV (.agg [.slice 83, .slice 47]) r24.2 (.ob s6 0)).bind fun x25 =>
                        ((callD (vF P tab n) P false (.one (.flat (.slice 9))) 21 [.ptr s5] r24.2).bind fun r26 =>
                        (cond (V.stays r26.2 [(.ob s6 0, .slice 83, .sl 83 x25.1), (.ob s6 1, .slice 47, .sl 47 x25.2.1), (.ob s6 1, .slice 47, .sl 47 x23), (.ob s6 0, .slice 83, .sl 83 x21)])
                        ((callD (vF P tab n) P false (.one (.flat (.slice 9))) 33 [.agg [.sl 83 x25.1, .sl 47 x25.2.1]] r26.2).bind fun r27 =>
                        (cond (V.stays r27.2 [(.ob s6 1, .slice 47, .sl 47 x23), (.ob s6 0, .slice 83, .sl 83 x21)])
                        ((callD (vF P tab n) P false (.one (.flat .bool)) 18 [.sl 9 r26.1, .sl 9 r27.1] r27.2).bind fun r28 =>
                        (cond (V.stays r28.2 [(.ob s6 0, .slice 83, .sl 83 x25.1), (.ob s6 1, .slice 47, .sl 47 x25.2.1), (.ob s6 1, .slice 47, .sl 47 x23), (.ob s6 0, .slice 83, .sl 83 x21)])
                        (cond (!r28.1)
                        (some (.bool false, r28.2))
                        (L6_0 n m s0 s1 s5 s6 (IntKind.wrap .i64 (s7 + 1)) r28.2))
                        none))
                        none))
                        none))))
                        none))))
                        none))))))))))))))))))
                    (cond ((x7 : Int) == 1)
                      ((ixV 3 s0 s7).bind fun p29 =>
                        ((atO p29 2).bind fun p30 =>
                        ((ldV (.flat (.int .i64)) r3.2 p30).bind fun x31 =>
                        ((callD (vF P tab n) P false (.tup []) 20 [.ptr s5, .str r3.1, .int .i64 x31] r3.2).bind fun r32 =>
                        ((ldV (.agg [.slice 83, .slice 47]) r32.2 (.ob s6 0)).bind fun x33 =>
                        ((ixV 3 s0 s7).bind fun p34 =>
                        ((atO p34 2).bind fun p35 =>
                        ((ldV (.flat (.int .i64)) r32.2 p35).bind fun x36 =>
                        ((callD (vF P tab n) P false (.one (.agg [.slice 83, .slice 47])) 27 [.agg [.sl 83 x33.1, .sl 47 x33.2.1], .str r3.1, .int .i64 x36] r32.2).bind fun r37 =>
                        ((stV r37.2 (.ob s6 0) [.sl 83 r37.1.1, .sl 47 r37.1.2.1]).bind fun h38 =>
                        ((callD (vF P tab n) P false (.tup [(.flat (.int .i64)), (.flat .bool)]) 31 [.ptr s5, .str r3.1] h38).bind fun r39 =>
                        ((ldV (.agg [.slice 83, .slice 47]) r39.2 (.ob s6 0)).bind fun x40 =>
                        ((callD (vF P tab n) P false (.tup [(.flat (.int .i64)), (.flat .bool)]) 32 [.agg [.sl 83 x40.1, .sl 47 x40.2.1], .str r3.1] r39.2).bind fun r41 =>
                        (cond ((r39.1.1 : Int) != r41.1.1)
                        (some (.bool false, r41.2))
                        (cond (!(r39.1.2.1 == r41.1.2.1))
                        (some (.bool false, r41.2))
                        ((ldV (.flat (.slice 83)) r41.2 (.ob s6 0)).bind fun x42 =>
                        ((callD (vF P tab n) P false (.one (.flat (.int .i64))) 26 [.ptr s5] r41.2).bind fun r43 =>
                        (cond (V.stays r43.2 [(.ob s6 0, .slice 83, .sl 83 x42)])
                        (cond ((r43.1 : Int) != ((VS.len x42 : Nat) : Int))
                        (some (.bool false, r43.2))
                        ((ldV (.flat (.slice 47)) r43.2 (.ob s6 1)).bind fun x44 =>
                        ((callD (vF P tab n) P false (.one (.flat (.int .i64))) 23 [.ptr s5] r43.2).bind fun r45 =>
                        (cond (V.stays r45.2 [(.ob s6 1, .slice 47, .sl 47 x44), (.ob s6 0, .slice 83, .sl 83 x42)])
                        (cond ((r45.1 : Int) != ((VS.len x44 : Nat) : Int))
                        (some (.bool false, r45.2))
                        ((ldV (.agg [.slice 83, .slice 47]) r45.2 (.ob s6 0)).bind fun x46 =>
                        ((callD (vF P tab n) P false (.one (.flat (.slice 9))) 21 [.ptr s5] r45.2).bind fun r47 =>
                        (cond (V.stays r47.2 [(.ob s6 0, .slice 83, .sl 83 x46.1), (.ob s6 1, .slice 47, .sl 47 x46.2.1), (.ob s6 1, .slice 47, .sl 47 x44), (.ob s6 0, .slice 83, .sl 83 x42)])
                        ((callD (vF P tab n) P false (.one (.flat (.slice 9))) 33 [.agg [.sl 83 x46.1, .sl 47 x46.2.1]] r47.2).bind fun r48 =>
                        (cond (V.stays r48.2 [(.ob s6 1, .slice 47, .sl 47 x44), (.ob s6 0, .slice 83, .sl 83 x42)])
                        ((callD (vF P tab n) P false (.one (.flat .bool)) 18 [.sl 9 r47.1, .sl 9 r48.1] r48.2).bind fun r49 =>
                        (cond (V.stays r49.2 [(.ob s6 0, .slice 83, .sl 83 x46.1), (.ob s6 1, .slice 47, .sl 47 x46.2.1), (.ob s6 1, .slice 47, .sl 47 x44), (.ob s6 0, .slice 83, .sl 83 x42)])
                        (cond (!r49.1)
                        (some (.bool false, r49.2))
                        (L6_0 n m s0 s1 s5 s6 (IntKind.wrap .i64 (s7 + 1)) r49.2))
                        none))
                        none))
                        none))))
                        none))))
                        none))))))))))))))))))
                      (cond ((x7 : Int) == 2)
                        ((ixV 3 s0 s7).bind fun p50 =>
                        ((atO p50 2).bind fun p51 =>
                        ((ldV (.flat (.int .i64)) r3.2 p51).bind fun x52 =>
                        ((callD (vF P tab n) P false (.tup []) 20 [.ptr s5, .str r3.1, .int .i64 x52] r3.2).bind fun r53 =>
                        ((ldV (.agg [.slice 83, .slice 47]) r53.2 (.ob s6 0)).bind fun x54 =>
                        ((ixV 3 s0 s7).bind fun p55 =>
                        ((atO p55 2).bind fun p56 =>
                        ((ldV (.flat (.int .i64)) r53.2 p56).bind fun x57 =>
                        ((callD (vF P tab n) P false (.one (.agg [.slice 83, .slice 47])) 27 [.agg [.sl 83 x54.1, .sl 47 x54.2.1], .str r3.1, .int .i64 x57] r53.2).bind fun r58 =>
                        ((stV r58.2 (.ob s6 0) [.sl 83 r58.1.1, .sl 47 r58.1.2.1]).bind fun h59 =>
                        ((callD (vF P tab n) P false (.tup [(.flat (.int .i64)), (.flat .bool)]) 31 [.ptr s5, .str r3.1] h59).bind fun r60 =>
                        ((ldV (.agg [.slice 83, .slice 47]) r60.2 (.ob s6 0)).bind fun x61 =>
                        ((callD (vF P tab n) P false (.tup [(.flat (.int .i64)), (.flat .bool)]) 32 [.agg [.sl 83 x61.1, .sl 47 x61.2.1], .str r3.1] r60.2).bind fun r62 =>
                        (cond ((r60.1.1 : Int) != r62.1.1)
                        (some (.bool false, r62.2))
                        (cond (!(r60.1.2.1 == r62.1.2.1))
                        (some (.bool false, r62.2))
                        ((ldV (.flat (.slice 83)) r62.2 (.ob s6 0)).bind fun x63 =>
                        ((callD (vF P tab n) P false (.one (.flat (.int .i64))) 26 [.ptr s5] r62.2).bind fun r64 =>
                        (cond (V.stays r64.2 [(.ob s6 0, .slice 83, .sl 83 x63)])
                        (cond ((r64.1 : Int) != ((VS.len x63 : Nat) : Int))
                        (some (.bool false, r64.2))
                        ((ldV (.flat (.slice 47)) r64.2 (.ob s6 1)).bind fun x65 =>
                        ((callD (vF P tab n) P false (.one (.flat (.int .i64))) 23 [.ptr s5] r64.2).bind fun r66 =>
                        (cond (V.stays r66.2 [(.ob s6 1, .slice 47, .sl 47 x65), (.ob s6 0, .slice 83, .sl 83 x63)])
                        (cond ((r66.1 : Int) != ((VS.len x65 : Nat) : Int))
                        (some (.bool false, r66.2))
                        ((ldV (.agg [.slice 83, .slice 47]) r66.2 (.ob s6 0)).bind fun x67 =>
                        ((callD (vF P tab n) P false (.one (.flat (.slice 9))) 21 [.ptr s5] r66.2).bind fun r68 =>
                        (cond (V.stays r68.2 [(.ob s6 0, .slice 83, .sl 83 x67.1), (.ob s6 1, .slice 47, .sl 47 x67.2.1), (.ob s6 1, .slice 47, .sl 47 x65), (.ob s6 0, .slice 83, .sl 83 x63)])
                        ((callD (vF P tab n) P false (.one (.flat (.slice 9))) 33 [.agg [.sl 83 x67.1, .sl 47 x67.2.1]] r68.2).bind fun r69 =>
                        (cond (V.stays r69.2 [(.ob s6 1, .slice 47, .sl 47 x65), (.ob s6 0, .slice 83, .sl 83 x63)])
                        ((callD (vF P tab n) P false (.one (.flat .bool)) 18 [.sl 9 r68.1, .sl 9 r69.1] r69.2).bind fun r70 =>
                        (cond (V.stays r70.2 [(.ob s6 0, .slice 83, .sl 83 x67.1), (.ob s6 1, .slice 47, .sl 47 x67.2.1), (.ob s6 1, .slice 47, .sl 47 x65), (.ob s6 0, .slice 83, .sl 83 x63)])
                        (cond (!r70.1)
                        (some (.bool false, r70.2))
                        (L6_0 n m s0 s1 s5 s6 (IntKind.wrap .i64 (s7 + 1)) r70.2))
                        none))
                        none))
                        none))))
                        none))))
                        none))))))))))))))))))
                        (cond ((x7 : Int) == 3)
                        ((ixV 3 s0 s7).bind fun p71 =>
                        ((atO p71 2).bind fun p72 =>
                        ((ldV (.flat (.int .i64)) r3.2 p72).bind fun x73 =>
                        ((callD (vF P tab n) P false (.tup []) 20 [.ptr s5, .str r3.1, .int .i64 x73] r3.2).bind fun r74 =>
                        ((ldV (.agg [.slice 83, .slice 47]) r74.2 (.ob s6 0)).bind fun x75 =>
                        ((ixV 3 s0 s7).bind fun p76 =>
                        ((atO p76 2).bind fun p77 =>
                        ((ldV (.flat (.int .i64)) r74.2 p77).bind fun x78 =>
                        ((callD (vF P tab n) P false (.one (.agg [.slice 83, .slice 47])) 27 [.agg [.sl 83 x75.1, .sl 47 x75.2.1], .str r3.1, .int .i64 x78] r74.2).bind fun r79 =>
                        ((stV r79.2 (.ob s6 0) [.sl 83 r79.1.1, .sl 47 r79.1.2.1]).bind fun h80 =>
                        ((callD (vF P tab n) P false (.tup [(.flat (.int .i64)), (.flat .bool)]) 31 [.ptr s5, .str r3.1] h80).bind fun r81 =>
                        ((ldV (.agg [.slice 83, .slice 47]) r81.2 (.ob s6 0)).bind fun x82 =>
                        ((callD (vF P tab n) P false (.tup [(.flat (.int .i64)), (.flat .bool)]) 32 [.agg [.sl 83 x82.1, .sl 47 x82.2.1], .str r3.1] r81.2).bind fun r83 =>
                        (cond ((r81.1.1 : Int) != r83.1.1)
                        (some (.bool false, r83.2))
                        (cond (!(r81.1.2.1 == r83.1.2.1))
                        (some (.bool false, r83.2))
                        ((ldV (.flat (.slice 83)) r83.2 (.ob s6 0)).bind fun x84 =>
                        ((callD (vF P tab n) P false (.one (.flat (.int .i64))) 26 [.ptr s5] r83.2).bind fun r85 =>
                        (cond (V.stays r85.2 [(.ob s6 0, .slice 83, .sl 83 x84)])
                        (cond ((r85.1 : Int) != ((VS.len x84 : Nat) : Int))
                        (some (.bool false, r85.2))
                        ((ldV (.flat (.slice 47)) r85.2 (.ob s6 1)).bind fun x86 =>
                        ((callD (vF P tab n) P false (.one (.flat (.int .i64))) 23 [.ptr s5] r85.2).bind fun r87 =>
                        (cond (V.stays r87.2 [(.ob s6 1, .slice 47, .sl 47 x86), (.ob s6 0, .slice 83, .sl 83 x84)])
                        (cond ((r87.1 : Int) != ((VS.len x86 : Nat) : Int))
                        (some (.bool false, r87.2))
                        ((ldV (.agg [.slice 83, .slice 47]) r87.2 (.ob s6 0)).bind fun x88 =>
                        ((callD (vF P tab n) P false (.one (.flat (.slice 9))) 21 [.ptr s5] r87.2).bind fun r89 =>
                        (cond (V.stays r89.2 [(.ob s6 0, .slice 83, .sl 83 x88.1), (.ob s6 1, .slice 47, .sl 47 x88.2.1), (.ob s6 1, .slice 47, .sl 47 x86), (.ob s6 0, .slice 83, .sl 83 x84)])
                        ((callD (vF P tab n) P false (.one (.flat (.slice 9))) 33 [.agg [.sl 83 x88.1, .sl 47 x88.2.1]] r89.2).bind fun r90 =>
                        (cond (V.stays r90.2 [(.ob s6 1, .slice 47, .sl 47 x86), (.ob s6 0, .slice 83, .sl 83 x84)])
                        ((callD (vF P tab n) P false (.one (.flat .bool)) 18 [.sl 9 r89.1, .sl 9 r90.1] r90.2).bind fun r91 =>
                        (cond (V.stays r91.2 [(.ob s6 0, .slice 83, .sl 83 x88.1), (.ob s6 1, .slice 47, .sl 47 x88.2.1), (.ob s6 1, .slice 47, .sl 47 x86), (.ob s6 0, .slice 83, .sl 83 x84)])
                        (cond (!r91.1)
                        (some (.bool false, r91.2))
                        (L6_0 n m s0 s1 s5 s6 (IntKind.wrap .i64 (s7 + 1)) r91.2))
                        none))
                        none))
                        none))))
                        none))))
                        none))))))))))))))))))
                        (cond ((x7 : Int) == 4)
                        ((ldV (.agg [.slice 83, .slice 47]) r3.2 (.ob s6 0)).bind fun x92 =>
                        ((callD (vF P tab n) P false (.tup [(.agg [.slice 83, .slice 47]), (.flat .bool)]) 28 [.agg [.sl 83 x92.1, .sl 47 x92.2.1], .str r3.1] r3.2).bind fun r93 =>
                        ((stV (r93.2 ++ [.row (50 + boxK) [.sl 83 .nil, .sl 47 .nil]]) (.ob r93.2.length 0) [.sl 83 r93.1.1.1, .sl 47 r93.1.1.2.1]).bind fun h94 =>
                        ((ldV (.agg [.slice 83, .slice 47]) h94 (.ob r93.2.length 0)).bind fun x95 =>
                        ((stV h94 (.ob s6 0) [.sl 83 x95.1, .sl 47 x95.2.1]).bind fun h96 =>
                        ((callD (vF P tab n) P false (.one (.flat .bool)) 24 [.ptr s5, .str r3.1] h96).bind fun r97 =>
                        (cond (!(r97.1 == r93.1.2.1))
                        (some (.bool false, r97.2))
                        ((callD (vF P tab n) P false (.tup [(.flat (.int .i64)), (.flat .bool)]) 31 [.ptr s5, .str r3.1] r97.2).bind fun r98 =>
                        ((ldV (.agg [.slice 83, .slice 47]) r98.2 (.ob s6 0)).bind fun x99 =>
                        ((callD (vF P tab n) P false (.tup [(.flat (.int .i64)), (.flat .bool)]) 32 [.agg [.sl 83 x99.1, .sl 47 x99.2.1], .str r3.1] r98.2).bind fun r100 =>
                        (cond ((r98.1.1 : Int) != r100.1.1)
                        (some (.bool false, r100.2))
                        (cond (!(r98.1.2.1 == r100.1.2.1))
                        (some (.bool false, r100.2))
                        ((ldV (.flat (.slice 83)) r100.2 (.ob s6 0)).bind fun x101 =>
                        ((callD (vF P tab n) P false (.one (.flat (.int .i64))) 26 [.ptr s5] r100.2).bind fun r102 =>
                        (cond (V.stays r102.2 [(.ob s6 0, .slice 83, .sl 83 x101)])
                        (cond ((r102.1 : Int) != ((VS.len x101 : Nat) : Int))
                        (some (.bool false, r102.2))
                        ((ldV (.flat (.slice 47)) r102.2 (.ob s6 1)).bind fun x103 =>
                        ((callD (vF P tab n) P false (.one (.flat (.int .i64))) 23 [.ptr s5] r102.2).bind fun r104 =>
                        (cond (V.stays r104.2 [(.ob s6 1, .slice 47, .sl 47 x103), (.ob s6 0, .slice 83, .sl 83 x101)])
                        (cond ((r104.1 : Int) != ((VS.len x103 : Nat) : Int))
                        (some (.bool false, r104.2))
                        ((ldV (.agg [.slice 83, .slice 47]) r104.2 (.ob s6 0)).bind fun x105 =>
                        ((callD (vF P tab n) P false (.one (.flat (.slice 9))) 21 [.ptr s5] r104.2).bind fun r106 =>
                        (cond (V.stays r106.2 [(.ob s6 0, .slice 83, .sl 83 x105.1), (.ob s6 1, .slice 47, .sl 47 x105.2.1), (.ob s6 1, .slice 47, .sl 47 x103), (.ob s6 0, .slice 83, .sl 83 x101)])
                        ((callD (vF P tab n) P false (.one (.flat (.slice 9))) 33 [.agg [.sl 83 x105.1, .sl 47 x105.2.1]] r106.2).bind fun r107 =>
                        (cond (V.stays r107.2 [(.ob s6 1, .slice 47, .sl 47 x103), (.ob s6 0, .slice 83, .sl 83 x101)])
                        ((callD (vF P tab n) P false (.one (.flat .bool)) 18 [.sl 9 r106.1, .sl 9 r107.1] r107.2).bind fun r108 =>
                        (cond (V.stays r108.2 [(.ob s6 0, .slice 83, .sl 83 x105.1), (.ob s6 1, .slice 47, .sl 47 x105.2.1), (.ob s6 1, .slice 47, .sl 47 x103), (.ob s6 0, .slice 83, .sl 83 x101)])
                        (cond (!r108.1)
                        (some (.bool false, r108.2))
                        (L6_0 n m s0 s1 s5 s6 (IntKind.wrap .i64 (s7 + 1)) r108.2))
                        none))
                        none))
                        none))))
                        none))))
                        none)))))))))))))))
                        (cond ((x7 : Int) == 5)
                        ((ldV (.agg [.slice 83, .slice 47]) r3.2 (.ob s6 0)).bind fun x109 =>
                        ((callD (vF P tab n) P false (.tup [(.agg [.slice 83, .slice 47]), (.flat .bool)]) 28 [.agg [.sl 83 x109.1, .sl 47 x109.2.1], .str r3.1] r3.2).bind fun r110 =>
                        ((stV (r110.2 ++ [.row (50 + boxK) [.sl 83 .nil, .sl 47 .nil]]) (.ob r110.2.length 0) [.sl 83 r110.1.1.1, .sl 47 r110.1.1.2.1]).bind fun h111 =>
                        ((ldV (.agg [.slice 83, .slice 47]) h111 (.ob r110.2.length 0)).bind fun x112 =>
                        ((stV h111 (.ob s6 0) [.sl 83 x112.1, .sl 47 x112.2.1]).bind fun h113 =>
                        ((callD (vF P tab n) P false (.one (.flat .bool)) 24 [.ptr s5, .str r3.1] h113).bind fun r114 =>
                        (cond (!(r114.1 == r110.1.2.1))
                        (some (.bool false, r114.2))
                        ((callD (vF P tab n) P false (.tup [(.flat (.int .i64)), (.flat .bool)]) 31 [.ptr s5, .str r3.1] r114.2).bind fun r115 =>
                        ((ldV (.agg [.slice 83, .slice 47]) r115.2 (.ob s6 0)).bind fun x116 =>
                        ((callD (vF P tab n) P false (.tup [(.flat (.int .i64)), (.flat .bool)]) 32 [.agg [.sl 83 x116.1, .sl 47 x116.2.1], .str r3.1] r115.2).bind fun r117 =>
                        (cond ((r115.1.1 : Int) != r117.1.1)
                        (some (.bool false, r117.2))
                        (cond (!(r115.1.2.1 == r117.1.2.1))
                        (some (.bool false, r117.2))
                        ((ldV (.flat (.slice 83)) r117.2 (.ob s6 0)).bind fun x118 =>
                        ((callD (vF P tab n) P false (.one (.flat (.int .i64))) 26 [.ptr s5] r117.2).bind fun r119 =>
                        (cond (V.stays r119.2 [(.ob s6 0, .slice 83, .sl 83 x118)])
                        (cond ((r119.1 : Int) != ((VS.len x118 : Nat) : Int))
                        (some (.bool false, r119.2))
                        ((ldV (.flat (.slice 47)) r119.2 (.ob s6 1)).bind fun x120 =>
                        ((callD (vF P tab n) P false (.one (.flat (.int .i64))) 23 [.ptr s5] r119.2).bind fun r121 =>
                        (cond (V.stays r121.2 [(.ob s6 1, .slice 47, .sl 47 x120), (.ob s6 0, .slice 83, .sl 83 x118)])
                        (cond ((r121.1 : Int) != ((VS.len x120 : Nat) : Int))
                        (some (.bool false, r121.2))
                        ((ldV (.agg [.slice 83, .slice 47]) r121.2 (.ob s6 0)).bind fun x122 =>
                        ((callD (vF P tab n) P false (.one (.flat (.slice 9))) 21 [.ptr s5] r121.2).bind fun r123 =>
                        (cond (V.stays r123.2 [(.ob s6 0, .slice 83, .sl 83 x122.1), (.ob s6 1, .slice 47, .sl 47 x122.2.1), (.ob s6 1, .slice 47, .sl 47 x120), (.ob s6 0, .slice 83, .sl 83 x118)])
                        ((callD (vF P tab n) P false (.one (.flat (.slice 9))) 33 [.agg [.sl 83 x122.1, .sl 47 x122.2.1]] r123.2).bind fun r124 =>
                        (cond (V.stays r124.2 [(.ob s6 1, .slice 47, .sl 47 x120), (.ob s6 0, .slice 83, .sl 83 x118)])
                        ((callD (vF P tab n) P false (.one (.flat .bool)) 18 [.sl 9 r123.1, .sl 9 r124.1] r124.2).bind fun r125 =>
                        (cond (V.stays r125.2 [(.ob s6 0, .slice 83, .sl 83 x122.1), (.ob s6 1, .slice 47, .sl 47 x122.2.1), (.ob s6 1, .slice 47, .sl 47 x120), (.ob s6 0, .slice 83, .sl 83 x118)])
                        (cond (!r125.1)
                        (some (.bool false, r125.2))
                        (L6_0 n m s0 s1 s5 s6 (IntKind.wrap .i64 (s7 + 1)) r125.2))
                        none))
                        none))
                        none))))
                        none))))
                        none)))))))))))))))
                        (cond ((x7 : Int) == 6)
                        ((ixV 3 s0 s7).bind fun p126 =>
                        ((atO p126 2).bind fun p127 =>
                        ((ldV (.flat (.int .i64)) r3.2 p127).bind fun x128 =>
                        (cond s1
                        ((remI x128 8).bind fun x129 =>
                        ((callD (vF P tab n) P false (.tup []) 25 [.ptr s5, .int .i64 x129] r3.2).bind fun r130 =>
                        ((ldV (.agg [.slice 83, .slice 47]) r130.2 (.ob s6 0)).bind fun x131 =>
                        ((callD (vF P tab n) P false (.one (.agg [.slice 83, .slice 47])) 29 [.agg [.sl 83 x131.1, .sl 47 x131.2.1], .int .i64 x129] r130.2).bind fun r132 =>
                        ((stV r132.2 (.ob s6 0) [.sl 83 r132.1.1, .sl 47 r132.1.2.1]).bind fun h133 =>
                        ((callD (vF P tab n) P false (.tup [(.flat (.int .i64)), (.flat .bool)]) 31 [.ptr s5, .str r3.1] h133).bind fun r134 =>
                        ((ldV (.agg [.slice 83, .slice 47]) r134.2 (.ob s6 0)).bind fun x135 =>
                        ((callD (vF P tab n) P false (.tup [(.flat (.int .i64)), (.flat .bool)]) 32 [.agg [.sl 83 x135.1, .sl 47 x135.2.1], .str r3.1] r134.2).bind fun r136 =>
                        (cond ((r134.1.1 : Int) != r136.1.1)
                        (some (.bool false, r136.2))
                        (cond (!(r134.1.2.1 == r136.1.2.1))
                        (some (.bool false, r136.2))
                        ((ldV (.flat (.slice 83)) r136.2 (.ob s6 0)).bind fun x137 =>
                        ((callD (vF P tab n) P false (.one (.flat (.int .i64))) 26 [.ptr s5] r136.2).bind fun r138 =>
                        (cond (V.stays r138.2 [(.ob s6 0, .slice 83, .sl 83 x137)])
                        (cond ((r138.1 : Int) != ((VS.len x137 : Nat) : Int))
                        (some (.bool false, r138.2))
                        ((ldV (.flat (.slice 47)) r138.2 (.ob s6 1)).bind fun x139 =>
                        ((callD (vF P tab n) P false (.one (.flat (.int .i64))) 23 [.ptr s5] r138.2).bind fun r140 =>
                        (cond (V.stays r140.2 [(.ob s6 1, .slice 47, .sl 47 x139), (.ob s6 0, .slice 83, .sl 83 x137)])
                        (cond ((r140.1 : Int) != ((VS.len x139 : Nat) : Int))
                        (some (.bool false, r140.2))
                        ((ldV (.agg [.slice 83, .slice 47]) r140.2 (.ob s6 0)).bind fun x141 =>
                        ((callD (vF P tab n) P false (.one (.flat (.slice 9))) 21 [.ptr s5] r140.2).bind fun r142 =>
                        (cond (V.stays r142.2 [(.ob s6 0, .slice 83, .sl 83 x141.1), (.ob s6 1, .slice 47, .sl 47 x141.2.1), (.ob s6 1, .slice 47, .sl 47 x139), (.ob s6 0, .slice 83, .sl 83 x137)])
                        ((callD (vF P tab n) P false (.one (.flat (.slice 9))) 33 [.agg [.sl 83 x141.1, .sl 47 x141.2.1]] r142.2).bind fun r143 =>
                        (cond (V.stays r143.2 [(.ob s6 1, .slice 47, .sl 47 x139), (.ob s6 0, .slice 83, .sl 83 x137)])
                        ((callD (vF P tab n) P false (.one (.flat .bool)) 18 [.sl 9 r142.1, .sl 9 r143.1] r143.2).bind fun r144 =>
                        (cond (V.stays r144.2 [(.ob s6 0, .slice 83, .sl 83 x141.1), (.ob s6 1, .slice 47, .sl 47 x141.2.1), (.ob s6 1, .slice 47, .sl 47 x139), (.ob s6 0, .slice 83, .sl 83 x137)])
                        (cond (!r144.1)
                        (some (.bool false, r144.2))
                        (L6_0 n m s0 s1 s5 s6 (IntKind.wrap .i64 (s7 + 1)) r144.2))
                        none))
                        none))
                        none))))
                        none))))
                        none)))))))))))))
                        ((callD (vF P tab n) P false (.tup []) 25 [.ptr s5, .int .i64 x128] r3.2).bind fun r145 =>
                        ((ldV (.agg [.slice 83, .slice 47]) r145.2 (.ob s6 0)).bind fun x146 =>
                        ((callD (vF P tab n) P false (.one (.agg [.slice 83, .slice 47])) 29 [.agg [.sl 83 x146.1, .sl 47 x146.2.1], .int .i64 x128] r145.2).bind fun r147 =>
                        ((stV r147.2 (.ob s6 0) [.sl 83 r147.1.1, .sl 47 r147.1.2.1]).bind fun h148 =>
                        ((callD (vF P tab n) P false (.tup [(.flat (.int .i64)), (.flat .bool)]) 31 [.ptr s5, .str r3.1] h148).bind fun r149 =>
                        ((ldV (.agg [.slice 83, .slice 47]) r149.2 (.ob s6 0)).bind fun x150 =>
                        ((callD (vF P tab n) P false (.tup [(.flat (.int .i64)), (.flat .bool)]) 32 [.agg [.sl 83 x150.1, .sl 47 x150.2.1], .str r3.1] r149.2).bind fun r151 =>
                        (cond ((r149.1.1 : Int) != r151.1.1)
                        (some (.bool false, r151.2))
                        (cond (!(r149.1.2.1 == r151.1.2.1))
                        (some (.bool false, r151.2))
                        ((ldV (.flat (.slice 83)) r151.2 (.ob s6 0)).bind fun x152 =>
                        ((callD (vF P tab n) P false (.one (.flat (.int .i64))) 26 [.ptr s5] r151.2).bind fun r153 =>
                        (cond (V.stays r153.2 [(.ob s6 0, .slice 83, .sl 83 x152)])
                        (cond ((r153.1 : Int) != ((VS.len x152 : Nat) : Int))
                        (some (.bool false, r153.2))
                        ((ldV (.flat (.slice 47)) r153.2 (.ob s6 1)).bind fun x154 =>
                        ((callD (vF P tab n) P false (.one (.flat (.int .i64))) 23 [.ptr s5] r153.2).bind fun r155 =>
                        (cond (V.stays r155.2 [(.ob s6 1, .slice 47, .sl 47 x154), (.ob s6 0, .slice 83, .sl 83 x152)])
                        (cond ((r155.1 : Int) != ((VS.len x154 : Nat) : Int))
                        (some (.bool false, r155.2))
                        ((ldV (.agg [.slice 83, .slice 47]) r155.2 (.ob s6 0)).bind fun x156 =>
                        ((callD (vF P tab n) P false (.one (.flat (.slice 9))) 21 [.ptr s5] r155.2).bind fun r157 =>
                        (cond (V.stays r157.2 [(.ob s6 0, .slice 83, .sl 83 x156.1), (.ob s6 1, .slice 47, .sl 47 x156.2.1), (.ob s6 1, .slice 47, .sl 47 x154), (.ob s6 0, .slice 83, .sl 83 x152)])
                        ((callD (vF P tab n) P false (.one (.flat (.slice 9))) 33 [.agg [.sl 83 x156.1, .sl 47 x156.2.1]] r157.2).bind fun r158 =>
                        (cond (V.stays r158.2 [(.ob s6 1, .slice 47, .sl 47 x154), (.ob s6 0, .slice 83, .sl 83 x152)])
                        ((callD (vF P tab n) P false (.one (.flat .bool)) 18 [.sl 9 r157.1, .sl 9 r158.1] r158.2).bind fun r159 =>
                        (cond (V.stays r159.2 [(.ob s6 0, .slice 83, .sl 83 x156.1), (.ob s6 1, .slice 47, .sl 47 x156.2.1), (.ob s6 1, .slice 47, .sl 47 x154), (.ob s6 0, .slice 83, .sl 83 x152)])
                        (cond (!r159.1)
                        (some (.bool false, r159.2))
                        (L6_0 n m s0 s1 s5 s6 (IntKind.wrap .i64 (s7 + 1)) r159.2))
                        none))
                        none))
                        none))))
                        none))))
                        none))))))))))))))))
                        ((callD (vF P tab n) P false (.tup []) 30 [.ptr s5] r3.2).bind fun r160 =>
                        ((stV r160.2 (.ob s6 1) [.sl 47 .nil]).bind fun h161 =>
                        ((callD (vF P tab n) P false (.tup [(.flat (.int .i64)), (.flat .bool)]) 31 [.ptr s5, .str r3.1] h161).bind fun r162 =>
                        ((ldV (.agg [.slice 83, .slice 47]) r162.2 (.ob s6 0)).bind fun x163 =>
                        ((callD (vF P tab n) P false (.tup [(.flat (.int .i64)), (.flat .bool)]) 32 [.agg [.sl 83 x163.1, .sl 47 x163.2.1], .str r3.1] r162.2).bind fun r164 =>
                        (cond ((r162.1.1 : Int) != r164.1.1)
                        (some (.bool false, r164.2))
                        (cond (!(r162.1.2.1 == r164.1.2.1))
                        (some (.bool false, r164.2))
                        ((ldV (.flat (.slice 83)) r164.2 (.ob s6 0)).bind fun x165 =>
                        ((callD (vF P tab n) P false (.one (.flat (.int .i64))) 26 [.ptr s5] r164.2).bind fun r166 =>
                        (cond (V.stays r166.2 [(.ob s6 0, .slice 83, .sl 83 x165)])
                        (cond ((r166.1 : Int) != ((VS.len x165 : Nat) : Int))
                        (some (.bool false, r166.2))
                        ((ldV (.flat (.slice 47)) r166.2 (.ob s6 1)).bind fun x167 =>
                        ((callD (vF P tab n) P false (.one (.flat (.int .i64))) 23 [.ptr s5] r166.2).bind fun r168 =>
                        (cond (V.stays r168.2 [(.ob s6 1, .slice 47, .sl 47 x167), (.ob s6 0, .slice 83, .sl 83 x165)])
                        (cond ((r168.1 : Int) != ((VS.len x167 : Nat) : Int))
                        (some (.bool false, r168.2))
                        ((ldV (.agg [.slice 83, .slice 47]) r168.2 (.ob s6 0)).bind fun x169 =>
                        ((callD (vF P tab n) P false (.one (.flat (.slice 9))) 21 [.ptr s5] r168.2).bind fun r170 =>
                        (cond (V.stays r170.2 [(.ob s6 0, .slice 83, .sl 83 x169.1), (.ob s6 1, .slice 47, .sl 47 x169.2.1), (.ob s6 1, .slice 47, .sl 47 x167), (.ob s6 0, .slice 83, .sl 83 x165)])
                        ((callD (vF P tab n) P false (.one (.flat (.slice 9))) 33 [.agg [.sl 83 x169.1, .sl 47 x169.2.1]] r170.2).bind fun r171 =>
                        (cond (V.stays r171.2 [(.ob s6 1, .slice 47, .sl 47 x167), (.ob s6 0, .slice 83, .sl 83 x165)])
                        ((callD (vF P tab n) P false (.one (.flat .bool)) 18 [.sl 9 r170.1, .sl 9 r171.1] r171.2).bind fun r172 =>
                        (cond (V.stays r172.2 [(.ob s6 0, .slice 83, .sl 83 x169.1), (.ob s6 1, .slice 47, .sl 47 x169.2.1), (.ob s6 1, .slice 47, .sl 47 x167), (.ob s6 0, .slice 83, .sl 83 x165)])
                        (cond (!r172.1)
                        (some (.bool false, r172.2))
                        (L6_0 n m s0 s1 s5 s6 (IntKind.wrap .i64 (s7 + 1)) r172.2))
                        none))
                        none))
                        none))))
                        none))))
                        none))))))))))))))))))))))))
    (some (.bool true, h))) := by kernel_rfl
theorem f6_eq (n : Nat) (a0 : VS) (a1 : Bool) (h : VH) : bodyV P tab (vF P tab n) n 6 [.sl 29 a0, .bool a1] h =
  ((callD (vF P tab n) P false (.one (.flat .bool)) 9 [] h).bind fun r1 =>
    (cond (!r1.1)
      ((callD (vF P tab n) P false (.one (.flat .bool)) 9 [] r1.2).bind fun r2 =>
        (some (.bool r2.1, r2.2)))
      (cond (decide ((((VS.len a0 : Nat) : Int) : Int) > 100))
        ((callD (vF P tab n) P false (.one (.flat .bool)) 9 [] r1.2).bind fun r3 =>
          (some (.bool r3.1, r3.2)))
        ((callD (vF P tab n) P false (.one (.flat .ptr)) 19 [] r1.2).bind fun r4 =>
          (L6_0 n n a0 a1 r4.1 r4.2.length 0 (r4.2 ++ [.row (50 + boxK) [.sl 83 .nil, .sl 47 .nil]])))))) := by kernel_rfl
/-! godown/godownlaw09.RowsDone -/
noncomputable def L7_0 (n m : Nat) (s0 : VS) (s1 : Int) (s5 : VP) (s6 : Int) (h : VH) : VRes := loopAt P tab 7 [1, 1, 1, 0, 1, 0] n [] m [.sl 29 s0, .int .i64 s1, .undef, .undef, .undef, .ptr s5, .int .i64 s6, .undef, .undef, .undef, .undef, .undef, .undef, .undef, .undef, .undef, .undef, .undef, .undef, .undef, .undef, .undef, .undef, .undef, .undef, .undef, .undef, .undef, .undef, .undef, .undef, .undef, .undef, .undef, .undef, .undef, .undef, .undef, .undef, .undef, .undef, .undef, .undef, .undef, .undef, .undef, .undef, .undef, .undef, .undef, .undef, .undef, .undef, .undef, .undef, .undef, .undef, .undef, .undef, .undef] h
theorem L7_0_eq (n m : Nat) (s0 : VS) (s1 : Int) (s5 : VP) (s6 : Int) (h : VH) : L7_0 n (m + 1) s0 s1 s5 s6 h =
  (cond (decide ((s6 : Int) < ((VS.len s0 : Nat) : Int)))
    ((ixV 3 s0 s6).bind fun p1 =>
      ((ldV (.agg [.int .u8, .str, .int .i64]) h p1).bind fun x2 =>
        ((ixV 3 s0 s6).bind fun p3 =>
          ((atO p3 2).bind fun p4 =>
            ((ldV (.flat (.int .i64)) h p4).bind fun x5 =>
              ((callD (vF P tab n) P false (.one (.flat .str)) 12 [.agg [.int .u8 x2.1, .str x2.2.1, .int .i64 x2.2.2.1], .bool true] h).bind fun r6 =>
                (cond (V.stays r6.2 (hj (heldOf p4 [.int .i64] [.int .i64 x5]) []))
                  ((callD (vF P tab n) P false (.tup []) 20 [.ptr s5, .str r6.1, .int .i64 x5] r6.2).bind fun r7 =>
                    (cond (V.stays r7.2 (hj (heldOf p1 [.int .u8, .str, .int .i64] [.int .u8 x2.1, .str x2.2.1, .int .i64 x2.2.2.1]) []))
                      (L7_0 n m s0 s1 s5 (IntKind.wrap .i64 (s6 + 1)) r7.2)
                      none))
                  none)))))))
    ((callD (vF P tab n) P false (.one (.flat (.slice 9))) 21 [.ptr s5] h).bind fun r8 =>
      ((callD (vF P tab n) P false (.tup []) 30 [.ptr s5] r8.2).bind fun r9 =>
        ((callD (vF P tab n) P false (.one (.flat (.int .i64))) 23 [.ptr s5] r9.2).bind fun r10 =>
          ((callD (vF P tab n) P false (.tup []) 25 [.ptr s5, .int .i64 s1] r10.2).bind fun r11 =>
            (cond ((r10.1 : Int) == 0)
              ((callD (vF P tab n) P false (.one (.flat (.slice 9))) 21 [.ptr s5] r11.2).bind fun r12 =>
                ((callD (vF P tab n) P false (.one (.flat .bool)) 18 [.sl 9 r12.1, .sl 9 r8.1] r12.2).bind fun r13 =>
                  (cond r13.1
                    ((callD (vF P tab n) P false (.one (.flat (.int .i64))) 26 [.ptr s5] r13.2).bind fun r14 =>
                      (some (.bool ((r14.1 : Int) == ((VS.len r8.1 : Nat) : Int)), r14.2)))
                    (some (.bool false, r13.2)))))
              (some (.bool false, r11.2)))))))) := by kernel_rfl
theorem f7_eq (n : Nat) (a0 : VS) (a1 : Int) (h : VH) : bodyV P tab (vF P tab n) n 7 [.sl 29 a0, .int .i64 a1] h =
  ((callD (vF P tab n) P false (.one (.flat .bool)) 9 [] h).bind fun r1 =>
    (cond (!r1.1)
      ((callD (vF P tab n) P false (.one (.flat .bool)) 9 [] r1.2).bind fun r2 =>
        (some (.bool r2.1, r2.2)))
      (cond (decide ((((VS.len a0 : Nat) : Int) : Int) > 40))
        ((callD (vF P tab n) P false (.one (.flat .bool)) 9 [] r1.2).bind fun r3 =>
          (some (.bool r3.1, r3.2)))
        ((callD (vF P tab n) P false (.one (.flat .ptr)) 19 [] r1.2).bind fun r4 =>
          (L7_0 n n a0 a1 r4.1 0 r4.2))))) := by kernel_rfl
/-! godown/godownlaw09.RowsNil -/
theorem f8_eq (n : Nat) (a0 : ByteArray) (a1 : Int) (h : VH) : bodyV P tab (vF P tab n) n 8 [.str a0, .int .i64 a1] h =
  ((callD (vF P tab n) P false (.tup []) 20 [.ptr .nil, .str a0, .int .i64 a1] h).bind fun r1 =>
    ((callD (vF P tab n) P false (.tup []) 25 [.ptr .nil, .int .i64 a1] r1.2).bind fun r2 =>
      ((callD (vF P tab n) P false (.tup []) 30 [.ptr .nil] r2.2).bind fun r3 =>
        ((callD (vF P tab n) P false (.tup [(.flat (.int .i64)), (.flat .bool)]) 31 [.ptr .nil, .str a0] r3.2).bind fun r4 =>
          ((callD (vF P tab n) P false (.one (.flat .bool)) 9 [] r4.2).bind fun r5 =>
            (cond r5.1
              (cond (!r4.1.2.1)
                ((callD (vF P tab n) P false (.one (.flat .bool)) 24 [.ptr .nil, .str a0] r5.2).bind fun r6 =>
                  (cond (!r6.1)
                    ((callD (vF P tab n) P false (.one (.flat (.slice 9))) 21 [.ptr .nil] r6.2).bind fun r7 =>
                      ((callD (vF P tab n) P false (.one (.flat (.int .i64))) 26 [.ptr .nil] r7.2).bind fun r8 =>
                        ((callD (vF P tab n) P false (.one (.flat (.int .i64))) 23 [.ptr .nil] r8.2).bind fun r9 =>
                        (some (.bool (((IntKind.wrap .i64 ((IntKind.wrap .i64 (((VS.len r7.1 : Nat) : Int) + r8.1)) + r9.1)) : Int) == 0), r9.2)))))
                    (some (.bool false, r6.2))))
                (some (.bool false, r5.2)))
              (some (.bool false, r5.2)))))))) := by kernel_rfl
/-! godown/godownlaw09.undone -/
theorem f9_eq (n : Nat)  (h : VH) : bodyV P tab (vF P tab n) n 9 [] h =
  ((callD (vF P tab n) P false (.one (.flat .ptr)) 19 [] h).bind fun r1 =>
    ((callD (vF P tab n) P false (.tup []) 20 [.ptr r1.1, .str ⟨#[97]⟩, .int .i64 1] r1.2).bind fun r2 =>
      ((callD (vF P tab n) P false (.one (.flat (.int .i64))) 23 [.ptr r1.1] r2.2).bind fun r3 =>
        ((callD (vF P tab n) P false (.tup []) 20 [.ptr r1.1, .str ⟨#[97]⟩, .int .i64 2] r3.2).bind fun r4 =>
          ((callD (vF P tab n) P false (.one (.flat .bool)) 24 [.ptr r1.1, .str ⟨#[97]⟩] r4.2).bind fun r5 =>
            ((callD (vF P tab n) P false (.tup []) 25 [.ptr r1.1, .int .i64 r3.1] r5.2).bind fun r6 =>
              ((callD (vF P tab n) P false (.tup [(.flat (.int .i64)), (.flat .bool)]) 31 [.ptr r1.1, .str ⟨#[97]⟩] r6.2).bind fun r7 =>
                (cond ((r3.1 : Int) == 1)
                  (cond ((r7.1.1 : Int) == 1)
                    (some (.bool r7.1.2.1, r7.2))
                    (some (.bool false, r7.2)))
                  (some (.bool false, r7.2)))))))))) := by kernel_rfl
/-! godown/rows.New[string] -/
theorem f10_eq (n : Nat)  (h : VH) : bodyV P tab (vF P tab n) n 10 [] h =
  (some (.ptr (.ob (List.length ((h ++ [.map .str []]) : VH)) 0), (List.append (α := VO) (h ++ [.map .str []]) [.row (65 + boxK) [.map (some h.length), .sl 72 .nil]]))) := by kernel_rfl
/-! (*godown/rows.Table[string]).Set -/
theorem f11_eq (n : Nat) (a0 : VP) (a1 : ByteArray) (a2 : ByteArray) (h : VH) : bodyV P tab (vF P tab n) n 11 [.ptr a0, .str a1, .str a2] h =
  (cond (!VP.isNil a0)
    ((callD (vF P tab n) P false (.one (.flat .bool)) 34 [.ptr a0, .str a1] h).bind fun r1 =>
      ((nn a0).bind fun p2 =>
        ((atO p2 0).bind fun p3 =>
          ((ldV (.flat .map) r1.2 p3).bind fun x4 =>
            ((V.putD r1.2 .str x4 (.str a1) (.str a2)).bind fun h5 =>
              (some (.tup [], h5)))))))
    (some (.tup [], h))) := by kernel_rfl
/-! godown/godownlaw09.key -/
theorem f12_eq (n : Nat) (a0_0 : Int) (a0_1 : ByteArray) (a0_2 : Int) (a1 : Bool) (h : VH) : bodyV P tab (vF P tab n) n 12 [.agg [.int .u8 a0_0, .str a0_1, .int .i64 a0_2], .bool a1] h =
  (cond a1
    ((ldV (.flat (.int .u8)) (h ++ [.row (29 + boxK) [.int .u8 a0_0, .str a0_1, .int .i64 a0_2]]) (.ob h.length 0)).bind fun x1 =>
      ((quoI .u8 x1 8).bind fun x2 =>
        ((remI x2 5).bind fun x3 =>
          ((strV (h ++ [.row (29 + boxK) [.int .u8 a0_0, .str a0_1, .int .i64 a0_2]]) 5 (.fz [[.int .u8 (IntKind.wrap .u8 (97 + x3))]] (.ex 1))).bind fun z4 =>
            (some (.str z4, (h ++ [.row (29 + boxK) [.int .u8 a0_0, .str a0_1, .int .i64 a0_2]])))))))
    ((ldV (.flat .str) (h ++ [.row (29 + boxK) [.int .u8 a0_0, .str a0_1, .int .i64 a0_2]]) (.ob h.length 1)).bind fun x5 =>
      (some (.str x5, (h ++ [.row (29 + boxK) [.int .u8 a0_0, .str a0_1, .int .i64 a0_2]]))))) := by kernel_rfl
/-! (*godown/rows.Table[string]).Keys -/
theorem f13_eq (n : Nat) (a0 : VP) (h : VH) : bodyV P tab (vF P tab n) n 13 [.ptr a0] h =
  (cond (VP.isNil a0)
    (some (.sl 9 .nil, h))
    ((nn a0).bind fun p1 =>
      ((atO p1 0).bind fun p2 =>
        ((ldV (.flat .map) h p2).bind fun x3 =>
          ((callD (vF P tab n) P false (.one (.flat .any)) 36 [.map x3] h).bind fun r4 =>
            ((callD (vF P tab n) P false (.one (.flat (.slice 9))) 35 [r4.1] r4.2).bind fun r5 =>
              (some (.sl 9 r5.1, r5.2)))))))) := by kernel_rfl
/-! (*godown/rows.Table[string]).Get -/
theorem f14_eq (n : Nat) (a0 : VP) (a1 : ByteArray) (h : VH) : bodyV P tab (vF P tab n) n 14 [.ptr a0, .str a1] h =
  (cond (VP.isNil a0)
    (some (.tup [.str ⟨#[]⟩, .bool false], h))
    ((nn a0).bind fun p1 =>
      ((atO p1 0).bind fun p2 =>
        ((ldV (.flat .map) h p2).bind fun x3 =>
          ((V.lookD P 9 (.flat .str) h .str x3 (.str a1)).bind fun x4 =>
            (some (.tup [.str x4.1, .bool x4.2], h))))))) := by kernel_rfl
/-! (*godown/rows.Table[string]).Mark -/
theorem f15_eq (n : Nat) (a0 : VP) (h : VH) : bodyV P tab (vF P tab n) n 15 [.ptr a0] h =
  (cond (VP.isNil a0)
    (some (.int .i64 0, h))
    ((nn a0).bind fun p1 =>
      ((atO p1 1).bind fun p2 =>
        ((ldV (.flat (.slice 72)) h p2).bind fun x3 =>
          (some (.int .i64 ((VS.len x3 : Nat) : Int), h)))))) := by kernel_rfl
/-! (*godown/rows.Table[string]).Drop -/
theorem f16_eq (n : Nat) (a0 : VP) (a1 : ByteArray) (h : VH) : bodyV P tab (vF P tab n) n 16 [.ptr a0, .str a1] h =
  ((callD (vF P tab n) P false (.tup [(.flat .str), (.flat .bool)]) 14 [.ptr a0, .str a1] h).bind fun r1 =>
    (cond (!r1.1.2.1)
      (some (.bool false, r1.2))
      ((callD (vF P tab n) P false (.one (.flat .bool)) 34 [.ptr a0, .str a1] r1.2).bind fun r2 =>
        ((nn a0).bind fun p3 =>
          ((atO p3 0).bind fun p4 =>
            ((ldV (.flat .map) r2.2 p4).bind fun x5 =>
              ((V.cutMD r2.2 .str x5 (.str a1)).bind fun h6 =>
                (some (.bool true, h6))))))))) := by kernel_rfl
/-! (*godown/rows.Table[string]).Undo -/
noncomputable def L17_0 (n m : Nat) (s0 : VP) (s1 : Int) (h : VH) : VRes := loopAt P tab 17 [0] n [] m [.ptr s0, .int .i64 s1, .undef, .undef, .undef, .undef, .undef, .undef, .undef, .undef, .undef, .undef, .undef, .undef, .undef, .undef, .undef, .undef, .undef, .undef, .undef, .undef, .undef, .undef, .undef, .undef, .undef, .undef, .undef, .undef, .undef, .undef, .undef, .undef, .undef, .undef, .undef, .undef, .undef, .undef, .undef, .undef, .undef, .undef, .undef, .undef, .undef, .undef, .undef] h
theorem L17_0_eq (n m : Nat) (s0 : VP) (s1 : Int) (h : VH) : L17_0 n (m + 1) s0 s1 h =
  ((callD (vF P tab n) P false (.one (.flat (.int .i64))) 15 [.ptr s0] h).bind fun r1 =>
    (cond (decide ((r1.1 : Int) > (if 0 > s1 then 0 else s1)))
      ((nn s0).bind fun p2 =>
        ((atO p2 1).bind fun p3 =>
          ((ldV (.flat (.slice 72)) r1.2 p3).bind fun x4 =>
            ((nn s0).bind fun p5 =>
              ((atO p5 1).bind fun p6 =>
                ((ldV (.flat (.slice 72)) r1.2 p6).bind fun x7 =>
                  ((ixV 3 x7 (IntKind.wrap .i64 (((VS.len x4 : Nat) : Int) - 1))).bind fun p8 =>
                    ((ldV (.agg [.str, .str, .bool]) r1.2 p8).bind fun x9 =>
                      ((stV (r1.2 ++ [.row (72 + boxK) [.str ⟨#[]⟩, .str ⟨#[]⟩, .bool false]]) (.ob r1.2.length 0) [.str x9.1, .str x9.2.1, .bool x9.2.2.1]).bind fun h10 =>
                        ((nn s0).bind fun p11 =>
                        ((atO p11 1).bind fun p12 =>
                        ((ldV (.flat (.slice 72)) h10 p12).bind fun x13 =>
                        ((cutD h10 72 3 x13 none (some (IntKind.wrap .i64 (((VS.len x4 : Nat) : Int) - 1))) none).bind fun z14 =>
                        ((nn s0).bind fun p15 =>
                        ((atO p15 1).bind fun p16 =>
                        ((stV h10 p16 [.sl 72 z14]).bind fun h17 =>
                        ((ldV (.flat .bool) h17 (.ob r1.2.length 2)).bind fun x18 =>
                        (cond x18
                        ((nn s0).bind fun p19 =>
                        ((atO p19 0).bind fun p20 =>
                        ((ldV (.flat .map) h17 p20).bind fun x21 =>
                        ((ldV (.flat .str) h17 (.ob r1.2.length 0)).bind fun x22 =>
                        ((ldV (.flat .str) h17 (.ob r1.2.length 1)).bind fun x23 =>
                        ((V.putD h17 .str x21 (.str x22) (.str x23)).bind fun h24 =>
                        (L17_0 n m s0 s1 h24)))))))
                        ((nn s0).bind fun p25 =>
                        ((atO p25 0).bind fun p26 =>
                        ((ldV (.flat .map) h17 p26).bind fun x27 =>
                        ((ldV (.flat .str) h17 (.ob r1.2.length 0)).bind fun x28 =>
                        ((V.cutMD h17 .str x27 (.str x28)).bind fun h29 =>
                        (L17_0 n m s0 s1 h29))))))))))))))))))))))))
      (some (.tup [], r1.2)))) := by kernel_rfl
theorem f17_eq (n : Nat) (a0 : VP) (a1 : Int) (h : VH) : bodyV P tab (vF P tab n) n 17 [.ptr a0, .int .i64 a1] h =
  (L17_0 n n a0 a1 h) := by kernel_rfl
/-! godown/godownref01.Texts -/
noncomputable def L18_0 (n m : Nat) (s0 : VS) (s1 : VS) (s5 : Int) (h : VH) : VRes := loopAt P tab 18 [1, 1, 0, 1, 0] n [] m [.sl 9 s0, .sl 9 s1, .undef, .undef, .undef, .int .i64 s5, .undef, .undef, .undef, .undef, .undef, .undef, .undef, .undef, .undef, .undef, .undef, .undef, .undef, .undef, .undef, .undef, .undef, .undef, .undef, .undef] h
theorem L18_0_eq (n m : Nat) (s0 : VS) (s1 : VS) (s5 : Int) (h : VH) : L18_0 n (m + 1) s0 s1 s5 h =
  (cond (decide ((s5 : Int) < ((VS.len s0 : Nat) : Int)))
    ((ixV 1 s0 s5).bind fun p1 =>
      ((ldV (.flat .str) h p1).bind fun x2 =>
        ((ixV 1 s1 s5).bind fun p3 =>
          ((ldV (.flat .str) h p3).bind fun x4 =>
            (cond (!(strEq x2 x4))
              (some (.bool false, h))
              (L18_0 n m s0 s1 (IntKind.wrap .i64 (s5 + 1)) h))))))
    (some (.bool true, h))) := by kernel_rfl
theorem f18_eq (n : Nat) (a0 : VS) (a1 : VS) (h : VH) : bodyV P tab (vF P tab n) n 18 [.sl 9 a0, .sl 9 a1] h =
  (cond ((((VS.len a0 : Nat) : Int) : Int) != ((VS.len a1 : Nat) : Int))
    (some (.bool false, h))
    (L18_0 n n a0 a1 0 h)) := by kernel_rfl
/-! godown/rows.New[int] -/
theorem f19_eq (n : Nat)  (h : VH) : bodyV P tab (vF P tab n) n 19 [] h =
  (some (.ptr (.ob (List.length ((h ++ [.map .str []]) : VH)) 0), (List.append (α := VO) (h ++ [.map .str []]) [.row (76 + boxK) [.map (some h.length), .sl 79 .nil]]))) := by kernel_rfl
/-! (*godown/rows.Table[int]).Set -/
theorem f20_eq (n : Nat) (a0 : VP) (a1 : ByteArray) (a2 : Int) (h : VH) : bodyV P tab (vF P tab n) n 20 [.ptr a0, .str a1, .int .i64 a2] h =
  (cond (!VP.isNil a0)
    ((callD (vF P tab n) P false (.one (.flat .bool)) 37 [.ptr a0, .str a1] h).bind fun r1 =>
      ((nn a0).bind fun p2 =>
        ((atO p2 0).bind fun p3 =>
          ((ldV (.flat .map) r1.2 p3).bind fun x4 =>
            ((V.putD r1.2 .str x4 (.str a1) (.int .i64 a2)).bind fun h5 =>
              (some (.tup [], h5)))))))
    (some (.tup [], h))) := by kernel_rfl
/-! (*godown/rows.Table[int]).Keys -/
theorem f21_eq (n : Nat) (a0 : VP) (h : VH) : bodyV P tab (vF P tab n) n 21 [.ptr a0] h =
  (cond (VP.isNil a0)
    (some (.sl 9 .nil, h))
    ((nn a0).bind fun p1 =>
      ((atO p1 0).bind fun p2 =>
        ((ldV (.flat .map) h p2).bind fun x3 =>
          ((callD (vF P tab n) P false (.one (.flat .any)) 38 [.map x3] h).bind fun r4 =>
            ((callD (vF P tab n) P false (.one (.flat (.slice 9))) 35 [r4.1] r4.2).bind fun r5 =>
              (some (.sl 9 r5.1, r5.2)))))))) := by kernel_rfl
/-! godown/godownref01.Rise -/
noncomputable def L22_0 (n m : Nat) (s0 : VS) (s3 : VS) (s4 : Int) (h : VH) : VRes := loopAt P tab 22 [1, 1, 0, 1, 0] n [] m [.sl 9 s0, .undef, .undef, .sl 9 s3, .int .i64 s4, .undef, .undef, .undef, .undef, .undef, .undef, .undef, .undef, .undef, .undef, .undef, .undef, .undef, .undef, .undef, .undef, .undef, .undef, .undef, .undef, .undef, .undef, .undef, .undef, .undef, .undef, .undef, .undef, .undef, .undef, .undef, .undef, .undef, .undef, .undef, .undef, .undef, .undef, .undef, .undef, .undef, .undef, .undef, .undef, .undef, .undef, .undef, .undef, .undef, .undef, .undef, .undef, .undef, .undef, .undef, .undef, .undef, .undef, .undef, .undef, .undef, .undef, .undef, .undef, .undef] h
noncomputable def L22_1 (n m0 m : Nat) (s0 : VS) (s3 : VS) (s4 : Int) (s5 : VS) (s6 : Bool) (s7 : Int) (h : VH) : VRes := loopAt P tab 22 [1, 1, 0, 1, 0, 0, 1, 0, 0, 1, 1, 0, 1, 0] n [m0] m [.sl 9 s0, .undef, .undef, .sl 9 s3, .int .i64 s4, .sl 9 s5, .bool s6, .int .i64 s7, .undef, .undef, .undef, .undef, .undef, .undef, .undef, .undef, .undef, .undef, .undef, .undef, .undef, .undef, .undef, .undef, .undef, .undef, .undef, .undef, .undef, .undef, .undef, .undef, .undef, .undef, .undef, .undef, .undef, .undef, .undef, .undef, .undef, .undef, .undef, .undef, .undef, .undef, .undef, .undef, .undef, .undef, .undef, .undef, .undef, .undef, .undef, .undef, .undef, .undef, .undef, .undef, .undef, .undef, .undef, .undef, .undef, .undef, .undef, .undef, .undef, .undef] h
theorem L22_0_eq (n m : Nat) (s0 : VS) (s3 : VS) (s4 : Int) (h : VH) : L22_0 n (m + 1) s0 s3 s4 h =
  (cond (decide ((s4 : Int) < ((VS.len s0 : Nat) : Int)))
    (L22_1 n m n s0 s3 s4 .nil false 0 h)
    (some (.sl 9 s3, h))) := by kernel_rfl
theorem L22_1_eq (n m0 m : Nat) (s0 : VS) (s3 : VS) (s4 : Int) (s5 : VS) (s6 : Bool) (s7 : Int) (h : VH) : L22_1 n m0 (m + 1) s0 s3 s4 s5 s6 s7 h =
  (cond (decide ((s7 : Int) < ((VS.len s3 : Nat) : Int)))
    (cond (!s6)
      ((ixV 1 s0 s4).bind fun p1 =>
        ((ldV (.flat .str) h p1).bind fun x2 =>
          ((ixV 1 s3 s7).bind fun p3 =>
            ((ldV (.flat .str) h p3).bind fun x4 =>
              (cond (strLt x2 x4)
                ((ixV 1 s0 s4).bind fun p5 =>
                  ((ldV (.flat .str) h p5).bind fun x6 =>
                    ((appD true h 1 16 9 s5 (.fz [[.str x6]] (.ex 1))).bind fun r7 =>
                      ((ixV 1 s3 s7).bind fun p8 =>
                        ((ldV (.flat .str) r7.2 p8).bind fun x9 =>
                        ((appD true r7.2 1 16 9 r7.1 (.fz [[.str x9]] (.ex 1))).bind fun r10 =>
                        (L22_1 n m0 m s0 s3 s4 r10.1 true (IntKind.wrap .i64 (s7 + 1)) r10.2)))))))
                (cond s6
                  ((ixV 1 s3 s7).bind fun p11 =>
                    ((ldV (.flat .str) h p11).bind fun x12 =>
                      ((appD true h 1 16 9 s5 (.fz [[.str x12]] (.ex 1))).bind fun r13 =>
                        (L22_1 n m0 m s0 s3 s4 r13.1 true (IntKind.wrap .i64 (s7 + 1)) r13.2))))
                  ((ixV 1 s0 s4).bind fun p14 =>
                    ((ldV (.flat .str) h p14).bind fun x15 =>
                      ((ixV 1 s3 s7).bind fun p16 =>
                        ((ldV (.flat .str) h p16).bind fun x17 =>
                        ((ixV 1 s3 s7).bind fun p18 =>
                        ((ldV (.flat .str) h p18).bind fun x19 =>
                        ((appD true h 1 16 9 s5 (.fz [[.str x19]] (.ex 1))).bind fun r20 =>
                        (L22_1 n m0 m s0 s3 s4 r20.1 (strEq x15 x17) (IntKind.wrap .i64 (s7 + 1)) r20.2))))))))))))))
      (cond s6
        ((ixV 1 s3 s7).bind fun p21 =>
          ((ldV (.flat .str) h p21).bind fun x22 =>
            ((appD true h 1 16 9 s5 (.fz [[.str x22]] (.ex 1))).bind fun r23 =>
              (L22_1 n m0 m s0 s3 s4 r23.1 true (IntKind.wrap .i64 (s7 + 1)) r23.2))))
        ((ixV 1 s0 s4).bind fun p24 =>
          ((ldV (.flat .str) h p24).bind fun x25 =>
            ((ixV 1 s3 s7).bind fun p26 =>
              ((ldV (.flat .str) h p26).bind fun x27 =>
                ((ixV 1 s3 s7).bind fun p28 =>
                  ((ldV (.flat .str) h p28).bind fun x29 =>
                    ((appD true h 1 16 9 s5 (.fz [[.str x29]] (.ex 1))).bind fun r30 =>
                      (L22_1 n m0 m s0 s3 s4 r30.1 (strEq x25 x27) (IntKind.wrap .i64 (s7 + 1)) r30.2))))))))))
    (cond (!s6)
      ((ixV 1 s0 s4).bind fun p31 =>
        ((ldV (.flat .str) h p31).bind fun x32 =>
          ((appD true h 1 16 9 s5 (.fz [[.str x32]] (.ex 1))).bind fun r33 =>
            (L22_0 n m0 s0 r33.1 (IntKind.wrap .i64 (s4 + 1)) r33.2))))
      (L22_0 n m0 s0 s5 (IntKind.wrap .i64 (s4 + 1)) h))) := by kernel_rfl
theorem f22_eq (n : Nat) (a0 : VS) (h : VH) : bodyV P tab (vF P tab n) n 22 [.sl 9 a0] h =
  (L22_0 n n a0 .nil 0 h) := by kernel_rfl
/-! (*godown/rows.Table[int]).Mark -/
theorem f23_eq (n : Nat) (a0 : VP) (h : VH) : bodyV P tab (vF P tab n) n 23 [.ptr a0] h =
  (cond (VP.isNil a0)
    (some (.int .i64 0, h))
    ((nn a0).bind fun p1 =>
      ((atO p1 1).bind fun p2 =>
        ((ldV (.flat (.slice 79)) h p2).bind fun x3 =>
          (some (.int .i64 ((VS.len x3 : Nat) : Int), h)))))) := by kernel_rfl
/-! (*godown/rows.Table[int]).Drop -/
theorem f24_eq (n : Nat) (a0 : VP) (a1 : ByteArray) (h : VH) : bodyV P tab (vF P tab n) n 24 [.ptr a0, .str a1] h =
  ((callD (vF P tab n) P false (.tup [(.flat (.int .i64)), (.flat .bool)]) 31 [.ptr a0, .str a1] h).bind fun r1 =>
    (cond (!r1.1.2.1)
      (some (.bool false, r1.2))
      ((callD (vF P tab n) P false (.one (.flat .bool)) 37 [.ptr a0, .str a1] r1.2).bind fun r2 =>
        ((nn a0).bind fun p3 =>
          ((atO p3 0).bind fun p4 =>
            ((ldV (.flat .map) r2.2 p4).bind fun x5 =>
              ((V.cutMD r2.2 .str x5 (.str a1)).bind fun h6 =>
                (some (.bool true, h6))))))))) := by kernel_rfl
/-! (*godown/rows.Table[int]).Undo -/
noncomputable def L25_0 (n m : Nat) (s0 : VP) (s1 : Int) (h : VH) : VRes := loopAt P tab 25 [0] n [] m [.ptr s0, .int .i64 s1, .undef, .undef, .undef, .undef, .undef, .undef, .undef, .undef, .undef, .undef, .undef, .undef, .undef, .undef, .undef, .undef, .undef, .undef, .undef, .undef, .undef, .undef, .undef, .undef, .undef, .undef, .undef, .undef, .undef, .undef, .undef, .undef, .undef, .undef, .undef, .undef, .undef, .undef, .undef, .undef, .undef, .undef, .undef, .undef, .undef, .undef, .undef] h
theorem L25_0_eq (n m : Nat) (s0 : VP) (s1 : Int) (h : VH) : L25_0 n (m + 1) s0 s1 h =
  ((callD (vF P tab n) P false (.one (.flat (.int .i64))) 23 [.ptr s0] h).bind fun r1 =>
    (cond (decide ((r1.1 : Int) > (if 0 > s1 then 0 else s1)))
      ((nn s0).bind fun p2 =>
        ((atO p2 1).bind fun p3 =>
          ((ldV (.flat (.slice 79)) r1.2 p3).bind fun x4 =>
            ((nn s0).bind fun p5 =>
              ((atO p5 1).bind fun p6 =>
                ((ldV (.flat (.slice 79)) r1.2 p6).bind fun x7 =>
                  ((ixV 3 x7 (IntKind.wrap .i64 (((VS.len x4 : Nat) : Int) - 1))).bind fun p8 =>
                    ((ldV (.agg [.str, .int .i64, .bool]) r1.2 p8).bind fun x9 =>
                      ((stV (r1.2 ++ [.row (79 + boxK) [.str ⟨#[]⟩, .int .i64 0, .bool false]]) (.ob r1.2.length 0) [.str x9.1, .int .i64 x9.2.1, .bool x9.2.2.1]).bind fun h10 =>
                        ((nn s0).bind fun p11 =>
                        ((atO p11 1).bind fun p12 =>
                        ((ldV (.flat (.slice 79)) h10 p12).bind fun x13 =>
                        ((cutD h10 79 3 x13 none (some (IntKind.wrap .i64 (((VS.len x4 : Nat) : Int) - 1))) none).bind fun z14 =>
                        ((nn s0).bind fun p15 =>
                        ((atO p15 1).bind fun p16 =>
                        ((stV h10 p16 [.sl 79 z14]).bind fun h17 =>
                        ((ldV (.flat .bool) h17 (.ob r1.2.length 2)).bind fun x18 =>
                        (cond x18
                        ((nn s0).bind fun p19 =>
                        ((atO p19 0).bind fun p20 =>
                        ((ldV (.flat .map) h17 p20).bind fun x21 =>
                        ((ldV (.flat .str) h17 (.ob r1.2.length 0)).bind fun x22 =>
                        ((ldV (.flat (.int .i64)) h17 (.ob r1.2.length 1)).bind fun x23 =>
                        ((V.putD h17 .str x21 (.str x22) (.int .i64 x23)).bind fun h24 =>
                        (L25_0 n m s0 s1 h24)))))))
                        ((nn s0).bind fun p25 =>
                        ((atO p25 0).bind fun p26 =>
                        ((ldV (.flat .map) h17 p26).bind fun x27 =>
                        ((ldV (.flat .str) h17 (.ob r1.2.length 0)).bind fun x28 =>
                        ((V.cutMD h17 .str x27 (.str x28)).bind fun h29 =>
                        (L25_0 n m s0 s1 h29))))))))))))))))))))))))
      (some (.tup [], r1.2)))) := by kernel_rfl
theorem f25_eq (n : Nat) (a0 : VP) (a1 : Int) (h : VH) : bodyV P tab (vF P tab n) n 25 [.ptr a0, .int .i64 a1] h =
  (L25_0 n n a0 a1 h) := by kernel_rfl
/-! (*godown/rows.Table[int]).Len -/
theorem f26_eq (n : Nat) (a0 : VP) (h : VH) : bodyV P tab (vF P tab n) n 26 [.ptr a0] h =
  (cond (VP.isNil a0)
    (some (.int .i64 0, h))
    ((nn a0).bind fun p1 =>
      ((atO p1 0).bind fun p2 =>
        ((ldV (.flat .map) h p2).bind fun x3 =>
          ((V.lenD h .str x3).bind fun x4 =>
            (some (.int .i64 x4, h))))))) := by kernel_rfl
/-! godown/godownref09.Set -/
theorem f27_eq (n : Nat) (a0_0 : VS) (a0_1 : VS) (a1 : ByteArray) (a2 : Int) (h : VH) : bodyV P tab (vF P tab n) n 27 [.agg [.sl 83 a0_0, .sl 47 a0_1], .str a1, .int .i64 a2] h =
  ((ldV (.agg [.slice 83, .slice 47]) (List.append (α := VO) (h ++ [.row (50 + boxK) [.sl 83 a0_0, .sl 47 a0_1]]) [.row (50 + boxK) [.sl 83 .nil, .sl 47 .nil]]) (.ob h.length 0)).bind fun x1 =>
    ((ldV (.flat (.slice 83)) (List.append (α := VO) (h ++ [.row (50 + boxK) [.sl 83 a0_0, .sl 47 a0_1]]) [.row (50 + boxK) [.sl 83 .nil, .sl 47 .nil]]) (.ob h.length 0)).bind fun x2 =>
      ((callD (vF P tab n) P false (.one (.flat (.slice 83))) 40 [.sl 83 x2, .str a1] (List.append (α := VO) (h ++ [.row (50 + boxK) [.sl 83 a0_0, .sl 47 a0_1]]) [.row (50 + boxK) [.sl 83 .nil, .sl 47 .nil]])).bind fun r3 =>
        (cond (V.stays r3.2 [(.ob h.length 0, .slice 83, .sl 83 x1.1), (.ob h.length 1, .slice 47, .sl 47 x1.2.1)])
          ((appD true r3.2 2 24 83 r3.1 (.fz [[.str a1, .int .i64 a2]] (.ex 1))).bind fun r4 =>
            (cond (V.stays r4.2 [(.ob h.length 0, .slice 83, .sl 83 x2), (.ob h.length 0, .slice 83, .sl 83 x1.1), (.ob h.length 1, .slice 47, .sl 47 x1.2.1)])
              ((callD (vF P tab n) P false (.one (.agg [.slice 83, .slice 47])) 39 [.agg [.sl 83 x1.1, .sl 47 x1.2.1], .sl 83 r4.1] r4.2).bind fun r5 =>
                (cond (V.stays r5.2 [(.ob h.length 0, .slice 83, .sl 83 x2)])
                  ((stV r5.2 (.ob (List.length ((h ++ [.row (50 + boxK) [.sl 83 a0_0, .sl 47 a0_1]]) : VH)) 0) [.sl 83 r5.1.1, .sl 47 r5.1.2.1]).bind fun h6 =>
                    (((ldV (.agg [.slice 83, .slice 47]) h6 (.ob (List.length ((h ++ [.row (50 + boxK) [.sl 83 a0_0, .sl 47 a0_1]]) : VH)) 0)).bind fun x7 =>
                        some (.agg [.sl 83 x7.1, .sl 47 x7.2.1], h6))))
                  none))
              none))
          none)))) := by kernel_rfl
/-! godown/godownref09.Drop -/
theorem f28_eq (n : Nat) (a0_0 : VS) (a0_1 : VS) (a1 : ByteArray) (h : VH) : bodyV P tab (vF P tab n) n 28 [.agg [.sl 83 a0_0, .sl 47 a0_1], .str a1] h =
  ((ldV (.agg [.slice 83, .slice 47]) (List.append (α := VO) (h ++ [.row (50 + boxK) [.sl 83 a0_0, .sl 47 a0_1]]) [.row (50 + boxK) [.sl 83 .nil, .sl 47 .nil]]) (.ob h.length 0)).bind fun x1 =>
    ((callD (vF P tab n) P false (.tup [(.flat (.int .i64)), (.flat .bool)]) 32 [.agg [.sl 83 x1.1, .sl 47 x1.2.1], .str a1] (List.append (α := VO) (h ++ [.row (50 + boxK) [.sl 83 a0_0, .sl 47 a0_1]]) [.row (50 + boxK) [.sl 83 .nil, .sl 47 .nil]])).bind fun r2 =>
      (cond (!r2.1.2.1)
        ((ldV (.agg [.slice 83, .slice 47]) r2.2 (.ob h.length 0)).bind fun x3 =>
          ((stV r2.2 (.ob (List.length ((h ++ [.row (50 + boxK) [.sl 83 a0_0, .sl 47 a0_1]]) : VH)) 0) [.sl 83 x3.1, .sl 47 x3.2.1]).bind fun h4 =>
            (((ldV (.agg [.slice 83, .slice 47]) h4 (.ob (List.length ((h ++ [.row (50 + boxK) [.sl 83 a0_0, .sl 47 a0_1]]) : VH)) 0)).bind fun x5 =>
                some (.tup [.agg [.sl 83 x5.1, .sl 47 x5.2.1], .bool false], h4)))))
        ((ldV (.agg [.slice 83, .slice 47]) r2.2 (.ob h.length 0)).bind fun x6 =>
          ((ldV (.flat (.slice 83)) r2.2 (.ob h.length 0)).bind fun x7 =>
            ((callD (vF P tab n) P false (.one (.flat (.slice 83))) 40 [.sl 83 x7, .str a1] r2.2).bind fun r8 =>
              (cond (V.stays r8.2 [(.ob h.length 0, .slice 83, .sl 83 x6.1), (.ob h.length 1, .slice 47, .sl 47 x6.2.1)])
                ((callD (vF P tab n) P false (.one (.agg [.slice 83, .slice 47])) 39 [.agg [.sl 83 x6.1, .sl 47 x6.2.1], .sl 83 r8.1] r8.2).bind fun r9 =>
                  (cond (V.stays r9.2 [(.ob h.length 0, .slice 83, .sl 83 x7)])
                    ((stV r9.2 (.ob (List.length ((h ++ [.row (50 + boxK) [.sl 83 a0_0, .sl 47 a0_1]]) : VH)) 0) [.sl 83 r9.1.1, .sl 47 r9.1.2.1]).bind fun h10 =>
                      (((ldV (.agg [.slice 83, .slice 47]) h10 (.ob (List.length ((h ++ [.row (50 + boxK) [.sl 83 a0_0, .sl 47 a0_1]]) : VH)) 0)).bind fun x11 =>
                        some (.tup [.agg [.sl 83 x11.1, .sl 47 x11.2.1], .bool true], h10))))
                    none))
                none))))))) := by kernel_rfl
/-! godown/godownref09.Undo -/
theorem f29_eq (n : Nat) (a0_0 : VS) (a0_1 : VS) (a1 : Int) (h : VH) : bodyV P tab (vF P tab n) n 29 [.agg [.sl 83 a0_0, .sl 47 a0_1], .int .i64 a1] h =
  (cond (decide ((a1 : Int) < 0))
    ((ldV (.flat (.slice 47)) (List.append (α := VO) (h ++ [.row (50 + boxK) [.sl 83 a0_0, .sl 47 a0_1]]) [.row (50 + boxK) [.sl 83 .nil, .sl 47 .nil]]) (.ob h.length 1)).bind fun x1 =>
      (cond (decide ((0 : Int) ≥ ((VS.len x1 : Nat) : Int)))
        ((ldV (.agg [.slice 83, .slice 47]) (List.append (α := VO) (h ++ [.row (50 + boxK) [.sl 83 a0_0, .sl 47 a0_1]]) [.row (50 + boxK) [.sl 83 .nil, .sl 47 .nil]]) (.ob h.length 0)).bind fun x2 =>
          ((stV (List.append (α := VO) (h ++ [.row (50 + boxK) [.sl 83 a0_0, .sl 47 a0_1]]) [.row (50 + boxK) [.sl 83 .nil, .sl 47 .nil]]) (.ob (List.length ((h ++ [.row (50 + boxK) [.sl 83 a0_0, .sl 47 a0_1]]) : VH)) 0) [.sl 83 x2.1, .sl 47 x2.2.1]).bind fun h3 =>
            (((ldV (.agg [.slice 83, .slice 47]) h3 (.ob (List.length ((h ++ [.row (50 + boxK) [.sl 83 a0_0, .sl 47 a0_1]]) : VH)) 0)).bind fun x4 =>
                some (.agg [.sl 83 x4.1, .sl 47 x4.2.1], h3)))))
        ((ldV (.flat (.slice 47)) (List.append (α := VO) (h ++ [.row (50 + boxK) [.sl 83 a0_0, .sl 47 a0_1]]) [.row (50 + boxK) [.sl 83 .nil, .sl 47 .nil]]) (.ob h.length 1)).bind fun x5 =>
          ((ixV 1 x5 0).bind fun p6 =>
            ((ldV (.flat (.slice 83)) (List.append (α := VO) (h ++ [.row (50 + boxK) [.sl 83 a0_0, .sl 47 a0_1]]) [.row (50 + boxK) [.sl 83 .nil, .sl 47 .nil]]) p6).bind fun x7 =>
              ((ldV (.flat (.slice 47)) (List.append (α := VO) (h ++ [.row (50 + boxK) [.sl 83 a0_0, .sl 47 a0_1]]) [.row (50 + boxK) [.sl 83 .nil, .sl 47 .nil]]) (.ob h.length 1)).bind fun x8 =>
                ((cutD (List.append (α := VO) (h ++ [.row (50 + boxK) [.sl 83 a0_0, .sl 47 a0_1]]) [.row (50 + boxK) [.sl 83 .nil, .sl 47 .nil]]) 47 1 x8 none (some 0) none).bind fun z9 =>
                  ((stV (List.append (α := VO) (h ++ [.row (50 + boxK) [.sl 83 a0_0, .sl 47 a0_1]]) [.row (50 + boxK) [.sl 83 .nil, .sl 47 .nil]]) (.ob (List.length ((h ++ [.row (50 + boxK) [.sl 83 a0_0, .sl 47 a0_1]]) : VH)) 0) [.sl 83 x7, .sl 47 z9]).bind fun h10 =>
                    (((ldV (.agg [.slice 83, .slice 47]) h10 (.ob (List.length ((h ++ [.row (50 + boxK) [.sl 83 a0_0, .sl 47 a0_1]]) : VH)) 0)).bind fun x11 =>
                        some (.agg [.sl 83 x11.1, .sl 47 x11.2.1], h10)))))))))))
    ((ldV (.flat (.slice 47)) (List.append (α := VO) (h ++ [.row (50 + boxK) [.sl 83 a0_0, .sl 47 a0_1]]) [.row (50 + boxK) [.sl 83 .nil, .sl 47 .nil]]) (.ob h.length 1)).bind fun x12 =>
      (cond (decide ((a1 : Int) ≥ ((VS.len x12 : Nat) : Int)))
        ((ldV (.agg [.slice 83, .slice 47]) (List.append (α := VO) (h ++ [.row (50 + boxK) [.sl 83 a0_0, .sl 47 a0_1]]) [.row (50 + boxK) [.sl 83 .nil, .sl 47 .nil]]) (.ob h.length 0)).bind fun x13 =>
          ((stV (List.append (α := VO) (h ++ [.row (50 + boxK) [.sl 83 a0_0, .sl 47 a0_1]]) [.row (50 + boxK) [.sl 83 .nil, .sl 47 .nil]]) (.ob (List.length ((h ++ [.row (50 + boxK) [.sl 83 a0_0, .sl 47 a0_1]]) : VH)) 0) [.sl 83 x13.1, .sl 47 x13.2.1]).bind fun h14 =>
            (((ldV (.agg [.slice 83, .slice 47]) h14 (.ob (List.length ((h ++ [.row (50 + boxK) [.sl 83 a0_0, .sl 47 a0_1]]) : VH)) 0)).bind fun x15 =>
                some (.agg [.sl 83 x15.1, .sl 47 x15.2.1], h14)))))
        ((ldV (.flat (.slice 47)) (List.append (α := VO) (h ++ [.row (50 + boxK) [.sl 83 a0_0, .sl 47 a0_1]]) [.row (50 + boxK) [.sl 83 .nil, .sl 47 .nil]]) (.ob h.length 1)).bind fun x16 =>
          ((ixV 1 x16 a1).bind fun p17 =>
            ((ldV (.flat (.slice 83)) (List.append (α := VO) (h ++ [.row (50 + boxK) [.sl 83 a0_0, .sl 47 a0_1]]) [.row (50 + boxK) [.sl 83 .nil, .sl 47 .nil]]) p17).bind fun x18 =>
              ((ldV (.flat (.slice 47)) (List.append (α := VO) (h ++ [.row (50 + boxK) [.sl 83 a0_0, .sl 47 a0_1]]) [.row (50 + boxK) [.sl 83 .nil, .sl 47 .nil]]) (.ob h.length 1)).bind fun x19 =>
                ((cutD (List.append (α := VO) (h ++ [.row (50 + boxK) [.sl 83 a0_0, .sl 47 a0_1]]) [.row (50 + boxK) [.sl 83 .nil, .sl 47 .nil]]) 47 1 x19 none (some a1) none).bind fun z20 =>
                  ((stV (List.append (α := VO) (h ++ [.row (50 + boxK) [.sl 83 a0_0, .sl 47 a0_1]]) [.row (50 + boxK) [.sl 83 .nil, .sl 47 .nil]]) (.ob (List.length ((h ++ [.row (50 + boxK) [.sl 83 a0_0, .sl 47 a0_1]]) : VH)) 0) [.sl 83 x18, .sl 47 z20]).bind fun h21 =>
                    (((ldV (.agg [.slice 83, .slice 47]) h21 (.ob (List.length ((h ++ [.row (50 + boxK) [.sl 83 a0_0, .sl 47 a0_1]]) : VH)) 0)).bind fun x22 =>
                        some (.agg [.sl 83 x22.1, .sl 47 x22.2.1], h21)))))))))))) := by kernel_rfl
/-! (*godown/rows.Table[int]).Done -/
theorem f30_eq (n : Nat) (a0 : VP) (h : VH) : bodyV P tab (vF P tab n) n 30 [.ptr a0] h =
  (cond (!VP.isNil a0)
    ((nn a0).bind fun p1 =>
      ((atO p1 1).bind fun p2 =>
        ((stV h p2 [.sl 79 .nil]).bind fun h3 =>
          (some (.tup [], h3)))))
    (some (.tup [], h))) := by kernel_rfl
/-! (*godown/rows.Table[int]).Get -/
theorem f31_eq (n : Nat) (a0 : VP) (a1 : ByteArray) (h : VH) : bodyV P tab (vF P tab n) n 31 [.ptr a0, .str a1] h =
  (cond (VP.isNil a0)
    (some (.tup [.int .i64 0, .bool false], h))
    ((nn a0).bind fun p1 =>
      ((atO p1 0).bind fun p2 =>
        ((ldV (.flat .map) h p2).bind fun x3 =>
          ((V.lookD P 3 (.flat (.int .i64)) h .str x3 (.str a1)).bind fun x4 =>
            (some (.tup [.int .i64 x4.1, .bool x4.2], h))))))) := by kernel_rfl
/-! godown/godownref09.Get -/
noncomputable def L32_0 (n m : Nat) (s1 : ByteArray) (s2 : Nat) (s6 : Int) (h : VH) : VRes := loopAt P tab 32 [1, 0, 1, 0] n [] m [.undef, .str s1, .ptr (.ob s2 0), .undef, .undef, .undef, .int .i64 s6, .undef, .undef, .undef, .undef, .undef, .undef, .undef, .undef, .undef, .undef, .undef, .undef, .undef, .undef, .undef, .undef, .undef, .undef, .undef, .undef, .undef] h
theorem L32_0_eq (n m : Nat) (s1 : ByteArray) (s2 : Nat) (s6 : Int) (h : VH) : L32_0 n (m + 1) s1 s2 s6 h =
  ((ldV (.flat (.slice 83)) h (.ob s2 0)).bind fun x1 =>
    (cond (decide ((s6 : Int) < ((VS.len x1 : Nat) : Int)))
      ((ldV (.flat (.slice 83)) h (.ob s2 0)).bind fun x2 =>
        ((ixV 2 x2 s6).bind fun p3 =>
          ((atO p3 0).bind fun p4 =>
            ((ldV (.flat .str) h p4).bind fun x5 =>
              (cond (strEq x5 s1)
                ((ldV (.flat (.slice 83)) h (.ob s2 0)).bind fun x6 =>
                  ((ixV 2 x6 s6).bind fun p7 =>
                    ((atO p7 1).bind fun p8 =>
                      ((ldV (.flat (.int .i64)) h p8).bind fun x9 =>
                        (some (.tup [.int .i64 x9, .bool true], h))))))
                (L32_0 n m s1 s2 (IntKind.wrap .i64 (s6 + 1)) h))))))
      (some (.tup [.int .i64 0, .bool false], h)))) := by kernel_rfl
theorem f32_eq (n : Nat) (a0_0 : VS) (a0_1 : VS) (a1 : ByteArray) (h : VH) : bodyV P tab (vF P tab n) n 32 [.agg [.sl 83 a0_0, .sl 47 a0_1], .str a1] h =
  (L32_0 n n a1 h.length 0 (h ++ [.row (50 + boxK) [.sl 83 a0_0, .sl 47 a0_1]])) := by kernel_rfl
/-! godown/godownref09.Keys -/
noncomputable def L33_0 (n m : Nat) (s1 : Nat) (s3 : VS) (s4 : Int) (h : VH) : VRes := loopAt P tab 33 [1, 1, 0, 1, 0] n [] m [.undef, .ptr (.ob s1 0), .undef, .sl 9 s3, .int .i64 s4, .undef, .undef, .undef, .undef, .undef, .undef, .undef, .undef, .undef, .undef, .undef, .undef, .undef, .undef, .undef, .undef, .undef, .undef] h
theorem L33_0_eq (n m : Nat) (s1 : Nat) (s3 : VS) (s4 : Int) (h : VH) : L33_0 n (m + 1) s1 s3 s4 h =
  ((ldV (.flat (.slice 83)) h (.ob s1 0)).bind fun x1 =>
    (cond (decide ((s4 : Int) < ((VS.len x1 : Nat) : Int)))
      ((ldV (.flat (.slice 83)) h (.ob s1 0)).bind fun x2 =>
        ((ixV 2 x2 s4).bind fun p3 =>
          ((atO p3 0).bind fun p4 =>
            ((ldV (.flat .str) h p4).bind fun x5 =>
              ((appD true h 1 16 9 s3 (.fz [[.str x5]] (.ex 1))).bind fun r6 =>
                (L33_0 n m s1 r6.1 (IntKind.wrap .i64 (s4 + 1)) r6.2))))))
      ((callD (vF P tab n) P false (.one (.flat (.slice 9))) 22 [.sl 9 s3] h).bind fun r7 =>
        (some (.sl 9 r7.1, r7.2))))) := by kernel_rfl
theorem f33_eq (n : Nat) (a0_0 : VS) (a0_1 : VS) (h : VH) : bodyV P tab (vF P tab n) n 33 [.agg [.sl 83 a0_0, .sl 47 a0_1]] h =
  (L33_0 n n h.length .nil 0 (h ++ [.row (50 + boxK) [.sl 83 a0_0, .sl 47 a0_1]])) := by kernel_rfl
/-! (*godown/rows.Table[string]).note -/
theorem f34_eq (n : Nat) (a0 : VP) (a1 : ByteArray) (h : VH) : bodyV P tab (vF P tab n) n 34 [.ptr a0, .str a1] h =
  ((callD (vF P tab n) P false (.tup [(.flat .str), (.flat .bool)]) 14 [.ptr a0, .str a1] h).bind fun r1 =>
    ((nn a0).bind fun p2 =>
      ((atO p2 1).bind fun p3 =>
        ((ldV (.flat (.slice 72)) r1.2 p3).bind fun x4 =>
          ((appD false (r1.2 ++ [.row 72 [.str a1, .str r1.1.1, .bool r1.1.2.1]]) 3 40 72 x4 (.hp r1.2.length 0 1)).bind fun r5 =>
            ((nn a0).bind fun p6 =>
              ((atO p6 1).bind fun p7 =>
                ((stV r5.2 p7 [.sl 72 r5.1]).bind fun h8 =>
                  (some (.bool r1.1.2.1, h8)))))))))) := by kernel_rfl
/-! maps.Keys[map[string]string,string,string] -/
theorem f36_eq (n : Nat) (a0 : Option Nat) (h : VH) : bodyV P tab (vF P tab n) n 36 [.map a0] h =
  (some (.func (.func 43) [] [.ptr (.ob h.length 0)], (h ++ [.row (62 + boxK) [.map a0]]))) := by kernel_rfl
/-! (*godown/rows.Table[int]).note -/
theorem f37_eq (n : Nat) (a0 : VP) (a1 : ByteArray) (h : VH) : bodyV P tab (vF P tab n) n 37 [.ptr a0, .str a1] h =
  ((callD (vF P tab n) P false (.tup [(.flat (.int .i64)), (.flat .bool)]) 31 [.ptr a0, .str a1] h).bind fun r1 =>
    ((nn a0).bind fun p2 =>
      ((atO p2 1).bind fun p3 =>
        ((ldV (.flat (.slice 79)) r1.2 p3).bind fun x4 =>
          ((appD false (r1.2 ++ [.row 79 [.str a1, .int .i64 r1.1.1, .bool r1.1.2.1]]) 3 32 79 x4 (.hp r1.2.length 0 1)).bind fun r5 =>
            ((nn a0).bind fun p6 =>
              ((atO p6 1).bind fun p7 =>
                ((stV r5.2 p7 [.sl 79 r5.1]).bind fun h8 =>
                  (some (.bool r1.1.2.1, h8)))))))))) := by kernel_rfl
/-! maps.Keys[map[string]int,string,int] -/
theorem f38_eq (n : Nat) (a0 : Option Nat) (h : VH) : bodyV P tab (vF P tab n) n 38 [.map a0] h =
  (some (.func (.func 44) [] [.ptr (.ob h.length 0)], (h ++ [.row (73 + boxK) [.map a0]]))) := by kernel_rfl
/-! godown/godownref09.then -/
theorem f39_eq (n : Nat) (a0_0 : VS) (a0_1 : VS) (a1 : VS) (h : VH) : bodyV P tab (vF P tab n) n 39 [.agg [.sl 83 a0_0, .sl 47 a0_1], .sl 83 a1] h =
  ((ldV (.flat (.slice 47)) (List.append (α := VO) (h ++ [.row (50 + boxK) [.sl 83 a0_0, .sl 47 a0_1]]) [.row (50 + boxK) [.sl 83 .nil, .sl 47 .nil]]) (.ob h.length 1)).bind fun x1 =>
    ((appD true (List.append (α := VO) (h ++ [.row (50 + boxK) [.sl 83 a0_0, .sl 47 a0_1]]) [.row (50 + boxK) [.sl 83 .nil, .sl 47 .nil]]) 1 24 47 .nil x1).bind fun r2 =>
      ((ldV (.flat (.slice 83)) r2.2 (.ob h.length 0)).bind fun x3 =>
        (if List.all [.sl 83 x3] closed1 = true then
          ((appD true r2.2 1 24 47 r2.1 (.fz [[.sl 83 (VS.strip x3)]] (.ex 1))).bind fun r4 =>
            ((stV r4.2 (.ob (List.length ((h ++ [.row (50 + boxK) [.sl 83 a0_0, .sl 47 a0_1]]) : VH)) 0) [.sl 83 a1, .sl 47 r4.1]).bind fun h5 =>
              (((ldV (.agg [.slice 83, .slice 47]) h5 (.ob (List.length ((h ++ [.row (50 + boxK) [.sl 83 a0_0, .sl 47 a0_1]]) : VH)) 0)).bind fun x6 =>
                  some (.agg [.sl 83 x6.1, .sl 47 x6.2.1], h5)))))
          else none)))) := by kernel_rfl
/-! godown/godownref09.without -/
noncomputable def L40_0 (n m : Nat) (s0 : VS) (s1 : ByteArray) (s5 : VS) (s6 : Int) (h : VH) : VRes := loopAt P tab 40 [1, 1, 0, 1, 0] n [] m [.sl 83 s0, .str s1, .undef, .undef, .undef, .sl 83 s5, .int .i64 s6, .undef, .undef, .undef, .undef, .undef, .undef, .undef, .undef, .undef, .undef, .undef, .undef, .undef, .undef, .undef, .undef, .undef, .undef, .undef, .undef, .undef] h
theorem L40_0_eq (n m : Nat) (s0 : VS) (s1 : ByteArray) (s5 : VS) (s6 : Int) (h : VH) : L40_0 n (m + 1) s0 s1 s5 s6 h =
  (cond (decide ((s6 : Int) < ((VS.len s0 : Nat) : Int)))
    ((ixV 2 s0 s6).bind fun p1 =>
      ((atO p1 0).bind fun p2 =>
        ((ldV (.flat .str) h p2).bind fun x3 =>
          (cond (!(strEq x3 s1))
            ((ixV 2 s0 s6).bind fun p4 =>
              ((ldV (.agg [.str, .int .i64]) h p4).bind fun x5 =>
                ((appD true h 2 24 83 s5 (.fz [[.str x5.1, .int .i64 x5.2.1]] (.ex 1))).bind fun r6 =>
                  (L40_0 n m s0 s1 r6.1 (IntKind.wrap .i64 (s6 + 1)) r6.2))))
            (L40_0 n m s0 s1 s5 (IntKind.wrap .i64 (s6 + 1)) h)))))
    (some (.sl 83 s5, h))) := by kernel_rfl
theorem f40_eq (n : Nat) (a0 : VS) (a1 : ByteArray) (h : VH) : bodyV P tab (vF P tab n) n 40 [.sl 83 a0, .str a1] h =
  (L40_0 n n a0 a1 .nil 0 h) := by kernel_rfl
end Go.Proofs.Ytlkpgimhcnmblaa
