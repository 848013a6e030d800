import Derived.Test.YtibdinelkpbhaaaVd
import Derived.Test.YtibdinelkpbhaaaProg
set_option maxRecDepth 100000
set_option maxHeartbeats 0
set_option linter.unusedVariables false
set_option linter.unusedSimpArgs false
namespace Go.Proofs.Ytibdinelkpbhaaa
open Go.Proofs.Ytibdinelkpbhaaa.Sh Go.Proofs.Ytibdinelkpbhaaa.Sh.V
def notes : List (Nat × Notes) := [(3, ⟨[], [(6, [0, 2, 3, 4, 8, 9, 10, 11, 12, 13, 14, 15, 16, 17, 18, 19, 20, 21, 22, 23, 24, 25, 26, 27, 28, 29, 30, 31, 32, 33, 34, 35, 36, 37, 38, 39, 40, 41, 42, 43, 44, 45, 46, 47, 48, 49, 50, 51, 52, 53, 54, 55, 56, 57, 58, 59, 60, 61, 62, 63, 64, 65, 66, 67, 68, 69, 70, 71, 72, 73, 74, 75, 76, 77, 78, 79, 80, 81, 82, 83, 84, 85, 86, 87, 88, 89, 90, 91, 92, 93, 94, 95, 96, 97, 98, 99, 100, 101, 102, 103, 104, 105, 106, 107]), (11, [0, 2, 3, 4, 7, 10, 11, 12, 13, 14, 15, 16, 17, 18, 19, 20, 21, 22, 23, 24, 25, 26, 27, 28, 29, 30, 31, 32, 33, 34, 35, 36, 37, 38, 39, 40, 41, 42, 43, 44, 45, 46, 47, 48, 49, 50, 51, 52, 53, 54, 55, 56, 57, 58, 59, 60, 61, 62, 63, 64, 65, 66, 67, 68, 69, 70, 71, 72, 73, 74, 75, 76, 77, 78, 79, 80, 81, 82, 83, 84, 85, 86, 87, 88, 89, 90, 91, 92, 93, 94, 95, 96, 97, 98, 99, 100, 101, 102, 103, 104, 105, 106, 107])], []⟩),
  (4, ⟨[], [(5, [2, 3, 4, 7, 8, 9, 10, 11, 12, 13, 14, 15, 16, 17, 18, 19, 20, 21, 22, 23, 24, 25, 26, 27, 28, 29, 30, 31, 32, 33, 34, 35, 36, 37, 38, 39, 40, 41, 42, 43, 44, 45, 46, 47, 48, 49, 50, 51, 52, 53, 54, 55, 56, 57, 58, 59, 60, 61, 62, 63, 64, 65, 66, 67, 68, 69, 70, 71, 72, 73, 74, 75, 76, 77])], []⟩),
  (5, ⟨[], [(6, [0, 2, 3, 4, 8, 9, 10, 11, 12, 13, 14, 15, 16, 17, 18, 19, 20, 21, 22, 23, 24, 25, 26, 27, 28, 29, 30, 31, 32, 33, 34, 35, 36, 37, 38, 39, 40, 41, 42, 43, 44, 45, 46, 47, 48, 49, 50, 51, 52, 53, 54, 55, 56, 57, 58, 59, 60, 61, 62, 63, 64, 65, 66, 67, 68, 69, 70, 71, 72, 73, 74, 75, 76, 77, 78, 79, 80, 81, 82, 83, 84, 85, 86, 87]), (10, [0, 2, 3, 4, 7, 9, 10, 11, 12, 13, 14, 15, 16, 17, 18, 19, 20, 21, 22, 23, 24, 25, 26, 27, 28, 29, 30, 31, 32, 33, 34, 35, 36, 37, 38, 39, 40, 41, 42, 43, 44, 45, 46, 47, 48, 49, 50, 51, 52, 53, 54, 55, 56, 57, 58, 59, 60, 61, 62, 63, 64, 65, 66, 67, 68, 69, 70, 71, 72, 73, 74, 75, 76, 77, 78, 79, 80, 81, 82, 83, 84, 85, 86, 87]), (14, [0, 1, 2, 3, 4, 7, 8, 10, 11, 12, 13, 14, 15, 16, 17, 18, 19, 20, 21, 22, 23, 24, 25, 26, 27, 28, 29, 30, 31, 32, 33, 34, 35, 36, 37, 38, 39, 40, 41, 42, 43, 44, 45, 46, 47, 48, 49, 50, 51, 52, 53, 54, 55, 56, 57, 58, 59, 60, 61, 62, 63, 64, 65, 66, 67, 68, 69, 70, 71, 72, 73, 74, 75, 76, 77, 78, 79, 80, 81, 82, 83, 84, 85, 86, 87])], []⟩),
  (6, ⟨[], [(6, [1, 2, 6, 7, 8, 9, 10, 11, 12, 13, 14, 15, 16, 17, 18, 19, 20, 21, 22, 23, 24, 25, 26, 27, 28, 29, 30, 31, 32, 33, 34, 35, 36, 37, 38, 39, 40, 41, 42, 43, 44, 45, 46, 47, 48, 49, 50, 51, 52, 53, 54, 55, 56, 57, 58, 59, 60, 61, 62, 63, 64, 65, 66, 67, 68, 69, 70, 71, 72, 73, 74, 75, 76, 77, 78, 79, 80, 81, 82, 83, 84, 85, 86, 87, 88, 89, 90, 91, 92, 93, 94, 95, 96, 97, 98, 99, 100, 101, 102, 103, 104, 105, 106, 107, 108, 109, 110, 111, 112, 113, 114, 115, 116, 117, 118, 119, 120, 121, 122, 123, 124, 125, 126, 127, 128, 129, 130]), (16, [1, 2, 6, 7, 8, 10, 11, 12, 13, 14, 15, 16, 17, 18, 19, 20, 21, 22, 23, 24, 25, 26, 27, 28, 29, 30, 31, 32, 33, 34, 35, 36, 37, 38, 39, 40, 41, 42, 43, 44, 45, 46, 47, 48, 49, 50, 51, 52, 53, 54, 55, 56, 57, 58, 59, 60, 61, 62, 63, 64, 65, 66, 67, 68, 69, 70, 71, 72, 73, 74, 75, 76, 77, 78, 79, 80, 81, 82, 83, 84, 85, 86, 87, 88, 89, 90, 91, 92, 93, 94, 95, 96, 97, 98, 99, 100, 101, 102, 103, 104, 105, 106, 107, 108, 109, 110, 111, 112, 113, 114, 115, 116, 117, 118, 119, 120, 121, 122, 123, 124, 125, 126, 127, 128, 129, 130])], []⟩),
  (7, ⟨[], [(5, [1, 2, 5, 6, 7, 8, 9, 10, 11, 12, 13, 14, 15, 16, 17, 18, 19, 20, 21, 22, 23, 24, 25, 26, 27, 28, 29, 30, 31, 32, 33, 34, 35, 36, 37, 38, 39, 40, 41, 42, 43, 44, 45, 46, 47, 48, 49, 50, 51, 52, 53, 54, 55, 56, 57, 58, 59, 60, 61, 62, 63, 64, 65, 66, 67, 68, 69, 70, 71, 72, 73, 74, 75, 76, 77, 78, 79, 80, 81, 82, 83, 84, 85, 86, 87, 88, 89, 90, 91, 92, 93, 94, 95, 96, 97, 98, 99, 100, 101, 102, 103, 104, 105, 106]), (13, [1, 2, 6, 7, 9, 10, 11, 12, 13, 14, 15, 16, 17, 18, 19, 20, 21, 22, 23, 24, 25, 26, 27, 28, 29, 30, 31, 32, 33, 34, 35, 36, 37, 38, 39, 40, 41, 42, 43, 44, 45, 46, 47, 48, 49, 50, 51, 52, 53, 54, 55, 56, 57, 58, 59, 60, 61, 62, 63, 64, 65, 66, 67, 68, 69, 70, 71, 72, 73, 74, 75, 76, 77, 78, 79, 80, 81, 82, 83, 84, 85, 86, 87, 88, 89, 90, 91, 92, 93, 94, 95, 96, 97, 98, 99, 100, 101, 102, 103, 104, 105, 106]), (20, [1, 2, 5, 6, 7, 8, 9, 10, 13, 14, 15, 16, 17, 18, 19, 20, 21, 22, 23, 24, 25, 26, 27, 28, 29, 30, 31, 32, 33, 34, 35, 36, 37, 38, 39, 40, 41, 42, 43, 44, 45, 46, 47, 48, 49, 50, 51, 52, 53, 54, 55, 56, 57, 58, 59, 60, 61, 62, 63, 64, 65, 66, 67, 68, 69, 70, 71, 72, 73, 74, 75, 76, 77, 78, 79, 80, 81, 82, 83, 84, 85, 86, 87, 88, 89, 90, 91, 92, 93, 94, 95, 96, 97, 98, 99, 100, 101, 102, 103, 104, 105, 106])], []⟩),
  (14, ⟨[], [(4, [2, 3, 4, 6, 7, 8, 9, 10, 11, 12, 13, 14, 15, 16, 17, 18, 19, 20, 21, 22, 23, 24, 25])], []⟩),
  (15, ⟨[], [(3, [1, 2, 3, 4, 7, 8, 9, 10, 11, 12, 13, 14, 15, 16, 17, 18, 19, 20, 21, 22, 23, 24, 25, 26, 27, 28, 29, 30, 31, 32, 33, 34])], []⟩),
  (16, ⟨[(1, .order [(0, true), (1, true), (2, true), (3, true), (4, true), (5, true), (6, true), (7, true), (8, true), (9, true), (10, true), (11, true), (12, true)])], [], []⟩),
  (17, ⟨[], [(7, [0, 2, 3, 4, 6, 9, 10, 11, 12, 13, 14, 15, 16, 17, 18, 19, 20, 21, 22, 23, 24, 25, 26, 27, 28, 29, 30, 34, 35, 36, 37, 38, 39, 40, 41, 42, 43, 44, 45, 46, 47, 48, 49, 50, 51, 52, 53, 54, 55, 56, 57, 58, 59, 60, 61, 62, 63, 64, 65, 66, 67, 68, 69, 70, 71, 72, 73, 74, 75, 76, 77]), (13, [0, 2, 3, 4, 5, 6, 7, 9, 10, 11, 12, 13, 14, 15, 16, 17, 18, 19, 20, 21, 22, 23, 24, 25, 26, 27, 28, 29, 30, 31, 32, 33, 34, 35, 36, 37, 38, 39, 40, 41, 42, 43, 44, 45, 46, 47, 48, 49, 50, 51, 52, 53, 54, 55, 56, 57, 61, 62, 63, 64, 65, 66, 67, 68, 69, 70, 71, 72, 73, 74, 75, 76, 77])], []⟩),
  (18, ⟨[], [(3, [2, 3, 4, 6, 7, 8, 9, 13, 14, 15, 16, 17, 18, 19, 20, 21, 22, 23, 24, 25, 26, 27, 28, 29, 30, 31, 32, 33, 34, 35, 36, 37, 38, 39, 40, 41, 42, 43, 44, 45, 46, 47, 48, 49, 50, 51, 52, 53, 54, 55])], []⟩),
  (19, ⟨[], [(4, [2, 3, 4, 5, 9, 10, 11, 12, 13, 14, 15, 16, 17, 18, 19, 20, 21, 22, 23, 24, 25, 26, 27, 28, 29, 30, 31, 32, 33, 34, 35, 36, 37, 38, 39, 40, 41, 42, 43, 44, 45, 46, 47, 48, 49, 50, 51, 52, 53, 54, 55, 56, 57, 58, 59, 60, 61, 62, 63, 64, 65, 66, 67, 68, 69, 70, 71, 72, 73, 74, 75, 76, 77, 78]), (12, [0, 1, 2, 3, 4, 5, 8, 11, 12, 13, 14, 15, 16, 17, 18, 19, 20, 21, 22, 23, 24, 25, 26, 27, 28, 29, 30, 31, 32, 33, 34, 35, 36, 37, 38, 39, 40, 41, 42, 43, 44, 45, 46, 47, 48, 49, 50, 51, 52, 53, 54, 55, 56, 57, 58, 59, 60, 61, 62, 63, 64, 65, 66, 67, 68, 69, 70, 71, 72, 73, 74, 75, 76, 77, 78]), (14, [0, 1, 2, 3, 4, 5, 8, 11, 12, 13, 14, 15, 16, 17, 18, 19, 20, 21, 22, 23, 24, 25, 26, 27, 28, 29, 30, 31, 32, 33, 34, 35, 36, 37, 38, 39, 40, 41, 42, 43, 44, 45, 46, 47, 48, 49, 50, 51, 52, 53, 54, 55, 56, 57, 58, 59, 60, 61, 62, 63, 64, 65, 66, 67, 68, 69, 70, 71, 72, 73, 74, 75, 76, 77, 78])], []⟩),
  (20, ⟨[], [(6, [2, 3, 4, 6, 7, 8, 9, 13, 14, 15, 16, 17, 18, 19, 20, 21, 22, 23, 24, 25, 26, 27, 28, 29, 30, 31, 32, 33, 34, 35, 36, 37, 38, 39, 40, 41, 42, 43, 44, 45, 46, 47, 48, 49, 50, 51, 52, 53, 54, 55, 56, 57, 58, 59, 60, 61, 62, 63, 64, 65, 66, 67, 68, 69, 70, 71, 72, 73, 74, 75, 76, 77, 78, 79, 80, 81, 82, 83, 84, 85, 86, 87, 88, 89, 90, 91])], []⟩),
  (21, ⟨[], [(4, [2, 3, 4, 8, 9, 10, 11, 12, 13, 14, 15, 16, 17, 18, 19, 20, 21, 22, 23, 24, 25, 26, 27, 28, 29, 30, 31, 32])], []⟩),
  (22, ⟨[], [(2, [1, 2, 3, 4, 6, 7, 8, 9, 10, 11, 12, 13, 14, 15, 16, 17, 18, 19, 20, 21, 22, 23, 24, 25, 26, 27, 28, 29, 30, 31, 32, 33, 34, 35, 36]), (5, [1, 2, 3, 4, 8, 9, 10, 11, 12, 13, 14, 15, 16, 17, 18, 19, 20, 21, 22, 23, 24, 25, 26, 27, 28, 29, 30, 31, 32, 33, 34, 35, 36])], []⟩),
  (23, ⟨[], [(5, [0, 2, 3, 5, 8, 9, 10, 11, 12, 13, 14, 15, 16, 17, 18, 19, 20, 21, 22, 23, 24, 28, 29, 30, 31, 32, 33, 34, 35, 36, 37, 38, 39, 40, 41, 42, 43])], []⟩),
  (27, ⟨[(2, .order [(0, true), (1, true), (2, true), (3, true), (4, true), (5, true), (6, false), (7, false), (8, false), (9, true), (10, true), (11, false)])], [], []⟩),
  (28, ⟨[(4, .order [(0, true), (1, true), (2, true), (3, true), (4, true), (5, true), (6, false), (7, false), (8, false), (9, true), (10, true), (11, false)]), (5, .tail 7)], [(2, [2, 3, 4, 8, 9, 10, 11, 12, 13, 14, 15, 16, 17, 18, 19, 20, 21, 22, 23, 24, 25, 26, 27, 28, 29, 30, 31, 32, 33, 34, 35, 36, 37, 38, 39, 40, 41, 42, 43, 44, 45, 46, 47, 48, 49, 50, 51, 52])], []⟩),
  (29, ⟨[], [(5, [2, 3, 4, 7, 8, 9, 10, 11, 12, 13, 14, 15, 16, 17, 18, 19, 20, 21, 22, 23, 24, 25, 26, 27, 28, 29, 30, 31, 32, 33, 34, 35, 36, 37, 38, 39, 40, 41])], []⟩),
  (30, ⟨[(1, .order [(0, true), (1, true), (3, true), (2, false), (4, false), (5, true), (6, true)])], [], []⟩),
  (32, ⟨[], [(4, [1, 2, 4, 5, 6, 7, 8, 9, 10, 11, 12, 13, 14, 15, 16, 17, 18, 19, 20, 21, 22, 23, 24, 25, 26, 27, 28, 29, 30, 31, 32, 33, 34, 35, 36, 37, 38, 39, 40, 41, 42, 43, 44, 45, 46, 47, 48, 49, 50, 51, 52, 53, 54, 55, 56, 57, 58, 59, 60]), (9, [1, 2, 6, 7, 8, 9, 10, 11, 12, 13, 14, 15, 16, 17, 18, 19, 20, 21, 22, 23, 24, 25, 26, 27, 28, 29, 30, 31, 32, 33, 34, 35, 36, 37, 38, 39, 40, 41, 42, 43, 44, 45, 46, 47, 48, 49, 50, 51, 52, 53, 54, 55, 56, 57, 58, 59, 60])], []⟩),
  (34, ⟨[(2, .tail 5)], [], []⟩),
  (35, ⟨[(6, .tail 6)], [(2, [2, 3, 4, 6, 7, 8, 9, 10, 11, 12, 13, 14, 15, 16, 17, 18, 19, 20, 21, 22, 23, 24, 25, 26, 27, 28, 29, 30, 31, 32, 33, 34, 35, 36, 37, 38, 39, 40, 41, 42, 43, 44, 45, 46, 47, 48, 49, 50, 51])], []⟩),
  (36, ⟨[], [(3, [1, 2, 5, 6, 7, 8, 9, 10, 11, 12, 13, 14, 15, 16, 17, 18, 19, 20, 21, 22, 23, 24, 25, 26, 27, 28, 29, 30, 31, 32, 33, 34, 35, 36, 37, 38, 39, 40, 41, 42, 43, 44, 45, 46, 47, 48, 49, 50, 51, 52, 53, 54, 55, 56, 57, 58, 59, 60, 61, 62, 63, 64, 65, 66, 67, 68, 69]), (8, [1, 2, 8, 9, 10, 11, 12, 13, 14, 15, 16, 17, 18, 19, 20, 21, 22, 23, 24, 25, 26, 27, 28, 29, 30, 31, 32, 33, 34, 35, 36, 37, 38, 39, 40, 41, 42, 43, 44, 45, 46, 47, 48, 49, 50, 51, 52, 53, 54, 55, 56, 57, 58, 59, 60, 61, 62, 63, 64, 65, 66, 67, 68, 69])], []⟩),
  (37, ⟨[], [(3, [2, 3, 4, 7, 8, 9, 10, 11, 12, 13, 14, 15, 16, 17, 18, 19, 20, 21, 22, 23, 24, 25, 26, 27, 28, 29, 30, 31, 32, 33, 34, 35, 36, 37, 38, 39, 40, 41, 42, 43, 44, 45, 46, 47, 48, 49]), (6, [2, 3, 4, 8, 9, 10, 11, 12, 13, 14, 15, 16, 17, 18, 19, 20, 21, 22, 23, 24, 25, 26, 27, 28, 29, 30, 31, 32, 33, 34, 35, 36, 37, 38, 39, 40, 41, 42, 43, 44, 45, 46, 47, 48, 49])], []⟩),
  (39, ⟨[], [(3, [1, 2, 4, 7, 8, 9, 10, 11, 12, 13, 14, 15, 16, 17, 18, 19, 20, 21, 22, 23, 24, 25, 26, 27, 28, 29, 30, 31, 32, 33, 34, 35, 36, 37, 38, 39, 40, 41, 42, 43])], []⟩),
  (40, ⟨[(5, .tail 10)], [(2, [2, 3, 5, 7, 8, 9, 10, 11, 12, 13, 14, 15, 16, 17, 18, 19, 20, 21, 22, 23, 24, 25, 26, 27, 28, 29, 30, 31, 32, 33, 34, 35, 36, 37, 38])], []⟩),
  (41, ⟨[], [(2, [2, 3, 4, 6, 7, 8, 9, 10, 11, 12, 13, 14, 15, 16, 17])], []⟩),
  (42, ⟨[], [(6, [2, 3, 4, 6, 9, 10, 11, 12, 13, 14, 15, 16, 17, 18, 19, 20, 21, 22, 23, 24, 25, 26, 27, 28, 29, 30, 31, 32, 33, 34, 35, 36, 37, 38, 39, 40, 41, 42, 43, 44, 45, 46, 47, 48, 49, 50, 51, 52, 53, 54, 55, 56, 57, 58, 59, 60, 61, 62, 63, 64, 65, 66, 67, 68, 69, 70, 71, 72, 73, 74, 75, 76, 77, 78, 79, 80, 81, 82, 83, 84, 85, 86, 87, 88, 89, 90, 91, 92, 93, 94, 95, 96, 97]), (12, [0, 2, 3, 4, 5, 6, 8, 11, 12, 13, 14, 15, 16, 17, 18, 19, 20, 21, 22, 23, 24, 25, 26, 27, 28, 29, 30, 31, 32, 33, 34, 35, 36, 37, 38, 39, 40, 41, 42, 43, 44, 45, 46, 47, 48, 49, 50, 51, 52, 53, 54, 55, 56, 57, 58, 59, 60, 61, 62, 63, 64, 65, 66, 67, 68, 69, 70, 71, 72, 73, 74, 75, 76, 77, 78, 79, 80, 81, 82, 83, 84, 85, 86, 87, 88, 89, 90, 91, 92, 93, 94, 95, 96, 97])], []⟩),
  (45, ⟨[], [(2, [2, 3, 4, 5, 6, 9, 10, 11, 12, 13, 14, 15, 16, 17, 18])], []⟩),
  (47, ⟨[], [(2, [2, 3, 4, 5, 6, 9, 10, 11, 12, 13, 14, 15, 16, 17, 18])], []⟩),
  (53, ⟨[], [(5, [2, 3, 4, 7, 8, 9, 10, 11, 12, 13, 14, 15, 16, 17, 18, 19, 20, 21, 22, 23, 24, 25, 26, 27, 28, 29, 30, 31, 32, 33, 34, 35, 36, 37, 38, 39, 40, 41])], []⟩),
  (55, ⟨[], [(4, [2, 3, 4, 5, 9, 10, 11, 12, 13, 14, 15, 16, 17, 18, 19, 20, 21, 22, 23, 24, 25, 26, 27, 28, 29, 30, 31, 32, 33, 34, 35, 36, 37, 38, 39, 40, 41, 42, 43, 44, 45, 46, 47, 48])], []⟩),
  (56, ⟨[], [(2, [1, 2, 4, 5, 6, 7, 8, 9, 10, 11, 12, 13, 14, 15, 16, 17, 18, 19, 20, 21, 22, 23, 24, 25, 26, 27, 28, 29, 30, 31, 32, 33, 34, 35, 36, 37, 38, 39, 40, 41, 42, 43, 44, 45, 46, 47, 48, 49, 50, 51, 52, 53]), (4, [1, 2, 6, 7, 8, 9, 10, 11, 12, 13, 14, 15, 16, 17, 18, 19, 20, 21, 22, 23, 24, 25, 26, 27, 28, 29, 30, 31, 32, 33, 34, 35, 36, 37, 38, 39, 40, 41, 42, 43, 44, 45, 46, 47, 48, 49, 50, 51, 52, 53])], []⟩),
  (72, ⟨[], [(1, [1, 2, 3, 4, 6, 7, 8, 9, 10, 11, 12, 13])], []⟩),
  (73, ⟨[], [(2, [2, 3, 4, 5, 6, 9, 10, 11, 12, 13, 14, 15, 16, 17, 18])], []⟩)]
noncomputable abbrev P : Program := Try.prog
def reach : List Nat := [3, 4, 5, 6, 7, 8, 9, 10, 11, 12, 13, 14, 15, 16, 17, 18, 19, 20, 21, 22, 23, 24, 25, 26, 27, 28, 29, 30, 32, 33, 34, 35, 36, 37, 38, 39, 40, 41, 42, 43, 44, 45, 47, 51, 52, 53, 54, 55, 56, 72, 73]
def noteOf (f : FuncId) : Notes := (find notes f).getD ⟨[], [], []⟩
noncomputable def prims : List (FuncId × (List V → VH → VRes)) := [(31, sortP), (46, insP 66 3), (50, sortedP [72] 9)]
noncomputable def tab : VTab := mkVp (mkV P noteOf reach [] (fun f => !among [15, 17, 27, 28] f) (among [9, 14, 16, 19, 20, 21, 22, 36, 37, 38, 39, 40, 41, 42, 43, 55, 56]) (fun f g => among2 [] f g) (fun f => !among [] f)) prims
/-! godown/godownlaw15.WaitRings -/
noncomputable def L3_0 (n m : Nat) (s1 : Int) (s5 : Int) (s6 : VP) (s7 : Int) (h : VH) : VRes := loopAt P tab 3 [1, 1, 1, 1, 0, 1, 0] n [] m [.undef, .int .u8 s1, .undef, .undef, .undef, .int .i64 s5, .ptr s6, .int .i64 s7, .undef, .undef, .undef, .undef, .undef, .undef, .undef, .undef, .undef, .undef, .undef, .undef, .undef, .undef, .undef, .undef, .undef, .undef, .undef, .undef, .undef, .undef, .undef, .undef, .undef, .undef, .undef, .undef, .undef, .undef, .undef, .undef, .undef, .undef, .undef, .undef, .undef, .undef, .undef, .undef, .undef, .undef, .undef, .undef, .undef, .undef, .undef, .undef, .undef, .undef, .undef, .undef, .undef, .undef, .undef, .undef, .undef, .undef, .undef, .undef, .undef, .undef, .undef, .undef, .undef, .undef, .undef, .undef, .undef, .undef, .undef, .undef, .undef, .undef, .undef, .undef, .undef, .undef, .undef, .undef, .undef, .undef, .undef, .undef, .undef, .undef, .undef, .undef, .undef, .undef, .undef, .undef, .undef, .undef, .undef, .undef, .undef, .undef, .undef, .undef] h
noncomputable def L3_1 (n m : Nat) (s1 : Int) (s5 : Int) (s6 : VP) (s8 : VS) (s9 : Int) (h : VH) : VRes := loopAt P tab 3 [1, 1, 1, 1, 1, 1, 0, 1, 0] n [] m [.undef, .int .u8 s1, .undef, .undef, .undef, .int .i64 s5, .ptr s6, .undef, .sl 3 s8, .int .i64 s9, .undef, .undef, .undef, .undef, .undef, .undef, .undef, .undef, .undef, .undef, .undef, .undef, .undef, .undef, .undef, .undef, .undef, .undef, .undef, .undef, .undef, .undef, .undef, .undef, .undef, .undef, .undef, .undef, .undef, .undef, .undef, .undef, .undef, .undef, .undef, .undef, .undef, .undef, .undef, .undef, .undef, .undef, .undef, .undef, .undef, .undef, .undef, .undef, .undef, .undef, .undef, .undef, .undef, .undef, .undef, .undef, .undef, .undef, .undef, .undef, .undef, .undef, .undef, .undef, .undef, .undef, .undef, .undef, .undef, .undef, .undef, .undef, .undef, .undef, .undef, .undef, .undef, .undef, .undef, .undef, .undef, .undef, .undef, .undef, .undef, .undef, .undef, .undef, .undef, .undef, .undef, .undef, .undef, .undef, .undef, .undef, .undef, .undef] h
theorem L3_0_eq (n m : Nat) (s1 : Int) (s5 : Int) (s6 : VP) (s7 : Int) (h : VH) : L3_0 n (m + 1) s1 s5 s6 s7 h =
  (cond (decide ((s7 : Int) < s5))
    ((strV h 5 (.fz [[.int .u8 (IntKind.wrap .u8 (IntKind.wrap .i64 (97 + s7)))]] (.ex 1))).bind fun z1 =>
      ((callD (vF P tab n) P false (.one (.flat .bool)) 11 [.ptr s6, .int .i64 (IntKind.wrap .i64 (s7 + 1)), .agg [.str z1, .bool true]] h).bind fun r2 =>
        (L3_0 n m s1 s5 s6 (IntKind.wrap .i64 (s7 + 1)) r2.2)))
    (L3_1 n n s1 s5 s6 .nil 0 h)) := by kernel_rfl
theorem L3_1_eq (n m : Nat) (s1 : Int) (s5 : Int) (s6 : VP) (s8 : VS) (s9 : Int) (h : VH) : L3_1 n (m + 1) s1 s5 s6 s8 s9 h =
  (cond (decide ((s9 : Int) < s5))
    ((callD (vF P tab n) P false (.one (.flat (.slice 3))) 12 [.ptr s6, .int .i64 (IntKind.wrap .i64 (s9 + 1))] h).bind fun r1 =>
      (cond ((((VS.len r1.1 : Nat) : Int) : Int) != 0)
        (some (.bool false, r1.2))
        ((remI (IntKind.wrap .i64 (s9 + 1)) s5).bind fun x2 =>
          ((strV r1.2 5 (.fz [[.int .u8 (IntKind.wrap .u8 (IntKind.wrap .i64 (97 + x2)))]] (.ex 1))).bind fun z3 =>
            ((callD (vF P tab n) P false (.one (.flat .bool)) 11 [.ptr s6, .int .i64 (IntKind.wrap .i64 (s9 + 1)), .agg [.str z3, .bool true]] r1.2).bind fun r4 =>
              ((appD true r4.2 1 8 3 s8 (.fz [[.int .i64 (IntKind.wrap .i64 (s9 + 1))]] (.ex 1))).bind fun r5 =>
                (L3_1 n m s1 s5 s6 r5.1 (IntKind.wrap .i64 (s9 + 1)) r5.2)))))))
    ((remI (IntKind.wrap .i64 s1) s5).bind fun x6 =>
      ((strV h 5 (.fz [[.int .u8 (IntKind.wrap .u8 (IntKind.wrap .i64 (97 + x6)))]] (.ex 1))).bind fun z7 =>
        ((callD (vF P tab n) P false (.one (.flat .bool)) 11 [.ptr s6, .int .i64 100, .agg [.str z7, .bool true]] h).bind fun r8 =>
          ((callD (vF P tab n) P false (.tup [(.flat (.int .i64)), (.flat .bool)]) 13 [.ptr s6, .int .i64 1] r8.2).bind fun r9 =>
            ((callD (vF P tab n) P false (.tup [(.flat (.int .i64)), (.flat .bool)]) 13 [.ptr s6, .int .i64 100] r9.2).bind fun r10 =>
              ((callD (vF P tab n) P false (.one (.flat (.slice 3))) 12 [.ptr s6, .int .i64 1] r10.2).bind fun r11 =>
                ((callD (vF P tab n) P false (.one (.flat .bool)) 14 [.sl 3 r11.1, .sl 3 s8] r11.2).bind fun r12 =>
                  (cond r12.1
                    (cond ((r9.1.1 : Int) == s5)
                      (cond r9.1.2.1
                        (cond (!r10.1.2.1)
                        ((callD (vF P tab n) P false (.one (.flat (.slice 3))) 15 [.ptr s6, .int .i64 100] r12.2).bind fun r13 =>
                        ((callD (vF P tab n) P false (.one (.flat .bool)) 14 [.sl 3 r13.1, .sl 3 s8] r13.2).bind fun r14 =>
                        (some (.bool r14.1, r14.2))))
                        (some (.bool false, r12.2)))
                        (some (.bool false, r12.2)))
                      (some (.bool false, r12.2)))
                    (some (.bool false, r12.2))))))))))) := by kernel_rfl
theorem f3_eq (n : Nat) (a0 : Int) (a1 : Int) (h : VH) : bodyV P tab (vF P tab n) n 3 [.int .u8 a0, .int .u8 a1] h =
  ((callD (vF P tab n) P false (.one (.flat .bool)) 9 [] h).bind fun r1 =>
    (cond (!r1.1)
      (some (.bool false, r1.2))
      ((remI a0 8).bind fun x2 =>
        ((callD (vF P tab n) P false (.one (.flat .ptr)) 10 [] r1.2).bind fun r3 =>
          (L3_0 n n a1 (IntKind.wrap .i64 (2 + (IntKind.wrap .i64 x2))) r3.1 0 r3.2))))) := by kernel_rfl
/-! godown/godownlaw15.WaitNone -/
noncomputable def L4_0 (n m : Nat) (s0 : Int) (s1 : VS) (s5 : VP) (s6 : Int) (h : VH) : VRes := loopAt P tab 4 [1, 1, 1, 0, 1, 0] n [] m [.int .i64 s0, .sl 39 s1, .undef, .undef, .undef, .ptr s5, .int .i64 s6, .undef, .undef, .undef, .undef, .undef, .undef, .undef, .undef, .undef, .undef, .undef, .undef, .undef, .undef, .undef, .undef, .undef, .undef, .undef, .undef, .undef, .undef, .undef, .undef, .undef, .undef, .undef, .undef, .undef, .undef, .undef, .undef, .undef, .undef, .undef, .undef, .undef, .undef, .undef, .undef, .undef, .undef, .undef, .undef, .undef, .undef, .undef, .undef, .undef, .undef, .undef, .undef, .undef, .undef, .undef, .undef, .undef, .undef, .undef, .undef, .undef, .undef, .undef, .undef, .undef, .undef, .undef, .undef, .undef, .undef, .undef] h
theorem L4_0_eq (n m : Nat) (s0 : Int) (s1 : VS) (s5 : VP) (s6 : Int) (h : VH) : L4_0 n (m + 1) s0 s1 s5 s6 h =
  (cond (decide ((s6 : Int) < ((VS.len s1 : Nat) : Int)))
    ((ixV 3 s1 s6).bind fun p1 =>
      ((ldV (.agg [.int .u8, .int .u8, .int .u8]) h p1).bind fun x2 =>
        ((callD (vF P tab n) P false (.tup [(.flat .str), (.flat .bool)]) 16 [.agg [.int .u8 x2.1, .int .u8 x2.2.1, .int .u8 x2.2.2.1]] h).bind fun r3 =>
          ((ixV 3 s1 s6).bind fun p4 =>
            ((atO p4 0).bind fun p5 =>
              ((ldV (.flat (.int .u8)) r3.2 p5).bind fun x6 =>
                ((callD (vF P tab n) P false (.one (.flat .bool)) 11 [.ptr s5, .int .i64 (IntKind.wrap .i64 x6), .agg [.str r3.1.1, .bool false]] r3.2).bind fun r7 =>
                  (L4_0 n m s0 s1 s5 (IntKind.wrap .i64 (s6 + 1)) r7.2))))))))
    ((callD (vF P tab n) P false (.tup [(.flat (.int .i64)), (.flat .bool)]) 13 [.ptr s5, .int .i64 s0] h).bind fun r8 =>
      ((callD (vF P tab n) P false (.tup [(.flat (.int .i64)), (.flat .bool)]) 13 [.ptr .nil, .int .i64 s0] r8.2).bind fun r9 =>
        (cond (!r8.1.2.1)
          (cond (!r9.1.2.1)
            ((callD (vF P tab n) P false (.one (.flat (.slice 3))) 15 [.ptr s5, .int .i64 s0] r9.2).bind fun r10 =>
              ((callD (vF P tab n) P false (.one (.flat (.slice 3))) 12 [.ptr .nil, .int .i64 s0] r10.2).bind fun r11 =>
                ((callD (vF P tab n) P false (.one (.flat (.slice 3))) 15 [.ptr .nil, .int .i64 s0] r11.2).bind fun r12 =>
                  (some (.bool (((IntKind.wrap .i64 ((IntKind.wrap .i64 (((VS.len r10.1 : Nat) : Int) + ((VS.len r11.1 : Nat) : Int))) + ((VS.len r12.1 : Nat) : Int))) : Int) == 0), r12.2)))))
            (some (.bool false, r9.2)))
          (some (.bool false, r9.2)))))) := by kernel_rfl
theorem f4_eq (n : Nat) (a0 : Int) (a1 : VS) (h : VH) : bodyV P tab (vF P tab n) n 4 [.int .i64 a0, .sl 39 a1] h =
  ((callD (vF P tab n) P false (.one (.flat .bool)) 9 [] h).bind fun r1 =>
    (cond (!r1.1)
      ((callD (vF P tab n) P false (.one (.flat .bool)) 9 [] r1.2).bind fun r2 =>
        (some (.bool r2.1, r2.2)))
      (cond (decide ((((VS.len a1 : Nat) : Int) : Int) > 20))
        ((callD (vF P tab n) P false (.one (.flat .bool)) 9 [] r1.2).bind fun r3 =>
          (some (.bool r3.1, r3.2)))
        ((callD (vF P tab n) P false (.one (.flat .ptr)) 10 [] r1.2).bind fun r4 =>
          (L4_0 n n a0 a1 r4.1 0 r4.2))))) := by kernel_rfl
/-! godown/godownlaw15.WaitChain -/
noncomputable def L5_0 (n m : Nat) (s1 : Bool) (s5 : Int) (s6 : VP) (s7 : Int) (h : VH) : VRes := loopAt P tab 5 [1, 1, 1, 1, 0, 1, 0] n [] m [.undef, .bool s1, .undef, .undef, .undef, .int .i64 s5, .ptr s6, .int .i64 s7, .undef, .undef, .undef, .undef, .undef, .undef, .undef, .undef, .undef, .undef, .undef, .undef, .undef, .undef, .undef, .undef, .undef, .undef, .undef, .undef, .undef, .undef, .undef, .undef, .undef, .undef, .undef, .undef, .undef, .undef, .undef, .undef, .undef, .undef, .undef, .undef, .undef, .undef, .undef, .undef, .undef, .undef, .undef, .undef, .undef, .undef, .undef, .undef, .undef, .undef, .undef, .undef, .undef, .undef, .undef, .undef, .undef, .undef, .undef, .undef, .undef, .undef, .undef, .undef, .undef, .undef, .undef, .undef, .undef, .undef, .undef, .undef, .undef, .undef, .undef, .undef, .undef, .undef, .undef, .undef] h
noncomputable def L5_1 (n m : Nat) (s1 : Bool) (s5 : Int) (s6 : VP) (s8 : Int) (h : VH) : VRes := loopAt P tab 5 [1, 1, 1, 1, 1, 0, 1, 0] n [] m [.undef, .bool s1, .undef, .undef, .undef, .int .i64 s5, .ptr s6, .undef, .int .i64 s8, .undef, .undef, .undef, .undef, .undef, .undef, .undef, .undef, .undef, .undef, .undef, .undef, .undef, .undef, .undef, .undef, .undef, .undef, .undef, .undef, .undef, .undef, .undef, .undef, .undef, .undef, .undef, .undef, .undef, .undef, .undef, .undef, .undef, .undef, .undef, .undef, .undef, .undef, .undef, .undef, .undef, .undef, .undef, .undef, .undef, .undef, .undef, .undef, .undef, .undef, .undef, .undef, .undef, .undef, .undef, .undef, .undef, .undef, .undef, .undef, .undef, .undef, .undef, .undef, .undef, .undef, .undef, .undef, .undef, .undef, .undef, .undef, .undef, .undef, .undef, .undef, .undef, .undef, .undef] h
noncomputable def L5_2 (n m : Nat) (s5 : Int) (s6 : VP) (s9 : Int) (h : VH) : VRes := loopAt P tab 5 [1, 1, 1, 1, 1, 1, 0, 1, 0] n [] m [.undef, .undef, .undef, .undef, .undef, .int .i64 s5, .ptr s6, .undef, .undef, .int .i64 s9, .undef, .undef, .undef, .undef, .undef, .undef, .undef, .undef, .undef, .undef, .undef, .undef, .undef, .undef, .undef, .undef, .undef, .undef, .undef, .undef, .undef, .undef, .undef, .undef, .undef, .undef, .undef, .undef, .undef, .undef, .undef, .undef, .undef, .undef, .undef, .undef, .undef, .undef, .undef, .undef, .undef, .undef, .undef, .undef, .undef, .undef, .undef, .undef, .undef, .undef, .undef, .undef, .undef, .undef, .undef, .undef, .undef, .undef, .undef, .undef, .undef, .undef, .undef, .undef, .undef, .undef, .undef, .undef, .undef, .undef, .undef, .undef, .undef, .undef, .undef, .undef, .undef, .undef] h
theorem L5_0_eq (n m : Nat) (s1 : Bool) (s5 : Int) (s6 : VP) (s7 : Int) (h : VH) : L5_0 n (m + 1) s1 s5 s6 s7 h =
  (cond (decide ((s7 : Int) < s5))
    ((strV h 5 (.fz [[.int .u8 (IntKind.wrap .u8 (IntKind.wrap .i64 (97 + s7)))]] (.ex 1))).bind fun z1 =>
      ((callD (vF P tab n) P false (.one (.flat .bool)) 11 [.ptr s6, .int .i64 s7, .agg [.str z1, .bool true]] h).bind fun r2 =>
        (L5_0 n m s1 s5 s6 (IntKind.wrap .i64 (s7 + 1)) r2.2)))
    (L5_1 n n s1 s5 s6 0 h)) := by kernel_rfl
theorem L5_1_eq (n m : Nat) (s1 : Bool) (s5 : Int) (s6 : VP) (s8 : Int) (h : VH) : L5_1 n (m + 1) s1 s5 s6 s8 h =
  (cond (decide ((s8 : Int) < (IntKind.wrap .i64 (s5 - 1))))
    ((strV h 5 (.fz [[.int .u8 (IntKind.wrap .u8 (IntKind.wrap .i64 ((IntKind.wrap .i64 (97 + s8)) + 1)))]] (.ex 1))).bind fun z1 =>
      ((callD (vF P tab n) P false (.one (.flat .bool)) 11 [.ptr s6, .int .i64 s8, .agg [.str z1, .bool (!s1)]] h).bind fun r2 =>
        (L5_1 n m s1 s5 s6 (IntKind.wrap .i64 (s8 + 1)) r2.2)))
    (L5_2 n n s5 s6 0 h)) := by kernel_rfl
theorem L5_2_eq (n m : Nat) (s5 : Int) (s6 : VP) (s9 : Int) (h : VH) : L5_2 n (m + 1) s5 s6 s9 h =
  (cond (decide ((s9 : Int) < s5))
    ((callD (vF P tab n) P false (.one (.flat (.slice 3))) 15 [.ptr s6, .int .i64 s9] h).bind fun r1 =>
      (cond ((((VS.len r1.1 : Nat) : Int) : Int) != (IntKind.wrap .i64 ((IntKind.wrap .i64 (s5 - 1)) - s9)))
        (some (.bool false, r1.2))
        ((callD (vF P tab n) P false (.one (.flat (.slice 3))) 12 [.ptr s6, .int .i64 s9] r1.2).bind fun r2 =>
          (cond ((((VS.len r2.1 : Nat) : Int) : Int) != 0)
            (some (.bool false, r2.2))
            (cond (decide ((s9 : Int) < (IntKind.wrap .i64 (s5 - 1))))
              ((callD (vF P tab n) P false (.one (.flat (.slice 3))) 17 [.ptr s6, .int .i64 s9] r2.2).bind fun r3 =>
                ((callD (vF P tab n) P false (.one (.flat .bool)) 14 [.sl 3 r3.1, .sl 3 (.fz [[.int .i64 (IntKind.wrap .i64 (s9 + 1))]] (.ex 1))] r3.2).bind fun r4 =>
                  (cond (!r4.1)
                    (some (.bool false, r4.2))
                    (L5_2 n m s5 s6 (IntKind.wrap .i64 (s9 + 1)) r4.2))))
              (L5_2 n m s5 s6 (IntKind.wrap .i64 (s9 + 1)) r2.2))))))
    (some (.bool true, h))) := by kernel_rfl
theorem f5_eq (n : Nat) (a0 : Int) (a1 : Bool) (h : VH) : bodyV P tab (vF P tab n) n 5 [.int .u8 a0, .bool a1] h =
  ((callD (vF P tab n) P false (.one (.flat .bool)) 9 [] h).bind fun r1 =>
    (cond (!r1.1)
      (some (.bool false, r1.2))
      ((remI a0 9).bind fun x2 =>
        ((callD (vF P tab n) P false (.one (.flat .ptr)) 10 [] r1.2).bind fun r3 =>
          (L5_0 n n a1 (IntKind.wrap .i64 (2 + (IntKind.wrap .i64 x2))) r3.1 0 r3.2))))) := by kernel_rfl
/-! godown/godownlaw15.WaitPlays -/
noncomputable def L6_0 (n m : Nat) (s0 : VS) (s3 : VP) (s4 : VS) (s5 : Int) (h : VH) : VRes := loopAt P tab 6 [1, 1, 1, 1, 0, 1, 0] n [] m [.sl 39 s0, .undef, .undef, .ptr s3, .sl 78 s4, .int .i64 s5, .undef, .undef, .undef, .undef, .undef, .undef, .undef, .undef, .undef, .undef, .undef, .undef, .undef, .undef, .undef, .undef, .undef, .undef, .undef, .undef, .undef, .undef, .undef, .undef, .undef, .undef, .undef, .undef, .undef, .undef, .undef, .undef, .undef, .undef, .undef, .undef, .undef, .undef, .undef, .undef, .undef, .undef, .undef, .undef, .undef, .undef, .undef, .undef, .undef, .undef, .undef, .undef, .undef, .undef, .undef, .undef, .undef, .undef, .undef, .undef, .undef, .undef, .undef, .undef, .undef, .undef, .undef, .undef, .undef, .undef, .undef, .undef, .undef, .undef, .undef, .undef, .undef, .undef, .undef, .undef, .undef, .undef, .undef, .undef, .undef, .undef, .undef, .undef, .undef, .undef, .undef, .undef, .undef, .undef, .undef, .undef, .undef, .undef, .undef, .undef, .undef, .undef, .undef, .undef, .undef, .undef, .undef, .undef, .undef, .undef, .undef, .undef, .undef, .undef, .undef, .undef, .undef, .undef, .undef, .undef, .undef, .undef, .undef, .undef, .undef] h
noncomputable def L6_1 (n m0 m : Nat) (s0 : VS) (s3 : VP) (s4 : VS) (s5 : Int) (s9 : Int) (h : VH) : VRes := loopAt P tab 6 [1, 1, 1, 1, 0, 1, 0, 0, 1, 0, 0, 1, 1, 1, 1, 0] n [m0] m [.sl 39 s0, .undef, .undef, .ptr s3, .sl 78 s4, .int .i64 s5, .undef, .undef, .undef, .int .i64 s9, .undef, .undef, .undef, .undef, .undef, .undef, .undef, .undef, .undef, .undef, .undef, .undef, .undef, .undef, .undef, .undef, .undef, .undef, .undef, .undef, .undef, .undef, .undef, .undef, .undef, .undef, .undef, .undef, .undef, .undef, .undef, .undef, .undef, .undef, .undef, .undef, .undef, .undef, .undef, .undef, .undef, .undef, .undef, .undef, .undef, .undef, .undef, .undef, .undef, .undef, .undef, .undef, .undef, .undef, .undef, .undef, .undef, .undef, .undef, .undef, .undef, .undef, .undef, .undef, .undef, .undef, .undef, .undef, .undef, .undef, .undef, .undef, .undef, .undef, .undef, .undef, .undef, .undef, .undef, .undef, .undef, .undef, .undef, .undef, .undef, .undef, .undef, .undef, .undef, .undef, .undef, .undef, .undef, .undef, .undef, .undef, .undef, .undef, .undef, .undef, .undef, .undef, .undef, .undef, .undef, .undef, .undef, .undef, .undef, .undef, .undef, .undef, .undef, .undef, .undef, .undef, .undef, .undef, .undef, .undef, .undef] h
theorem L6_0_eq (n m : Nat) (s0 : VS) (s3 : VP) (s4 : VS) (s5 : Int) (h : VH) : L6_0 n (m + 1) s0 s3 s4 s5 h =
  (cond (decide ((s5 : Int) < ((VS.len s0 : Nat) : Int)))
    ((ixV 3 s0 s5).bind fun p1 =>
      ((atO p1 0).bind fun p2 =>
        ((ldV (.flat (.int .u8)) h p2).bind fun x3 =>
          ((remI x3 6).bind fun x4 =>
            ((ixV 3 s0 s5).bind fun p5 =>
              ((ldV (.agg [.int .u8, .int .u8, .int .u8]) h p5).bind fun x6 =>
                ((callD (vF P tab n) P false (.tup [(.flat .str), (.flat .bool)]) 16 [.agg [.int .u8 x6.1, .int .u8 x6.2.1, .int .u8 x6.2.2.1]] h).bind fun r7 =>
                  ((ixV 3 s0 s5).bind fun p8 =>
                    ((atO p8 2).bind fun p9 =>
                      ((ldV (.flat (.int .u8)) r7.2 p9).bind fun x10 =>
                        ((remI x10 16).bind fun x11 =>
                        (cond ((x11 : Int) == 15)
                        ((callD (vF P tab n) P false (.one (.flat (.slice 3))) 18 [.ptr s3, .int .i64 (IntKind.wrap .i64 x4)] r7.2).bind fun r12 =>
                        ((callD (vF P tab n) P false (.tup [(.flat (.slice 78)), (.flat (.slice 3))]) 19 [.sl 78 s4, .int .i64 (IntKind.wrap .i64 x4)] r12.2).bind fun r13 =>
                        (L6_1 n m n s0 s3 r13.1.1 s5 0 r13.2)))
                        ((callD (vF P tab n) P false (.one (.flat .bool)) 11 [.ptr s3, .int .i64 (IntKind.wrap .i64 x4), .agg [.str r7.1.1, .bool r7.1.2.1]] r7.2).bind fun r14 =>
                        ((callD (vF P tab n) P false (.tup [(.flat (.slice 78)), (.flat .bool)]) 20 [.sl 78 s4, .int .i64 (IntKind.wrap .i64 x4), .agg [.str r7.1.1, .bool r7.1.2.1]] r14.2).bind fun r15 =>
                        (L6_1 n m n s0 s3 r15.1.1 s5 0 r15.2)))))))))))))))
    (some (.bool true, h))) := by kernel_rfl
theorem L6_1_eq (n m0 m : Nat) (s0 : VS) (s3 : VP) (s4 : VS) (s5 : Int) (s9 : Int) (h : VH) : L6_1 n m0 (m + 1) s0 s3 s4 s5 s9 h =
  (cond (decide ((s9 : Int) < 7))
    ((callD (vF P tab n) P false (.one (.flat (.slice 3))) 21 [.sl 78 s4, .int .i64 s9] h).bind fun r1 =>
      ((callD (vF P tab n) P false (.tup [(.flat (.int .i64)), (.flat .bool)]) 13 [.ptr s3, .int .i64 s9] r1.2).bind fun r2 =>
        ((callD (vF P tab n) P false (.one (.flat (.slice 3))) 15 [.ptr s3, .int .i64 s9] r2.2).bind fun r3 =>
          ((callD (vF P tab n) P false (.one (.flat (.slice 3))) 22 [.sl 78 s4, .int .i64 s9] r3.2).bind fun r4 =>
            ((callD (vF P tab n) P false (.one (.flat .bool)) 14 [.sl 3 r3.1, .sl 3 r4.1] r4.2).bind fun r5 =>
              (cond (!r5.1)
                (some (.bool false, r5.2))
                ((callD (vF P tab n) P false (.one (.flat (.slice 3))) 12 [.ptr s3, .int .i64 s9] r5.2).bind fun r6 =>
                  ((callD (vF P tab n) P false (.one (.flat .bool)) 14 [.sl 3 r6.1, .sl 3 r1.1] r6.2).bind fun r7 =>
                    (cond (!r7.1)
                      (some (.bool false, r7.2))
                      (cond (!(r2.1.2.1 == (decide ((((VS.len r1.1 : Nat) : Int) : Int) > 0))))
                        (some (.bool false, r7.2))
                        (cond r2.1.2.1
                        ((ixV 1 r1.1 (IntKind.wrap .i64 (((VS.len r1.1 : Nat) : Int) - 1))).bind fun p8 =>
                        ((ldV (.flat (.int .i64)) r7.2 p8).bind fun x9 =>
                        (cond ((r2.1.1 : Int) != x9)
                        (some (.bool false, r7.2))
                        (cond (!r2.1.2.1)
                        (cond ((r2.1.1 : Int) != 0)
                        (some (.bool false, r7.2))
                        (L6_1 n m0 m s0 s3 s4 s5 (IntKind.wrap .i64 (s9 + 1)) r7.2))
                        (L6_1 n m0 m s0 s3 s4 s5 (IntKind.wrap .i64 (s9 + 1)) r7.2)))))
                        (cond (!r2.1.2.1)
                        (cond ((r2.1.1 : Int) != 0)
                        (some (.bool false, r7.2))
                        (L6_1 n m0 m s0 s3 s4 s5 (IntKind.wrap .i64 (s9 + 1)) r7.2))
                        (L6_1 n m0 m s0 s3 s4 s5 (IntKind.wrap .i64 (s9 + 1)) r7.2)))))))))))))
    (L6_0 n m0 s0 s3 s4 (IntKind.wrap .i64 (s5 + 1)) h)) := by kernel_rfl
theorem f6_eq (n : Nat) (a0 : VS) (h : VH) : bodyV P tab (vF P tab n) n 6 [.sl 39 a0] h =
  ((callD (vF P tab n) P false (.one (.flat .bool)) 9 [] h).bind fun r1 =>
    (cond (!r1.1)
      ((callD (vF P tab n) P false (.one (.flat .bool)) 9 [] r1.2).bind fun r2 =>
        (some (.bool r2.1, r2.2)))
      (cond (decide ((((VS.len a0 : Nat) : Int) : Int) > 60))
        ((callD (vF P tab n) P false (.one (.flat .bool)) 9 [] r1.2).bind fun r3 =>
          (some (.bool r3.1, r3.2)))
        ((callD (vF P tab n) P false (.one (.flat .ptr)) 10 [] r1.2).bind fun r4 =>
          (L6_0 n n a0 r4.1 .nil 0 r4.2))))) := by kernel_rfl
/-! godown/godownlaw15.WaitBreaks -/
noncomputable def L7_0 (n m : Nat) (s0 : VS) (s3 : VP) (s4 : Int) (h : VH) : VRes := loopAt P tab 7 [1, 1, 1, 0, 1, 0] n [] m [.sl 39 s0, .undef, .undef, .ptr s3, .int .i64 s4, .undef, .undef, .undef, .undef, .undef, .undef, .undef, .undef, .undef, .undef, .undef, .undef, .undef, .undef, .undef, .undef, .undef, .undef, .undef, .undef, .undef, .undef, .undef, .undef, .undef, .undef, .undef, .undef, .undef, .undef, .undef, .undef, .undef, .undef, .undef, .undef, .undef, .undef, .undef, .undef, .undef, .undef, .undef, .undef, .undef, .undef, .undef, .undef, .undef, .undef, .undef, .undef, .undef, .undef, .undef, .undef, .undef, .undef, .undef, .undef, .undef, .undef, .undef, .undef, .undef, .undef, .undef, .undef, .undef, .undef, .undef, .undef, .undef, .undef, .undef, .undef, .undef, .undef, .undef, .undef, .undef, .undef, .undef, .undef, .undef, .undef, .undef, .undef, .undef, .undef, .undef, .undef, .undef, .undef, .undef, .undef, .undef, .undef, .undef, .undef, .undef, .undef] h
noncomputable def L7_1 (n m0 m : Nat) (s0 : VS) (s3 : VP) (s4 : Int) (s11 : Int) (s12 : Int) (h : VH) : VRes := loopAt P tab 7 [1, 1, 1, 0, 1, 0, 0, 1, 0, 0, 1, 1, 1, 1, 0, 1, 0] n [m0] m [.sl 39 s0, .undef, .undef, .ptr s3, .int .i64 s4, .undef, .undef, .undef, .undef, .undef, .undef, .int .i64 s11, .int .i64 s12, .undef, .undef, .undef, .undef, .undef, .undef, .undef, .undef, .undef, .undef, .undef, .undef, .undef, .undef, .undef, .undef, .undef, .undef, .undef, .undef, .undef, .undef, .undef, .undef, .undef, .undef, .undef, .undef, .undef, .undef, .undef, .undef, .undef, .undef, .undef, .undef, .undef, .undef, .undef, .undef, .undef, .undef, .undef, .undef, .undef, .undef, .undef, .undef, .undef, .undef, .undef, .undef, .undef, .undef, .undef, .undef, .undef, .undef, .undef, .undef, .undef, .undef, .undef, .undef, .undef, .undef, .undef, .undef, .undef, .undef, .undef, .undef, .undef, .undef, .undef, .undef, .undef, .undef, .undef, .undef, .undef, .undef, .undef, .undef, .undef, .undef, .undef, .undef, .undef, .undef, .undef, .undef, .undef, .undef] h
noncomputable def L7_2 (n m0 m : Nat) (s0 : VS) (s3 : VP) (s4 : Int) (s5 : Int) (s8 : Int) (h : VH) : VRes := loopAt P tab 7 [1, 1, 1, 0, 1, 0, 0, 1, 0, 0, 1, 1, 0, 1, 1, 1, 0, 1, 0] n [m0] m [.sl 39 s0, .undef, .undef, .ptr s3, .int .i64 s4, .int .i64 s5, .undef, .undef, .int .i64 s8, .undef, .undef, .undef, .undef, .undef, .undef, .undef, .undef, .undef, .undef, .undef, .undef, .undef, .undef, .undef, .undef, .undef, .undef, .undef, .undef, .undef, .undef, .undef, .undef, .undef, .undef, .undef, .undef, .undef, .undef, .undef, .undef, .undef, .undef, .undef, .undef, .undef, .undef, .undef, .undef, .undef, .undef, .undef, .undef, .undef, .undef, .undef, .undef, .undef, .undef, .undef, .undef, .undef, .undef, .undef, .undef, .undef, .undef, .undef, .undef, .undef, .undef, .undef, .undef, .undef, .undef, .undef, .undef, .undef, .undef, .undef, .undef, .undef, .undef, .undef, .undef, .undef, .undef, .undef, .undef, .undef, .undef, .undef, .undef, .undef, .undef, .undef, .undef, .undef, .undef, .undef, .undef, .undef, .undef, .undef, .undef, .undef, .undef] h
theorem L7_0_eq (n m : Nat) (s0 : VS) (s3 : VP) (s4 : Int) (h : VH) : L7_0 n (m + 1) s0 s3 s4 h =
  (cond (decide ((s4 : Int) < ((VS.len s0 : Nat) : Int)))
    ((ixV 3 s0 s4).bind fun p1 =>
      ((atO p1 0).bind fun p2 =>
        ((ldV (.flat (.int .u8)) h p2).bind fun x3 =>
          ((remI x3 6).bind fun x4 =>
            ((ixV 3 s0 s4).bind fun p5 =>
              ((ldV (.agg [.int .u8, .int .u8, .int .u8]) h p5).bind fun x6 =>
                ((callD (vF P tab n) P false (.tup [(.flat .str), (.flat .bool)]) 16 [.agg [.int .u8 x6.1, .int .u8 x6.2.1, .int .u8 x6.2.2.1]] h).bind fun r7 =>
                  ((ixV 3 s0 s4).bind fun p8 =>
                    ((atO p8 2).bind fun p9 =>
                      ((ldV (.flat (.int .u8)) r7.2 p9).bind fun x10 =>
                        ((remI x10 16).bind fun x11 =>
                        (cond ((x11 : Int) == 15)
                        ((callD (vF P tab n) P false (.one (.flat (.slice 3))) 18 [.ptr s3, .int .i64 (IntKind.wrap .i64 x4)] r7.2).bind fun r12 =>
                        (L7_1 n m n s0 s3 s4 0 0 r12.2))
                        ((callD (vF P tab n) P false (.one (.flat .bool)) 11 [.ptr s3, .int .i64 (IntKind.wrap .i64 x4), .agg [.str r7.1.1, .bool r7.1.2.1]] r7.2).bind fun r13 =>
                        (cond (!r13.1)
                        (L7_2 n m n s0 s3 s4 (IntKind.wrap .i64 x4) 0 r13.2)
                        (L7_1 n m n s0 s3 s4 0 0 r13.2)))))))))))))))
    (some (.bool true, h))) := by kernel_rfl
theorem L7_1_eq (n m0 m : Nat) (s0 : VS) (s3 : VP) (s4 : Int) (s11 : Int) (s12 : Int) (h : VH) : L7_1 n m0 (m + 1) s0 s3 s4 s11 s12 h =
  (cond (decide ((s12 : Int) < 6))
    ((callD (vF P tab n) P false (.tup [(.agg [.str, .bool]), (.flat .bool)]) 23 [.ptr s3, .int .i64 s12] h).bind fun r1 =>
      ((stV (r1.2 ++ [.row (28 + boxK) [.str ⟨#[]⟩, .bool false]]) (.ob r1.2.length 0) [.str r1.1.1.1, .bool r1.1.1.2.1]).bind fun h2 =>
        (cond r1.1.2.1
          ((callD (vF P tab n) P false (.one (.flat (.slice 3))) 12 [.ptr s3, .int .i64 s12] h2).bind fun r3 =>
            (cond (decide ((((VS.len r3.1 : Nat) : Int) : Int) > 0))
              (some (.bool false, r3.2))
              (cond r1.1.2.1
                ((callD (vF P tab n) P false (.one (.flat (.slice 3))) 15 [.ptr s3, .int .i64 s12] r3.2).bind fun r4 =>
                  (cond ((((VS.len r4.1 : Nat) : Int) : Int) == 0)
                    (some (.bool false, r4.2))
                    (L7_1 n m0 m s0 s3 s4 (IntKind.wrap .i64 (s11 + 1)) (IntKind.wrap .i64 (s12 + 1)) r4.2)))
                (L7_1 n m0 m s0 s3 s4 (IntKind.wrap .i64 (s11 + 1)) (IntKind.wrap .i64 (s12 + 1)) r3.2))))
          ((callD (vF P tab n) P false (.one (.flat (.slice 3))) 12 [.ptr s3, .int .i64 s12] h2).bind fun r5 =>
            (cond (decide ((((VS.len r5.1 : Nat) : Int) : Int) > 0))
              (some (.bool false, r5.2))
              (cond r1.1.2.1
                ((callD (vF P tab n) P false (.one (.flat (.slice 3))) 15 [.ptr s3, .int .i64 s12] r5.2).bind fun r6 =>
                  (cond ((((VS.len r6.1 : Nat) : Int) : Int) == 0)
                    (some (.bool false, r6.2))
                    (L7_1 n m0 m s0 s3 s4 s11 (IntKind.wrap .i64 (s12 + 1)) r6.2)))
                (L7_1 n m0 m s0 s3 s4 s11 (IntKind.wrap .i64 (s12 + 1)) r5.2)))))))
    (cond ((s11 : Int) == 6)
      (some (.bool false, h))
      (L7_0 n m0 s0 s3 (IntKind.wrap .i64 (s4 + 1)) h))) := by kernel_rfl
theorem L7_2_eq (n m0 m : Nat) (s0 : VS) (s3 : VP) (s4 : Int) (s5 : Int) (s8 : Int) (h : VH) : L7_2 n m0 (m + 1) s0 s3 s4 s5 s8 h =
  (cond (decide ((s8 : Int) < 10))
    ((callD (vF P tab n) P false (.tup [(.flat (.int .i64)), (.flat .bool)]) 13 [.ptr s3, .int .i64 s5] h).bind fun r1 =>
      (cond (!r1.1.2.1)
        (L7_1 n m0 n s0 s3 s4 0 0 r1.2)
        ((callD (vF P tab n) P false (.one (.flat (.slice 3))) 18 [.ptr s3, .int .i64 r1.1.1] r1.2).bind fun r2 =>
          (L7_2 n m0 m s0 s3 s4 s5 (IntKind.wrap .i64 (s8 + 1)) r2.2))))
    (L7_1 n m0 n s0 s3 s4 0 0 h)) := by kernel_rfl
theorem f7_eq (n : Nat) (a0 : VS) (h : VH) : bodyV P tab (vF P tab n) n 7 [.sl 39 a0] h =
  ((callD (vF P tab n) P false (.one (.flat .bool)) 9 [] h).bind fun r1 =>
    (cond (!r1.1)
      ((callD (vF P tab n) P false (.one (.flat .bool)) 9 [] r1.2).bind fun r2 =>
        (some (.bool r2.1, r2.2)))
      (cond (decide ((((VS.len a0 : Nat) : Int) : Int) > 80))
        ((callD (vF P tab n) P false (.one (.flat .bool)) 9 [] r1.2).bind fun r3 =>
          (some (.bool r3.1, r3.2)))
        ((callD (vF P tab n) P false (.one (.flat .ptr)) 10 [] r1.2).bind fun r4 =>
          (L7_0 n n a0 r4.1 0 r4.2))))) := by kernel_rfl
/-! godown/godownlaw15.WaitUp -/
theorem f8_eq (n : Nat) (a0 : Int) (a1 : Int) (a2 : Bool) (h : VH) : bodyV P tab (vF P tab n) n 8 [.int .u8 a0, .int .u8 a1, .bool a2] h =
  ((callD (vF P tab n) P false (.one (.flat .bool)) 9 [] h).bind fun r1 =>
    (cond (!r1.1)
      (some (.bool false, r1.2))
      ((callD (vF P tab n) P false (.one (.flat .ptr)) 10 [] r1.2).bind fun r2 =>
        ((callD (vF P tab n) P false (.one (.flat .bool)) 11 [.ptr r2.1, .int .i64 (IntKind.wrap .i64 a0), .agg [.str ⟨#[97]⟩, .bool false]] r2.2).bind fun r3 =>
          ((callD (vF P tab n) P false (.one (.flat .bool)) 11 [.ptr r2.1, .int .i64 (IntKind.wrap .i64 ((IntKind.wrap .i64 ((IntKind.wrap .i64 a0) + 1)) + (IntKind.wrap .i64 a1))), .agg [.str ⟨#[97]⟩, .bool false]] r3.2).bind fun r4 =>
            (cond a2
              ((callD (vF P tab n) P false (.one (.flat .bool)) 11 [.ptr r2.1, .int .i64 1000, .agg [.str ⟨#[97]⟩, .bool true]] r4.2).bind fun r5 =>
                ((callD (vF P tab n) P false (.one (.flat .bool)) 11 [.ptr r2.1, .int .i64 (IntKind.wrap .i64 a0), .agg [.str ⟨#[97]⟩, .bool true]] r5.2).bind fun r6 =>
                  ((callD (vF P tab n) P false (.one (.flat (.slice 3))) 12 [.ptr r2.1, .int .i64 (IntKind.wrap .i64 a0)] r6.2).bind fun r7 =>
                    ((callD (vF P tab n) P false (.one (.flat .bool)) 11 [.ptr r2.1, .int .i64 (IntKind.wrap .i64 ((IntKind.wrap .i64 ((IntKind.wrap .i64 a0) + 1)) + (IntKind.wrap .i64 a1))), .agg [.str ⟨#[97]⟩, .bool true]] r7.2).bind fun r8 =>
                      ((callD (vF P tab n) P false (.tup [(.flat (.int .i64)), (.flat .bool)]) 13 [.ptr r2.1, .int .i64 (IntKind.wrap .i64 ((IntKind.wrap .i64 ((IntKind.wrap .i64 a0) + 1)) + (IntKind.wrap .i64 a1)))] r8.2).bind fun r9 =>
                        (cond (!r6.1)
                        (cond ((((VS.len r7.1 : Nat) : Int) : Int) == 0)
                        (cond (!r8.1)
                        (cond r9.1.2.1
                        (cond ((r9.1.1 : Int) == (IntKind.wrap .i64 ((IntKind.wrap .i64 ((IntKind.wrap .i64 a0) + 1)) + (IntKind.wrap .i64 a1))))
                        ((callD (vF P tab n) P false (.one (.flat (.slice 3))) 18 [.ptr r2.1, .int .i64 (IntKind.wrap .i64 ((IntKind.wrap .i64 ((IntKind.wrap .i64 a0) + 1)) + (IntKind.wrap .i64 a1)))] r9.2).bind fun r10 =>
                        ((callD (vF P tab n) P false (.one (.flat .bool)) 14 [.sl 3 r10.1, .sl 3 (.fz [[.int .i64 (IntKind.wrap .i64 a0)]] (.ex 1))] r10.2).bind fun r11 =>
                        (some (.bool r11.1, r11.2))))
                        (some (.bool false, r9.2)))
                        (some (.bool false, r9.2)))
                        (some (.bool false, r9.2)))
                        (some (.bool false, r9.2)))
                        (some (.bool false, r9.2))))))))
              ((callD (vF P tab n) P false (.one (.flat .bool)) 11 [.ptr r2.1, .int .i64 (IntKind.wrap .i64 a0), .agg [.str ⟨#[97]⟩, .bool true]] r4.2).bind fun r12 =>
                ((callD (vF P tab n) P false (.one (.flat (.slice 3))) 12 [.ptr r2.1, .int .i64 (IntKind.wrap .i64 a0)] r12.2).bind fun r13 =>
                  ((callD (vF P tab n) P false (.one (.flat .bool)) 11 [.ptr r2.1, .int .i64 (IntKind.wrap .i64 ((IntKind.wrap .i64 ((IntKind.wrap .i64 a0) + 1)) + (IntKind.wrap .i64 a1))), .agg [.str ⟨#[97]⟩, .bool true]] r13.2).bind fun r14 =>
                    ((callD (vF P tab n) P false (.tup [(.flat (.int .i64)), (.flat .bool)]) 13 [.ptr r2.1, .int .i64 (IntKind.wrap .i64 ((IntKind.wrap .i64 ((IntKind.wrap .i64 a0) + 1)) + (IntKind.wrap .i64 a1)))] r14.2).bind fun r15 =>
                      (cond (!r12.1)
                        (cond ((((VS.len r13.1 : Nat) : Int) : Int) == 0)
                        (cond (!r14.1)
                        (cond r15.1.2.1
                        (cond ((r15.1.1 : Int) == (IntKind.wrap .i64 ((IntKind.wrap .i64 ((IntKind.wrap .i64 a0) + 1)) + (IntKind.wrap .i64 a1))))
                        ((callD (vF P tab n) P false (.one (.flat (.slice 3))) 18 [.ptr r2.1, .int .i64 (IntKind.wrap .i64 ((IntKind.wrap .i64 ((IntKind.wrap .i64 a0) + 1)) + (IntKind.wrap .i64 a1)))] r15.2).bind fun r16 =>
                        ((callD (vF P tab n) P false (.one (.flat .bool)) 14 [.sl 3 r16.1, .sl 3 (.fz [[.int .i64 (IntKind.wrap .i64 a0)]] (.ex 1))] r16.2).bind fun r17 =>
                        (some (.bool r17.1, r17.2))))
                        (some (.bool false, r15.2)))
                        (some (.bool false, r15.2)))
                        (some (.bool false, r15.2)))
                        (some (.bool false, r15.2)))
                        (some (.bool false, r15.2))))))))))))) := by kernel_rfl
/-! godown/lock.New -/
theorem f10_eq (n : Nat)  (h : VH) : bodyV P tab (vF P tab n) n 10 [] h =
  (some (.ptr (.ob (List.length ((List.append (α := VO) (h ++ [.map .str []]) [.map (.int .i64) []]) : VH)) 0), (List.append (α := VO) (List.append (α := VO) (h ++ [.map .str []]) [.map (.int .i64) []]) [.row (58 + boxK) [.map (some h.length), .map (some (List.length ((h ++ [.map .str []]) : VH)))]]))) := by kernel_rfl
/-! (*godown/lock.Table).Ask -/
theorem f11_eq (n : Nat) (a0 : VP) (a1 : Int) (a2_0 : ByteArray) (a2_1 : Bool) (h : VH) : bodyV P tab (vF P tab n) n 11 [.ptr a0, .int .i64 a1, .agg [.str a2_0, .bool a2_1]] h =
  (cond (VP.isNil a0)
    (some (.bool false, (h ++ [.row (28 + boxK) [.str a2_0, .bool a2_1]])))
    ((nn a0).bind fun p1 =>
      ((atO p1 1).bind fun p2 =>
        ((ldV (.flat .map) (h ++ [.row (28 + boxK) [.str a2_0, .bool a2_1]]) p2).bind fun x3 =>
          ((V.lookD P 9 (.flat .str) (h ++ [.row (28 + boxK) [.str a2_0, .bool a2_1]]) (.int .i64) x3 (.int .i64 a1)).bind fun x4 =>
            (cond x4.2
              (some (.bool false, (h ++ [.row (28 + boxK) [.str a2_0, .bool a2_1]])))
              ((ldV (.flat .str) (h ++ [.row (28 + boxK) [.str a2_0, .bool a2_1]]) (.ob h.length 0)).bind fun x5 =>
                ((callD (vF P tab n) P false (.one (.flat .ptr)) 24 [.ptr a0, .str x5] (h ++ [.row (28 + boxK) [.str a2_0, .bool a2_1]])).bind fun r6 =>
                  ((nn r6.1).bind fun p7 =>
                    ((atO p7 0).bind fun p8 =>
                      ((ldV (.flat (.slice 3)) r6.2 p8).bind fun x9 =>
                        ((callD (vF P tab n) P false (.one (.flat .bool)) 25 [.sl 3 x9, .int .i64 a1] r6.2).bind fun r10 =>
                        (cond r10.1
                        ((nn r6.1).bind fun p11 =>
                        ((atO p11 1).bind fun p12 =>
                        ((ldV (.flat .bool) r10.2 p12).bind fun x13 =>
                        (cond x13
                        (some (.bool true, r10.2))
                        ((ldV (.flat .bool) r10.2 (.ob h.length 1)).bind fun x14 =>
                        (cond (!x14)
                        (some (.bool true, r10.2))
                        ((ldV (.flat .bool) r10.2 (.ob h.length 1)).bind fun x15 =>
                        ((stV (r10.2 ++ [.row (66 + boxK) [.int .i64 0, .bool false, .bool false]]) (.ob r10.2.length 0) [.int .i64 a1, .bool x15, .bool r10.1]).bind fun h16 =>
                        ((ldV (.agg [.int .i64, .bool, .bool]) h16 (.ob r10.2.length 0)).bind fun x17 =>
                        ((callD (vF P tab n) P false (.one (.flat .bool)) 26 [.ptr r6.1, .agg [.int .i64 x17.1, .bool x17.2.1, .bool x17.2.2.1]] h16).bind fun r18 =>
                        (cond r18.1
                        (cond r10.1
                        ((ldV (.agg [.int .i64, .bool, .bool]) r18.2 (.ob r10.2.length 0)).bind fun x19 =>
                        ((callD (vF P tab n) P false (.tup []) 27 [.ptr r6.1, .agg [.int .i64 x19.1, .bool x19.2.1, .bool x19.2.2.1]] r18.2).bind fun r20 =>
                        (some (.bool true, r20.2))))
                        ((nn r6.1).bind fun p21 =>
                        ((atO p21 2).bind fun p22 =>
                        ((ldV (.flat (.slice 66)) r18.2 p22).bind fun x23 =>
                        (cond ((((VS.len x23 : Nat) : Int) : Int) == 0)
                        ((ldV (.agg [.int .i64, .bool, .bool]) r18.2 (.ob r10.2.length 0)).bind fun x24 =>
                        ((callD (vF P tab n) P false (.tup []) 27 [.ptr r6.1, .agg [.int .i64 x24.1, .bool x24.2.1, .bool x24.2.2.1]] r18.2).bind fun r25 =>
                        (some (.bool true, r25.2))))
                        ((ldV (.flat .str) r18.2 (.ob h.length 0)).bind fun x26 =>
                        ((ldV (.agg [.int .i64, .bool, .bool]) r18.2 (.ob r10.2.length 0)).bind fun x27 =>
                        ((callD (vF P tab n) P false (.tup []) 28 [.ptr a0, .str x26, .agg [.int .i64 x27.1, .bool x27.2.1, .bool x27.2.2.1]] r18.2).bind fun r28 =>
                        (some (.bool false, r28.2))))))))))
                        ((ldV (.flat .str) r18.2 (.ob h.length 0)).bind fun x29 =>
                        ((ldV (.agg [.int .i64, .bool, .bool]) r18.2 (.ob r10.2.length 0)).bind fun x30 =>
                        ((callD (vF P tab n) P false (.tup []) 28 [.ptr a0, .str x29, .agg [.int .i64 x30.1, .bool x30.2.1, .bool x30.2.2.1]] r18.2).bind fun r31 =>
                        (some (.bool false, r31.2))))))))))))))))
                        ((ldV (.flat .bool) r10.2 (.ob h.length 1)).bind fun x32 =>
                        ((stV (r10.2 ++ [.row (66 + boxK) [.int .i64 0, .bool false, .bool false]]) (.ob r10.2.length 0) [.int .i64 a1, .bool x32, .bool r10.1]).bind fun h33 =>
                        ((ldV (.agg [.int .i64, .bool, .bool]) h33 (.ob r10.2.length 0)).bind fun x34 =>
                        ((callD (vF P tab n) P false (.one (.flat .bool)) 26 [.ptr r6.1, .agg [.int .i64 x34.1, .bool x34.2.1, .bool x34.2.2.1]] h33).bind fun r35 =>
                        (cond r35.1
                        (cond r10.1
                        ((ldV (.agg [.int .i64, .bool, .bool]) r35.2 (.ob r10.2.length 0)).bind fun x36 =>
                        ((callD (vF P tab n) P false (.tup []) 27 [.ptr r6.1, .agg [.int .i64 x36.1, .bool x36.2.1, .bool x36.2.2.1]] r35.2).bind fun r37 =>
                        (some (.bool true, r37.2))))
                        ((nn r6.1).bind fun p38 =>
                        ((atO p38 2).bind fun p39 =>
                        ((ldV (.flat (.slice 66)) r35.2 p39).bind fun x40 =>
                        (cond ((((VS.len x40 : Nat) : Int) : Int) == 0)
                        ((ldV (.agg [.int .i64, .bool, .bool]) r35.2 (.ob r10.2.length 0)).bind fun x41 =>
                        ((callD (vF P tab n) P false (.tup []) 27 [.ptr r6.1, .agg [.int .i64 x41.1, .bool x41.2.1, .bool x41.2.2.1]] r35.2).bind fun r42 =>
                        (some (.bool true, r42.2))))
                        ((ldV (.flat .str) r35.2 (.ob h.length 0)).bind fun x43 =>
                        ((ldV (.agg [.int .i64, .bool, .bool]) r35.2 (.ob r10.2.length 0)).bind fun x44 =>
                        ((callD (vF P tab n) P false (.tup []) 28 [.ptr a0, .str x43, .agg [.int .i64 x44.1, .bool x44.2.1, .bool x44.2.2.1]] r35.2).bind fun r45 =>
                        (some (.bool false, r45.2))))))))))
                        ((ldV (.flat .str) r35.2 (.ob h.length 0)).bind fun x46 =>
                        ((ldV (.agg [.int .i64, .bool, .bool]) r35.2 (.ob r10.2.length 0)).bind fun x47 =>
                        ((callD (vF P tab n) P false (.tup []) 28 [.ptr a0, .str x46, .agg [.int .i64 x47.1, .bool x47.2.1, .bool x47.2.2.1]] r35.2).bind fun r48 =>
                        (some (.bool false, r48.2))))))))))))))))))))))) := by kernel_rfl
/-! godown/wait.Stuck -/
theorem f12_eq (n : Nat) (a0 : VP) (a1 : Int) (h : VH) : bodyV P tab (vF P tab n) n 12 [.ptr a0, .int .i64 a1] h =
  ((ldV (.flat .ptr) (List.append (α := VO) (h ++ [.row (23 + boxK) [.ptr a0]]) [.row (3 + boxK) [.int .i64 a1]]) (.ob h.length 0)).bind fun x1 =>
    ((ldV (.flat (.int .i64)) (List.append (α := VO) (h ++ [.row (23 + boxK) [.ptr a0]]) [.row (3 + boxK) [.int .i64 a1]]) (.ob (List.length ((h ++ [.row (23 + boxK) [.ptr a0]]) : VH)) 0)).bind fun x2 =>
      ((callD (vF P tab n) P false (.one (.flat (.slice 3))) 15 [.ptr x1, .int .i64 x2] (List.append (α := VO) (h ++ [.row (23 + boxK) [.ptr a0]]) [.row (3 + boxK) [.int .i64 a1]])).bind fun r3 =>
        ((callD (vF P tab n) P false (.one (.flat (.slice 3))) 29 [.sl 3 r3.1, .func (.func 30) [] [.ptr (.ob h.length 0), .ptr (.ob (List.length ((h ++ [.row (23 + boxK) [.ptr a0]]) : VH)) 0)]] r3.2).bind fun r4 =>
          (some (.sl 3 r4.1, r4.2)))))) := by kernel_rfl
/-! godown/wait.Victim -/
theorem f13_eq (n : Nat) (a0 : VP) (a1 : Int) (h : VH) : bodyV P tab (vF P tab n) n 13 [.ptr a0, .int .i64 a1] h =
  ((callD (vF P tab n) P false (.one (.flat (.slice 3))) 12 [.ptr a0, .int .i64 a1] h).bind fun r1 =>
    (cond ((((VS.len r1.1 : Nat) : Int) : Int) == 0)
      (some (.tup [.int .i64 0, .bool false], r1.2))
      ((ixV 1 r1.1 (IntKind.wrap .i64 (((VS.len r1.1 : Nat) : Int) - 1))).bind fun p2 =>
        ((ldV (.flat (.int .i64)) r1.2 p2).bind fun x3 =>
          (some (.tup [.int .i64 x3, .bool true], r1.2)))))) := by kernel_rfl
/-! godown/godownref01.Ints -/
noncomputable def L14_0 (n m : Nat) (s0 : VS) (s1 : VS) (s5 : Int) (h : VH) : VRes := loopAt P tab 14 [1, 1, 0, 1, 0] n [] m [.sl 3 s0, .sl 3 s1, .undef, .undef, .undef, .int .i64 s5, .undef, .undef, .undef, .undef, .undef, .undef, .undef, .undef, .undef, .undef, .undef, .undef, .undef, .undef, .undef, .undef, .undef, .undef, .undef, .undef] h
theorem L14_0_eq (n m : Nat) (s0 : VS) (s1 : VS) (s5 : Int) (h : VH) : L14_0 n (m + 1) s0 s1 s5 h =
  (cond (decide ((s5 : Int) < ((VS.len s0 : Nat) : Int)))
    ((ixV 1 s0 s5).bind fun p1 =>
      ((ldV (.flat (.int .i64)) h p1).bind fun x2 =>
        ((ixV 1 s1 s5).bind fun p3 =>
          ((ldV (.flat (.int .i64)) h p3).bind fun x4 =>
            (cond ((x2 : Int) != x4)
              (some (.bool false, h))
              (L14_0 n m s0 s1 (IntKind.wrap .i64 (s5 + 1)) h))))))
    (some (.bool true, h))) := by kernel_rfl
theorem f14_eq (n : Nat) (a0 : VS) (a1 : VS) (h : VH) : bodyV P tab (vF P tab n) n 14 [.sl 3 a0, .sl 3 a1] h =
  (cond ((((VS.len a0 : Nat) : Int) : Int) != ((VS.len a1 : Nat) : Int))
    (some (.bool false, h))
    (L14_0 n n a0 a1 0 h)) := by kernel_rfl
/-! godown/wait.Reach -/
noncomputable def L15_0 (n m : Nat) (s0 : VP) (s5 : VS) (s6 : VS) (h : VH) : VRes := loopAt P tab 15 [1, 1, 0, 1, 0] n [] m [.ptr s0, .undef, .undef, .undef, .undef, .sl 3 s5, .sl 3 s6, .undef, .undef, .undef, .undef, .undef, .undef, .undef, .undef, .undef, .undef, .undef, .undef, .undef, .undef, .undef, .undef, .undef, .undef, .undef, .undef, .undef, .undef, .undef, .undef, .undef, .undef, .undef, .undef] h
theorem L15_0_eq (n m : Nat) (s0 : VP) (s5 : VS) (s6 : VS) (h : VH) : L15_0 n (m + 1) s0 s5 s6 h =
  (cond (decide ((((VS.len s6 : Nat) : Int) : Int) > 0))
    ((ixV 1 s6 0).bind fun p1 =>
      ((ldV (.flat (.int .i64)) h p1).bind fun x2 =>
        ((cutD h 3 1 s6 (some 1) none none).bind fun z3 =>
          ((callD (vF P tab n) P false (.one (.flat .bool)) 25 [.sl 3 s5, .int .i64 x2] h).bind fun r4 =>
            (cond (!r4.1)
              ((appD false (r4.2 ++ [.row 3 [.int .i64 x2]]) 1 8 3 s5 (.hp r4.2.length 0 1)).bind fun r5 =>
                ((callD (vF P tab n) P false (.one (.flat (.slice 3))) 17 [.ptr s0, .int .i64 x2] r5.2).bind fun r6 =>
                  ((appD false r6.2 1 8 3 z3 r6.1).bind fun r7 =>
                    (L15_0 n m s0 r5.1 r7.1 r7.2))))
              (L15_0 n m s0 s5 z3 r4.2))))))
    ((callD (vF P tab n) P false (.tup []) 31 [.sl 3 s5] h).bind fun r8 =>
      (some (.sl 3 s5, r8.2)))) := by kernel_rfl
theorem f15_eq (n : Nat) (a0 : VP) (a1 : Int) (h : VH) : bodyV P tab (vF P tab n) n 15 [.ptr a0, .int .i64 a1] h =
  ((callD (vF P tab n) P false (.one (.flat (.slice 3))) 17 [.ptr a0, .int .i64 a1] h).bind fun r1 =>
    (L15_0 n n a0 .nil r1.1 r1.2)) := by kernel_rfl
/-! godown/godownlaw15.need -/
theorem f16_eq (n : Nat) (a0_0 : Int) (a0_1 : Int) (a0_2 : Int) (h : VH) : bodyV P tab (vF P tab n) n 16 [.agg [.int .u8 a0_0, .int .u8 a0_1, .int .u8 a0_2]] h =
  ((ldV (.flat (.int .u8)) (h ++ [.row (39 + boxK) [.int .u8 a0_0, .int .u8 a0_1, .int .u8 a0_2]]) (.ob h.length 1)).bind fun x1 =>
    ((remI x1 4).bind fun x2 =>
      ((strV (h ++ [.row (39 + boxK) [.int .u8 a0_0, .int .u8 a0_1, .int .u8 a0_2]]) 5 (.fz [[.int .u8 (IntKind.wrap .u8 (97 + x2))]] (.ex 1))).bind fun z3 =>
        ((ldV (.flat (.int .u8)) (h ++ [.row (39 + boxK) [.int .u8 a0_0, .int .u8 a0_1, .int .u8 a0_2]]) (.ob h.length 2)).bind fun x4 =>
          ((quoI .u8 x4 4).bind fun x5 =>
            ((remI x5 2).bind fun x6 =>
              (some (.tup [.str z3, .bool ((x6 : Int) == 0)], (h ++ [.row (39 + boxK) [.int .u8 a0_0, .int .u8 a0_1, .int .u8 a0_2]]))))))))) := by kernel_rfl
/-! (*godown/lock.Table).Ahead -/
noncomputable def L17_0 (n m : Nat) (s1 : Int) (s5 : Nat) (s7 : VP) (s8 : VS) (s31 : VS) (s32 : Int) (s33 : Int) (h : VH) : VRes := loopAt P tab 17 [1, 1, 1, 1, 1, 0, 1, 0] n [] m [.undef, .int .i64 s1, .undef, .undef, .undef, .ptr (.ob s5 0), .undef, .ptr s7, .sl 3 s8, .undef, .undef, .undef, .undef, .undef, .undef, .undef, .undef, .undef, .undef, .undef, .undef, .undef, .undef, .undef, .undef, .undef, .undef, .undef, .undef, .undef, .undef, .sl 3 s31, .int .i64 s32, .int .i64 s33, .undef, .undef, .undef, .undef, .undef, .undef, .undef, .undef, .undef, .undef, .undef, .undef, .undef, .undef, .undef, .undef, .undef, .undef, .undef, .undef, .undef, .undef, .undef, .undef, .undef, .undef, .undef, .undef, .undef, .undef, .undef, .undef, .undef, .undef, .undef, .undef, .undef, .undef, .undef, .undef, .undef, .undef, .undef, .undef] h
noncomputable def L17_1 (n m : Nat) (s1 : Int) (s8 : VS) (s58 : VS) (s59 : Int) (s60 : Int) (h : VH) : VRes := loopAt P tab 17 [1, 1, 1, 1, 1, 1, 0, 1, 0] n [] m [.undef, .int .i64 s1, .undef, .undef, .undef, .undef, .undef, .undef, .sl 3 s8, .undef, .undef, .undef, .undef, .undef, .undef, .undef, .undef, .undef, .undef, .undef, .undef, .undef, .undef, .undef, .undef, .undef, .undef, .undef, .undef, .undef, .undef, .undef, .undef, .undef, .undef, .undef, .undef, .undef, .undef, .undef, .undef, .undef, .undef, .undef, .undef, .undef, .undef, .undef, .undef, .undef, .undef, .undef, .undef, .undef, .undef, .undef, .undef, .undef, .sl 66 s58, .int .i64 s59, .int .i64 s60, .undef, .undef, .undef, .undef, .undef, .undef, .undef, .undef, .undef, .undef, .undef, .undef, .undef, .undef, .undef, .undef, .undef] h
theorem L17_0_eq (n m : Nat) (s1 : Int) (s5 : Nat) (s7 : VP) (s8 : VS) (s31 : VS) (s32 : Int) (s33 : Int) (h : VH) : L17_0 n (m + 1) s1 s5 s7 s8 s31 s32 s33 h =
  (cond (decide ((s33 : Int) < s32))
    ((ixV 1 s31 s33).bind fun p1 =>
      ((ldV (.flat (.int .i64)) h p1).bind fun x2 =>
        (cond ((x2 : Int) != s1)
          ((ldV (.flat .bool) h (.ob s5 1)).bind fun x3 =>
            (cond x3
              ((appD false (h ++ [.row 3 [.int .i64 x2]]) 1 8 3 s8 (.hp h.length 0 1)).bind fun r4 =>
                (L17_0 n m s1 s5 s7 r4.1 s31 s32 (IntKind.wrap .i64 (s33 + 1)) r4.2))
              ((nn s7).bind fun p5 =>
                ((atO p5 1).bind fun p6 =>
                  ((ldV (.flat .bool) h p6).bind fun x7 =>
                    (cond x7
                      ((appD false (h ++ [.row 3 [.int .i64 x2]]) 1 8 3 s8 (.hp h.length 0 1)).bind fun r8 =>
                        (L17_0 n m s1 s5 s7 r8.1 s31 s32 (IntKind.wrap .i64 (s33 + 1)) r8.2))
                      (L17_0 n m s1 s5 s7 s8 s31 s32 (IntKind.wrap .i64 (s33 + 1)) h)))))))
          (L17_0 n m s1 s5 s7 s8 s31 s32 (IntKind.wrap .i64 (s33 + 1)) h))))
    ((nn s7).bind fun p9 =>
      ((atO p9 2).bind fun p10 =>
        ((ldV (.flat (.slice 66)) h p10).bind fun x11 =>
          (L17_1 n n s1 s8 x11 ((VS.len x11 : Nat) : Int) 0 h))))) := by kernel_rfl
theorem L17_1_eq (n m : Nat) (s1 : Int) (s8 : VS) (s58 : VS) (s59 : Int) (s60 : Int) (h : VH) : L17_1 n (m + 1) s1 s8 s58 s59 s60 h =
  (cond (decide ((s60 : Int) < s59))
    ((ixV 3 s58 s60).bind fun p1 =>
      ((ldV (.agg [.int .i64, .bool, .bool]) h p1).bind fun x2 =>
        ((stV (h ++ [.row (66 + boxK) [.int .i64 0, .bool false, .bool false]]) (.ob h.length 0) [.int .i64 x2.1, .bool x2.2.1, .bool x2.2.2.1]).bind fun h3 =>
          ((ldV (.flat (.int .i64)) h3 (.ob h.length 0)).bind fun x4 =>
            (cond ((x4 : Int) == s1)
              ((callD (vF P tab n) P false (.tup []) 31 [.sl 3 s8] h3).bind fun r5 =>
                ((callD (vF P tab n) P false (.one (.flat (.slice 3))) 32 [.sl 3 s8] r5.2).bind fun r6 =>
                  (some (.sl 3 r6.1, r6.2))))
              ((ldV (.flat (.int .i64)) h3 (.ob h.length 0)).bind fun x7 =>
                ((appD false (h3 ++ [.row 3 [.int .i64 x7]]) 1 8 3 s8 (.hp h3.length 0 1)).bind fun r8 =>
                  (L17_1 n m s1 r8.1 s58 s59 (IntKind.wrap .i64 (s60 + 1)) r8.2))))))))
    ((callD (vF P tab n) P false (.tup []) 31 [.sl 3 s8] h).bind fun r9 =>
      ((callD (vF P tab n) P false (.one (.flat (.slice 3))) 32 [.sl 3 s8] r9.2).bind fun r10 =>
        (some (.sl 3 r10.1, r10.2))))) := by kernel_rfl
theorem f17_eq (n : Nat) (a0 : VP) (a1 : Int) (h : VH) : bodyV P tab (vF P tab n) n 17 [.ptr a0, .int .i64 a1] h =
  ((callD (vF P tab n) P false (.tup [(.agg [.str, .bool]), (.flat .bool)]) 23 [.ptr a0, .int .i64 a1] h).bind fun r1 =>
    ((stV (r1.2 ++ [.row (28 + boxK) [.str ⟨#[]⟩, .bool false]]) (.ob r1.2.length 0) [.str r1.1.1.1, .bool r1.1.1.2.1]).bind fun h2 =>
      (cond (!r1.1.2.1)
        (some (.sl 3 .nil, h2))
        ((nn a0).bind fun p3 =>
          ((atO p3 0).bind fun p4 =>
            ((ldV (.flat .map) h2 p4).bind fun x5 =>
              ((ldV (.flat .str) h2 (.ob r1.2.length 0)).bind fun x6 =>
                ((V.lookD P 59 (.flat .ptr) h2 .str x5 (.str x6)).bind fun x7 =>
                  ((nn x7.1).bind fun p8 =>
                    ((atO p8 0).bind fun p9 =>
                      ((ldV (.flat (.slice 3)) h2 p9).bind fun x10 =>
                        (L17_0 n n a1 r1.2.length x7.1 .nil x10 ((VS.len x10 : Nat) : Int) 0 h2)))))))))))) := by kernel_rfl
/-! (*godown/lock.Table).Free -/
noncomputable def L18_0 (n m : Nat) (s0 : VP) (s1 : Int) (s5 : VS) (s10 : VS) (s11 : Int) (s12 : Int) (h : VH) : VRes := loopAt P tab 18 [1, 1, 0, 1, 0] n [] m [.ptr s0, .int .i64 s1, .undef, .undef, .undef, .sl 3 s5, .undef, .undef, .undef, .undef, .sl 9 s10, .int .i64 s11, .int .i64 s12, .undef, .undef, .undef, .undef, .undef, .undef, .undef, .undef, .undef, .undef, .undef, .undef, .undef, .undef, .undef, .undef, .undef, .undef, .undef, .undef, .undef, .undef, .undef, .undef, .undef, .undef, .undef, .undef, .undef, .undef, .undef, .undef, .undef, .undef, .undef, .undef, .undef, .undef, .undef, .undef, .undef, .undef, .undef] h
theorem L18_0_eq (n m : Nat) (s0 : VP) (s1 : Int) (s5 : VS) (s10 : VS) (s11 : Int) (s12 : Int) (h : VH) : L18_0 n (m + 1) s0 s1 s5 s10 s11 s12 h =
  (cond (decide ((s12 : Int) < s11))
    ((ixV 1 s10 s12).bind fun p1 =>
      ((ldV (.flat .str) h p1).bind fun x2 =>
        ((nn s0).bind fun p3 =>
          ((atO p3 0).bind fun p4 =>
            ((ldV (.flat .map) h p4).bind fun x5 =>
              ((V.lookD P 59 (.flat .ptr) h .str x5 (.str x2)).bind fun x6 =>
                ((callD (vF P tab n) P false (.one (.flat .bool)) 34 [.ptr x6.1, .int .i64 s1] h).bind fun r7 =>
                  (cond r7.1
                    ((callD (vF P tab n) P false (.one (.flat (.slice 3))) 35 [.ptr s0, .ptr x6.1] r7.2).bind fun r8 =>
                      ((appD true r8.2 1 8 3 s5 r8.1).bind fun r9 =>
                        ((nn x6.1).bind fun p10 =>
                        ((atO p10 0).bind fun p11 =>
                        ((ldV (.flat (.slice 3)) r9.2 p11).bind fun x12 =>
                        ((nn x6.1).bind fun p13 =>
                        ((atO p13 2).bind fun p14 =>
                        ((ldV (.flat (.slice 66)) r9.2 p14).bind fun x15 =>
                        (cond (((IntKind.wrap .i64 (((VS.len x12 : Nat) : Int) + ((VS.len x15 : Nat) : Int))) : Int) == 0)
                        ((nn s0).bind fun p16 =>
                        ((atO p16 0).bind fun p17 =>
                        ((ldV (.flat .map) r9.2 p17).bind fun x18 =>
                        ((V.cutMD r9.2 .str x18 (.str x2)).bind fun h19 =>
                        (L18_0 n m s0 s1 r9.1 s10 s11 (IntKind.wrap .i64 (s12 + 1)) h19)))))
                        (L18_0 n m s0 s1 r9.1 s10 s11 (IntKind.wrap .i64 (s12 + 1)) r9.2))))))))))
                    ((nn x6.1).bind fun p20 =>
                      ((atO p20 0).bind fun p21 =>
                        ((ldV (.flat (.slice 3)) r7.2 p21).bind fun x22 =>
                        ((nn x6.1).bind fun p23 =>
                        ((atO p23 2).bind fun p24 =>
                        ((ldV (.flat (.slice 66)) r7.2 p24).bind fun x25 =>
                        (cond (((IntKind.wrap .i64 (((VS.len x22 : Nat) : Int) + ((VS.len x25 : Nat) : Int))) : Int) == 0)
                        ((nn s0).bind fun p26 =>
                        ((atO p26 0).bind fun p27 =>
                        ((ldV (.flat .map) r7.2 p27).bind fun x28 =>
                        ((V.cutMD r7.2 .str x28 (.str x2)).bind fun h29 =>
                        (L18_0 n m s0 s1 s5 s10 s11 (IntKind.wrap .i64 (s12 + 1)) h29)))))
                        (L18_0 n m s0 s1 s5 s10 s11 (IntKind.wrap .i64 (s12 + 1)) r7.2))))))))))))))))
    (cond (!VP.isNil s0)
      ((nn s0).bind fun p30 =>
        ((atO p30 1).bind fun p31 =>
          ((ldV (.flat .map) h p31).bind fun x32 =>
            ((V.cutMD h (.int .i64) x32 (.int .i64 s1)).bind fun h33 =>
              (some (.sl 3 s5, h33))))))
      (some (.sl 3 s5, h)))) := by kernel_rfl
theorem f18_eq (n : Nat) (a0 : VP) (a1 : Int) (h : VH) : bodyV P tab (vF P tab n) n 18 [.ptr a0, .int .i64 a1] h =
  ((callD (vF P tab n) P false (.one (.flat (.slice 9))) 33 [.ptr a0] h).bind fun r1 =>
    (L18_0 n n a0 a1 .nil r1.1 ((VS.len r1.1 : Nat) : Int) 0 r1.2)) := by kernel_rfl
/-! godown/godownref14.Free -/
noncomputable def L19_0 (n m : Nat) (s0 : VS) (s1 : Int) (s6 : VS) (s7 : VS) (s8 : Int) (h : VH) : VRes := loopAt P tab 19 [1, 1, 1, 0, 1, 0] n [] m [.sl 78 s0, .int .i64 s1, .undef, .undef, .undef, .undef, .sl 78 s6, .sl 9 s7, .int .i64 s8, .undef, .undef, .undef, .undef, .undef, .undef, .undef, .undef, .undef, .undef, .undef, .undef, .undef, .undef, .undef, .undef, .undef, .undef, .undef, .undef, .undef, .undef, .undef, .undef, .undef, .undef, .undef, .undef, .undef, .undef, .undef, .undef, .undef, .undef, .undef, .undef, .undef, .undef, .undef, .undef, .undef, .undef, .undef, .undef, .undef, .undef, .undef, .undef, .undef, .undef, .undef, .undef, .undef, .undef, .undef, .undef, .undef, .undef, .undef, .undef, .undef, .undef, .undef, .undef, .undef, .undef, .undef, .undef, .undef, .undef] h
noncomputable def L19_1 (n m : Nat) (s6 : VS) (s7 : VS) (s9 : VS) (s10 : Int) (h : VH) : VRes := loopAt P tab 19 [1, 1, 1, 1, 1, 1, 0, 1, 0] n [] m [.undef, .undef, .undef, .undef, .undef, .undef, .sl 78 s6, .sl 9 s7, .undef, .sl 3 s9, .int .i64 s10, .undef, .undef, .undef, .undef, .undef, .undef, .undef, .undef, .undef, .undef, .undef, .undef, .undef, .undef, .undef, .undef, .undef, .undef, .undef, .undef, .undef, .undef, .undef, .undef, .undef, .undef, .undef, .undef, .undef, .undef, .undef, .undef, .undef, .undef, .undef, .undef, .undef, .undef, .undef, .undef, .undef, .undef, .undef, .undef, .undef, .undef, .undef, .undef, .undef, .undef, .undef, .undef, .undef, .undef, .undef, .undef, .undef, .undef, .undef, .undef, .undef, .undef, .undef, .undef, .undef, .undef, .undef, .undef] h
noncomputable def L19_2 (n m0 m : Nat) (s6 : VS) (s7 : VS) (s9 : VS) (s10 : Int) (h : VH) : VRes := loopAt P tab 19 [1, 1, 1, 1, 1, 1, 0, 1, 0, 0, 1, 0, 0, 0] n [m0] m [.undef, .undef, .undef, .undef, .undef, .undef, .sl 78 s6, .sl 9 s7, .undef, .sl 3 s9, .int .i64 s10, .undef, .undef, .undef, .undef, .undef, .undef, .undef, .undef, .undef, .undef, .undef, .undef, .undef, .undef, .undef, .undef, .undef, .undef, .undef, .undef, .undef, .undef, .undef, .undef, .undef, .undef, .undef, .undef, .undef, .undef, .undef, .undef, .undef, .undef, .undef, .undef, .undef, .undef, .undef, .undef, .undef, .undef, .undef, .undef, .undef, .undef, .undef, .undef, .undef, .undef, .undef, .undef, .undef, .undef, .undef, .undef, .undef, .undef, .undef, .undef, .undef, .undef, .undef, .undef, .undef, .undef, .undef, .undef] h
theorem L19_0_eq (n m : Nat) (s0 : VS) (s1 : Int) (s6 : VS) (s7 : VS) (s8 : Int) (h : VH) : L19_0 n (m + 1) s0 s1 s6 s7 s8 h =
  (cond (decide ((s8 : Int) < ((VS.len s0 : Nat) : Int)))
    ((ixV 5 s0 s8).bind fun p1 =>
      ((atO p1 0).bind fun p2 =>
        ((ldV (.flat (.int .i64)) h p2).bind fun x3 =>
          (cond ((x3 : Int) == s1)
            ((ixV 5 s0 s8).bind fun p4 =>
              ((atO p4 1).bind fun p5 =>
                ((ldV (.flat .str) h p5).bind fun x6 =>
                  ((appD true h 1 16 9 s7 (.fz [[.str x6]] (.ex 1))).bind fun r7 =>
                    (L19_0 n m s0 s1 s6 r7.1 (IntKind.wrap .i64 (s8 + 1)) r7.2)))))
            ((ixV 5 s0 s8).bind fun p8 =>
              ((ldV (.agg [.int .i64, .str, .bool, .bool, .bool]) h p8).bind fun x9 =>
                ((appD true h 5 32 78 s6 (.fz [[.int .i64 x9.1, .str x9.2.1, .bool x9.2.2.1, .bool x9.2.2.2.1, .bool x9.2.2.2.2.1]] (.ex 1))).bind fun r10 =>
                  (L19_0 n m s0 s1 r10.1 s7 (IntKind.wrap .i64 (s8 + 1)) r10.2))))))))
    ((callD (vF P tab n) P false (.one (.flat (.slice 9))) 36 [.sl 9 s7] h).bind fun r11 =>
      (L19_1 n n s6 r11.1 .nil 0 r11.2))) := by kernel_rfl
theorem L19_1_eq (n m : Nat) (s6 : VS) (s7 : VS) (s9 : VS) (s10 : Int) (h : VH) : L19_1 n (m + 1) s6 s7 s9 s10 h =
  (cond (decide ((s10 : Int) < ((VS.len s7 : Nat) : Int)))
    (L19_2 n m n s6 s7 s9 s10 h)
    (some (.tup [.sl 78 s6, .sl 3 s9], h))) := by kernel_rfl
theorem L19_2_eq (n m0 m : Nat) (s6 : VS) (s7 : VS) (s9 : VS) (s10 : Int) (h : VH) : L19_2 n m0 (m + 1) s6 s7 s9 s10 h =
  ((ixV 1 s7 s10).bind fun p1 =>
    ((ldV (.flat .str) h p1).bind fun x2 =>
      ((callD (vF P tab n) P false (.one (.flat (.slice 78))) 37 [.sl 78 s6, .str x2] h).bind fun r3 =>
        (cond ((((VS.len r3.1 : Nat) : Int) : Int) == 0)
          (L19_1 n m0 s6 s7 s9 (IntKind.wrap .i64 (s10 + 1)) r3.2)
          ((ixV 5 r3.1 0).bind fun p4 =>
            ((ldV (.agg [.int .i64, .str, .bool, .bool, .bool]) r3.2 p4).bind fun x5 =>
              ((callD (vF P tab n) P false (.one (.flat .bool)) 38 [.sl 78 s6, .agg [.int .i64 x5.1, .str x5.2.1, .bool x5.2.2.1, .bool x5.2.2.2.1, .bool x5.2.2.2.2.1]] r3.2).bind fun r6 =>
                (cond (!r6.1)
                  (L19_1 n m0 s6 s7 s9 (IntKind.wrap .i64 (s10 + 1)) r6.2)
                  ((ixV 5 r3.1 0).bind fun p7 =>
                    ((ldV (.agg [.int .i64, .str, .bool, .bool, .bool]) r6.2 p7).bind fun x8 =>
                      ((callD (vF P tab n) P false (.one (.flat (.slice 78))) 39 [.sl 78 s6, .agg [.int .i64 x8.1, .str x8.2.1, .bool x8.2.2.1, .bool x8.2.2.2.1, .bool x8.2.2.2.2.1]] r6.2).bind fun r9 =>
                        ((ixV 5 r3.1 0).bind fun p10 =>
                        ((atO p10 0).bind fun p11 =>
                        ((ldV (.flat (.int .i64)) r9.2 p11).bind fun x12 =>
                        ((appD true r9.2 1 8 3 s9 (.fz [[.int .i64 x12]] (.ex 1))).bind fun r13 =>
                        (L19_2 n m0 m r9.1 s7 r13.1 s10 r13.2)))))))))))))))) := by kernel_rfl
theorem f19_eq (n : Nat) (a0 : VS) (a1 : Int) (h : VH) : bodyV P tab (vF P tab n) n 19 [.sl 78 a0, .int .i64 a1] h =
  (L19_0 n n a0 a1 .nil .nil 0 h) := by kernel_rfl
/-! godown/godownref14.Ask -/
noncomputable def L20_0 (n m : Nat) (s0 : VS) (s1 : Int) (s5 : Nat) (s10 : Bool) (s11 : Bool) (s12 : Int) (h : VH) : VRes := loopAt P tab 20 [1, 1, 1, 1, 0, 1, 0] n [] m [.sl 78 s0, .int .i64 s1, .undef, .undef, .undef, .ptr (.ob s5 0), .undef, .undef, .undef, .undef, .bool s10, .bool s11, .int .i64 s12, .undef, .undef, .undef, .undef, .undef, .undef, .undef, .undef, .undef, .undef, .undef, .undef, .undef, .undef, .undef, .undef, .undef, .undef, .undef, .undef, .undef, .undef, .undef, .undef, .undef, .undef, .undef, .undef, .undef, .undef, .undef, .undef, .undef, .undef, .undef, .undef, .undef, .undef, .undef, .undef, .undef, .undef, .undef, .undef, .undef, .undef, .undef, .undef, .undef, .undef, .undef, .undef, .undef, .undef, .undef, .undef, .undef, .undef, .undef, .undef, .undef, .undef, .undef, .undef, .undef, .undef, .undef, .undef, .undef, .undef, .undef, .undef, .undef, .undef, .undef, .undef, .undef, .undef, .undef] h
theorem L20_0_eq (n m : Nat) (s0 : VS) (s1 : Int) (s5 : Nat) (s10 : Bool) (s11 : Bool) (s12 : Int) (h : VH) : L20_0 n (m + 1) s0 s1 s5 s10 s11 s12 h =
  (cond (decide ((s12 : Int) < ((VS.len s0 : Nat) : Int)))
    ((ixV 5 s0 s12).bind fun p1 =>
      ((atO p1 0).bind fun p2 =>
        ((ldV (.flat (.int .i64)) h p2).bind fun x3 =>
          (cond ((x3 : Int) == s1)
            ((ixV 5 s0 s12).bind fun p4 =>
              ((atO p4 1).bind fun p5 =>
                ((ldV (.flat .str) h p5).bind fun x6 =>
                  ((ldV (.flat .str) h (.ob s5 0)).bind fun x7 =>
                    (cond (strEq x6 x7)
                      ((ixV 5 s0 s12).bind fun p8 =>
                        ((atO p8 2).bind fun p9 =>
                        ((ldV (.flat .bool) h p9).bind fun x10 =>
                        (L20_0 n m s0 s1 s5 true x10 (IntKind.wrap .i64 (s12 + 1)) h))))
                      (L20_0 n m s0 s1 s5 s10 s11 (IntKind.wrap .i64 (s12 + 1)) h))))))
            (L20_0 n m s0 s1 s5 s10 s11 (IntKind.wrap .i64 (s12 + 1)) h)))))
    (cond s10
      (cond s11
        (some (.tup [.sl 78 s0, .bool true], h))
        ((ldV (.flat .bool) h (.ob s5 1)).bind fun x11 =>
          (cond (!x11)
            (some (.tup [.sl 78 s0, .bool true], h))
            ((ldV (.flat .str) h (.ob s5 0)).bind fun x12 =>
              ((ldV (.flat .bool) h (.ob s5 1)).bind fun x13 =>
                ((stV (h ++ [.row (78 + boxK) [.int .i64 0, .str ⟨#[]⟩, .bool false, .bool false, .bool false]]) (.ob h.length 0) [.int .i64 s1, .str x12, .bool x13, .bool true, .bool s10]).bind fun h14 =>
                  ((ldV (.agg [.int .i64, .str, .bool, .bool, .bool]) h14 (.ob h.length 0)).bind fun x15 =>
                    ((callD (vF P tab n) P false (.one (.flat .bool)) 38 [.sl 78 s0, .agg [.int .i64 x15.1, .str x15.2.1, .bool x15.2.2.1, .bool x15.2.2.2.1, .bool x15.2.2.2.2.1]] h14).bind fun r16 =>
                      (cond r16.1
                        (cond s10
                        ((ldV (.agg [.int .i64, .str, .bool, .bool, .bool]) r16.2 (.ob h.length 0)).bind fun x17 =>
                        ((callD (vF P tab n) P false (.one (.flat (.slice 78))) 39 [.sl 78 s0, .agg [.int .i64 x17.1, .str x17.2.1, .bool x17.2.2.1, .bool x17.2.2.2.1, .bool x17.2.2.2.2.1]] r16.2).bind fun r18 =>
                        (some (.tup [.sl 78 r18.1, .bool true], r18.2))))
                        ((ldV (.flat .str) r16.2 (.ob s5 0)).bind fun x19 =>
                        ((callD (vF P tab n) P false (.one (.flat (.slice 78))) 37 [.sl 78 s0, .str x19] r16.2).bind fun r20 =>
                        (cond ((((VS.len r20.1 : Nat) : Int) : Int) == 0)
                        ((ldV (.agg [.int .i64, .str, .bool, .bool, .bool]) r20.2 (.ob h.length 0)).bind fun x21 =>
                        ((callD (vF P tab n) P false (.one (.flat (.slice 78))) 39 [.sl 78 s0, .agg [.int .i64 x21.1, .str x21.2.1, .bool x21.2.2.1, .bool x21.2.2.2.1, .bool x21.2.2.2.2.1]] r20.2).bind fun r22 =>
                        (some (.tup [.sl 78 r22.1, .bool true], r22.2))))
                        ((appD true r20.2 5 32 78 .nil s0).bind fun r23 =>
                        ((ldV (.agg [.int .i64, .str, .bool, .bool, .bool]) r23.2 (.ob h.length 0)).bind fun x24 =>
                        ((appD true r23.2 5 32 78 r23.1 (.fz [[.int .i64 x24.1, .str x24.2.1, .bool x24.2.2.1, .bool x24.2.2.2.1, .bool x24.2.2.2.2.1]] (.ex 1))).bind fun r25 =>
                        (some (.tup [.sl 78 r25.1, .bool false], r25.2)))))))))
                        ((appD true r16.2 5 32 78 .nil s0).bind fun r26 =>
                        ((ldV (.agg [.int .i64, .str, .bool, .bool, .bool]) r26.2 (.ob h.length 0)).bind fun x27 =>
                        ((appD true r26.2 5 32 78 r26.1 (.fz [[.int .i64 x27.1, .str x27.2.1, .bool x27.2.2.1, .bool x27.2.2.2.1, .bool x27.2.2.2.2.1]] (.ex 1))).bind fun r28 =>
                        (some (.tup [.sl 78 r28.1, .bool false], r28.2))))))))))))))
      ((ldV (.flat .str) h (.ob s5 0)).bind fun x29 =>
        ((ldV (.flat .bool) h (.ob s5 1)).bind fun x30 =>
          ((stV (h ++ [.row (78 + boxK) [.int .i64 0, .str ⟨#[]⟩, .bool false, .bool false, .bool false]]) (.ob h.length 0) [.int .i64 s1, .str x29, .bool x30, .bool true, .bool s10]).bind fun h31 =>
            ((ldV (.agg [.int .i64, .str, .bool, .bool, .bool]) h31 (.ob h.length 0)).bind fun x32 =>
              ((callD (vF P tab n) P false (.one (.flat .bool)) 38 [.sl 78 s0, .agg [.int .i64 x32.1, .str x32.2.1, .bool x32.2.2.1, .bool x32.2.2.2.1, .bool x32.2.2.2.2.1]] h31).bind fun r33 =>
                (cond r33.1
                  (cond s10
                    ((ldV (.agg [.int .i64, .str, .bool, .bool, .bool]) r33.2 (.ob h.length 0)).bind fun x34 =>
                      ((callD (vF P tab n) P false (.one (.flat (.slice 78))) 39 [.sl 78 s0, .agg [.int .i64 x34.1, .str x34.2.1, .bool x34.2.2.1, .bool x34.2.2.2.1, .bool x34.2.2.2.2.1]] r33.2).bind fun r35 =>
                        (some (.tup [.sl 78 r35.1, .bool true], r35.2))))
                    ((ldV (.flat .str) r33.2 (.ob s5 0)).bind fun x36 =>
                      ((callD (vF P tab n) P false (.one (.flat (.slice 78))) 37 [.sl 78 s0, .str x36] r33.2).bind fun r37 =>
                        (cond ((((VS.len r37.1 : Nat) : Int) : Int) == 0)
                        ((ldV (.agg [.int .i64, .str, .bool, .bool, .bool]) r37.2 (.ob h.length 0)).bind fun x38 =>
                        ((callD (vF P tab n) P false (.one (.flat (.slice 78))) 39 [.sl 78 s0, .agg [.int .i64 x38.1, .str x38.2.1, .bool x38.2.2.1, .bool x38.2.2.2.1, .bool x38.2.2.2.2.1]] r37.2).bind fun r39 =>
                        (some (.tup [.sl 78 r39.1, .bool true], r39.2))))
                        ((appD true r37.2 5 32 78 .nil s0).bind fun r40 =>
                        ((ldV (.agg [.int .i64, .str, .bool, .bool, .bool]) r40.2 (.ob h.length 0)).bind fun x41 =>
                        ((appD true r40.2 5 32 78 r40.1 (.fz [[.int .i64 x41.1, .str x41.2.1, .bool x41.2.2.1, .bool x41.2.2.2.1, .bool x41.2.2.2.2.1]] (.ex 1))).bind fun r42 =>
                        (some (.tup [.sl 78 r42.1, .bool false], r42.2)))))))))
                  ((appD true r33.2 5 32 78 .nil s0).bind fun r43 =>
                    ((ldV (.agg [.int .i64, .str, .bool, .bool, .bool]) r43.2 (.ob h.length 0)).bind fun x44 =>
                      ((appD true r43.2 5 32 78 r43.1 (.fz [[.int .i64 x44.1, .str x44.2.1, .bool x44.2.2.1, .bool x44.2.2.2.1, .bool x44.2.2.2.2.1]] (.ex 1))).bind fun r45 =>
                        (some (.tup [.sl 78 r45.1, .bool false], r45.2))))))))))))) := by kernel_rfl
theorem f20_eq (n : Nat) (a0 : VS) (a1 : Int) (a2_0 : ByteArray) (a2_1 : Bool) (h : VH) : bodyV P tab (vF P tab n) n 20 [.sl 78 a0, .int .i64 a1, .agg [.str a2_0, .bool a2_1]] h =
  ((callD (vF P tab n) P false (.tup [(.agg [.str, .bool]), (.flat .bool)]) 40 [.sl 78 a0, .int .i64 a1] (h ++ [.row (49 + boxK) [.str a2_0, .bool a2_1]])).bind fun r1 =>
    ((stV (r1.2 ++ [.row (49 + boxK) [.str ⟨#[]⟩, .bool false]]) (.ob r1.2.length 0) [.str r1.1.1.1, .bool r1.1.1.2.1]).bind fun h2 =>
      (cond r1.1.2.1
        (some (.tup [.sl 78 a0, .bool false], h2))
        (L20_0 n n a0 a1 h.length false false 0 h2)))) := by kernel_rfl
/-! godown/godownref15.Stuck -/
noncomputable def L21_0 (n m : Nat) (s0 : VS) (s1 : Int) (s5 : VS) (s6 : VS) (s7 : Int) (h : VH) : VRes := loopAt P tab 21 [1, 1, 1, 0, 1, 0] n [] m [.sl 78 s0, .int .i64 s1, .undef, .undef, .undef, .sl 3 s5, .sl 3 s6, .int .i64 s7, .undef, .undef, .undef, .undef, .undef, .undef, .undef, .undef, .undef, .undef, .undef, .undef, .undef, .undef, .undef, .undef, .undef, .undef, .undef, .undef, .undef, .undef, .undef, .undef, .undef] h
theorem L21_0_eq (n m : Nat) (s0 : VS) (s1 : Int) (s5 : VS) (s6 : VS) (s7 : Int) (h : VH) : L21_0 n (m + 1) s0 s1 s5 s6 s7 h =
  (cond (decide ((s7 : Int) < ((VS.len s5 : Nat) : Int)))
    ((ixV 1 s5 s7).bind fun p1 =>
      ((ldV (.flat (.int .i64)) h p1).bind fun x2 =>
        ((callD (vF P tab n) P false (.one (.flat (.slice 3))) 22 [.sl 78 s0, .int .i64 x2] h).bind fun r3 =>
          ((callD (vF P tab n) P false (.one (.flat .bool)) 41 [.sl 3 r3.1, .int .i64 s1] r3.2).bind fun r4 =>
            (cond r4.1
              ((ixV 1 s5 s7).bind fun p5 =>
                ((ldV (.flat (.int .i64)) r4.2 p5).bind fun x6 =>
                  ((appD true r4.2 1 8 3 s6 (.fz [[.int .i64 x6]] (.ex 1))).bind fun r7 =>
                    (L21_0 n m s0 s1 s5 r7.1 (IntKind.wrap .i64 (s7 + 1)) r7.2))))
              (L21_0 n m s0 s1 s5 s6 (IntKind.wrap .i64 (s7 + 1)) r4.2))))))
    (some (.sl 3 s6, h))) := by kernel_rfl
theorem f21_eq (n : Nat) (a0 : VS) (a1 : Int) (h : VH) : bodyV P tab (vF P tab n) n 21 [.sl 78 a0, .int .i64 a1] h =
  ((callD (vF P tab n) P false (.one (.flat (.slice 3))) 22 [.sl 78 a0, .int .i64 a1] h).bind fun r1 =>
    (L21_0 n n a0 a1 r1.1 .nil 0 r1.2)) := by kernel_rfl
/-! godown/godownref15.Reach -/
noncomputable def L22_0 (n m : Nat) (s0 : VS) (s5 : VS) (h : VH) : VRes := loopAt P tab 22 [1, 1, 0] n [] m [.sl 78 s0, .undef, .undef, .undef, .undef, .sl 3 s5, .undef, .undef, .undef, .undef, .undef, .undef, .undef, .undef, .undef, .undef, .undef, .undef, .undef, .undef, .undef, .undef, .undef, .undef, .undef, .undef, .undef, .undef, .undef, .undef, .undef, .undef, .undef, .undef, .undef, .undef, .undef] h
noncomputable def L22_1 (n m0 m : Nat) (s0 : VS) (s5 : VS) (s6 : VS) (s7 : Int) (h : VH) : VRes := loopAt P tab 22 [1, 1, 0, 0, 0, 1, 1, 0, 1, 0] n [m0] m [.sl 78 s0, .undef, .undef, .undef, .undef, .sl 3 s5, .sl 3 s6, .int .i64 s7, .undef, .undef, .undef, .undef, .undef, .undef, .undef, .undef, .undef, .undef, .undef, .undef, .undef, .undef, .undef, .undef, .undef, .undef, .undef, .undef, .undef, .undef, .undef, .undef, .undef, .undef, .undef, .undef, .undef] h
theorem L22_0_eq (n m : Nat) (s0 : VS) (s5 : VS) (h : VH) : L22_0 n (m + 1) s0 s5 h =
  ((appD true h 1 8 3 .nil s5).bind fun r1 =>
    (L22_1 n m n s0 s5 r1.1 0 r1.2)) := by kernel_rfl
theorem L22_1_eq (n m0 m : Nat) (s0 : VS) (s5 : VS) (s6 : VS) (s7 : Int) (h : VH) : L22_1 n m0 (m + 1) s0 s5 s6 s7 h =
  (cond (decide ((s7 : Int) < ((VS.len s5 : Nat) : Int)))
    ((ixV 1 s5 s7).bind fun p1 =>
      ((ldV (.flat (.int .i64)) h p1).bind fun x2 =>
        ((callD (vF P tab n) P false (.one (.flat (.slice 3))) 42 [.sl 78 s0, .int .i64 x2] h).bind fun r3 =>
          ((appD true r3.2 1 8 3 s6 r3.1).bind fun r4 =>
            (L22_1 n m0 m s0 s5 r4.1 (IntKind.wrap .i64 (s7 + 1)) r4.2)))))
    ((callD (vF P tab n) P false (.one (.flat (.slice 3))) 43 [.sl 3 s6] h).bind fun r5 =>
      (cond ((((VS.len r5.1 : Nat) : Int) : Int) == ((VS.len s5 : Nat) : Int))
        (some (.sl 3 s5, r5.2))
        (L22_0 n m0 s0 r5.1 r5.2)))) := by kernel_rfl
theorem f22_eq (n : Nat) (a0 : VS) (a1 : Int) (h : VH) : bodyV P tab (vF P tab n) n 22 [.sl 78 a0, .int .i64 a1] h =
  ((callD (vF P tab n) P false (.one (.flat (.slice 3))) 42 [.sl 78 a0, .int .i64 a1] h).bind fun r1 =>
    (L22_0 n n a0 r1.1 r1.2)) := by kernel_rfl
/-! (*godown/lock.Table).Waits -/
noncomputable def L23_0 (n m : Nat) (s1 : Int) (s4 : Nat) (s6 : ByteArray) (s7 : Bool) (s25 : VS) (s26 : Int) (s27 : Int) (h : VH) : VRes := loopAt P tab 23 [1, 1, 1, 0, 1, 0] n [] m [.undef, .int .i64 s1, .undef, .undef, .ptr (.ob s4 0), .undef, .str s6, .bool s7, .undef, .undef, .undef, .undef, .undef, .undef, .undef, .undef, .undef, .undef, .undef, .undef, .undef, .undef, .undef, .undef, .undef, .sl 66 s25, .int .i64 s26, .int .i64 s27, .undef, .undef, .undef, .undef, .undef, .undef, .undef, .undef, .undef, .undef, .undef, .undef, .undef, .undef, .undef, .undef] h
theorem L23_0_eq (n m : Nat) (s1 : Int) (s4 : Nat) (s6 : ByteArray) (s7 : Bool) (s25 : VS) (s26 : Int) (s27 : Int) (h : VH) : L23_0 n (m + 1) s1 s4 s6 s7 s25 s26 s27 h =
  (cond (decide ((s27 : Int) < s26))
    ((ixV 3 s25 s27).bind fun p1 =>
      ((ldV (.agg [.int .i64, .bool, .bool]) h p1).bind fun x2 =>
        ((stV (h ++ [.row (66 + boxK) [.int .i64 0, .bool false, .bool false]]) (.ob h.length 0) [.int .i64 x2.1, .bool x2.2.1, .bool x2.2.2.1]).bind fun h3 =>
          (cond s7
            ((ldV (.flat (.int .i64)) h3 (.ob h.length 0)).bind fun x4 =>
              (cond ((x4 : Int) == s1)
                ((ldV (.flat .bool) h3 (.ob h.length 1)).bind fun x5 =>
                  ((stV h3 (.ob s4 0) [.str s6, .bool x5]).bind fun h6 =>
                    (((ldV (.agg [.str, .bool]) h6 (.ob s4 0)).bind fun x7 =>
                        some (.tup [.agg [.str x7.1, .bool x7.2.1], .bool true], h6)))))
                (L23_0 n m s1 s4 s6 s7 s25 s26 (IntKind.wrap .i64 (s27 + 1)) h3)))
            (L23_0 n m s1 s4 s6 s7 s25 s26 (IntKind.wrap .i64 (s27 + 1)) h3)))))
    ((stV h (.ob s4 0) [.str ⟨#[]⟩, .bool false]).bind fun h8 =>
      (((ldV (.agg [.str, .bool]) h8 (.ob s4 0)).bind fun x9 =>
          some (.tup [.agg [.str x9.1, .bool x9.2.1], .bool false], h8))))) := by kernel_rfl
theorem f23_eq (n : Nat) (a0 : VP) (a1 : Int) (h : VH) : bodyV P tab (vF P tab n) n 23 [.ptr a0, .int .i64 a1] h =
  (cond (VP.isNil a0)
    ((stV (h ++ [.row (28 + boxK) [.str ⟨#[]⟩, .bool false]]) (.ob h.length 0) [.str ⟨#[]⟩, .bool false]).bind fun h1 =>
      (((ldV (.agg [.str, .bool]) h1 (.ob h.length 0)).bind fun x2 =>
          some (.tup [.agg [.str x2.1, .bool x2.2.1], .bool false], h1))))
    ((nn a0).bind fun p3 =>
      ((atO p3 1).bind fun p4 =>
        ((ldV (.flat .map) (h ++ [.row (28 + boxK) [.str ⟨#[]⟩, .bool false]]) p4).bind fun x5 =>
          ((V.lookD P 9 (.flat .str) (h ++ [.row (28 + boxK) [.str ⟨#[]⟩, .bool false]]) (.int .i64) x5 (.int .i64 a1)).bind fun x6 =>
            ((callD (vF P tab n) P false (.one (.agg [.slice 3, .bool, .slice 66])) 44 [.ptr a0, .str x6.1] (h ++ [.row (28 + boxK) [.str ⟨#[]⟩, .bool false]])).bind fun r7 =>
              (L23_0 n n a1 h.length x6.1 x6.2 r7.1.2.2.1 ((VS.len r7.1.2.2.1 : Nat) : Int) 0 r7.2))))))) := by kernel_rfl
/-! (*godown/lock.Table).of -/
theorem f24_eq (n : Nat) (a0 : VP) (a1 : ByteArray) (h : VH) : bodyV P tab (vF P tab n) n 24 [.ptr a0, .str a1] h =
  ((nn a0).bind fun p1 =>
    ((atO p1 0).bind fun p2 =>
      ((ldV (.flat .map) h p2).bind fun x3 =>
        ((V.lookD P 59 (.flat .ptr) h .str x3 (.str a1)).bind fun x4 =>
          (cond (VP.isNil x4.1)
            ((nn a0).bind fun p5 =>
              ((atO p5 0).bind fun p6 =>
                ((ldV (.flat .map) (h ++ [.row (64 + boxK) [.sl 3 .nil, .bool false, .sl 66 .nil]]) p6).bind fun x7 =>
                  ((V.putD (h ++ [.row (64 + boxK) [.sl 3 .nil, .bool false, .sl 66 .nil]]) .str x7 (.str a1) (.ptr (.ob h.length 0))).bind fun h8 =>
                    (some (.ptr (.ob h.length 0), h8))))))
            (some (.ptr x4.1, h))))))) := by kernel_rfl
/-! slices.Contains[[]int,int] -/
theorem f25_eq (n : Nat) (a0 : VS) (a1 : Int) (h : VH) : bodyV P tab (vF P tab n) n 25 [.sl 3 a0, .int .i64 a1] h =
  ((callD (vF P tab n) P false (.one (.flat (.int .i64))) 45 [.sl 3 a0, .int .i64 a1] h).bind fun r1 =>
    (some (.bool (decide ((r1.1 : Int) ≥ 0)), r1.2))) := by kernel_rfl
/-! (*godown/lock.lock).may -/
theorem f26_eq (n : Nat) (a0 : VP) (a1_0 : Int) (a1_1 : Bool) (a1_2 : Bool) (h : VH) : bodyV P tab (vF P tab n) n 26 [.ptr a0, .agg [.int .i64 a1_0, .bool a1_1, .bool a1_2]] h =
  ((ldV (.flat .bool) (h ++ [.row (66 + boxK) [.int .i64 a1_0, .bool a1_1, .bool a1_2]]) (.ob h.length 2)).bind fun x1 =>
    (cond x1
      ((nn a0).bind fun p2 =>
        ((atO p2 0).bind fun p3 =>
          ((ldV (.flat (.slice 3)) (h ++ [.row (66 + boxK) [.int .i64 a1_0, .bool a1_1, .bool a1_2]]) p3).bind fun x4 =>
            (some (.bool ((((VS.len x4 : Nat) : Int) : Int) == 1), (h ++ [.row (66 + boxK) [.int .i64 a1_0, .bool a1_1, .bool a1_2]]))))))
      ((ldV (.flat .bool) (h ++ [.row (66 + boxK) [.int .i64 a1_0, .bool a1_1, .bool a1_2]]) (.ob h.length 1)).bind fun x5 =>
        (cond x5
          ((nn a0).bind fun p6 =>
            ((atO p6 0).bind fun p7 =>
              ((ldV (.flat (.slice 3)) (h ++ [.row (66 + boxK) [.int .i64 a1_0, .bool a1_1, .bool a1_2]]) p7).bind fun x8 =>
                (some (.bool ((((VS.len x8 : Nat) : Int) : Int) == 0), (h ++ [.row (66 + boxK) [.int .i64 a1_0, .bool a1_1, .bool a1_2]]))))))
          ((nn a0).bind fun p9 =>
            ((atO p9 1).bind fun p10 =>
              ((ldV (.flat .bool) (h ++ [.row (66 + boxK) [.int .i64 a1_0, .bool a1_1, .bool a1_2]]) p10).bind fun x11 =>
                (some (.bool (!x11), (h ++ [.row (66 + boxK) [.int .i64 a1_0, .bool a1_1, .bool a1_2]])))))))))) := by kernel_rfl
/-! (*godown/lock.lock).give -/
theorem f27_eq (n : Nat) (a0 : VP) (a1_0 : Int) (a1_1 : Bool) (a1_2 : Bool) (h : VH) : bodyV P tab (vF P tab n) n 27 [.ptr a0, .agg [.int .i64 a1_0, .bool a1_1, .bool a1_2]] h =
  ((ldV (.flat .bool) (h ++ [.row (66 + boxK) [.int .i64 a1_0, .bool a1_1, .bool a1_2]]) (.ob h.length 2)).bind fun x1 =>
    (cond (!x1)
      ((nn a0).bind fun p2 =>
        ((atO p2 0).bind fun p3 =>
          ((ldV (.flat (.slice 3)) (h ++ [.row (66 + boxK) [.int .i64 a1_0, .bool a1_1, .bool a1_2]]) p3).bind fun x4 =>
            ((ldV (.flat (.int .i64)) (h ++ [.row (66 + boxK) [.int .i64 a1_0, .bool a1_1, .bool a1_2]]) (.ob h.length 0)).bind fun x5 =>
              (cond (V.stays (h ++ [.row (66 + boxK) [.int .i64 a1_0, .bool a1_1, .bool a1_2]]) (hj (heldOf p3 [.slice 3] [.sl 3 x4]) []))
                (cond (V.stays (List.append (α := VO) (h ++ [.row (66 + boxK) [.int .i64 a1_0, .bool a1_1, .bool a1_2]]) [.row 3 [.int .i64 x5]]) (hj (heldOf p3 [.slice 3] [.sl 3 x4]) []))
                  ((appD false (List.append (α := VO) (h ++ [.row (66 + boxK) [.int .i64 a1_0, .bool a1_1, .bool a1_2]]) [.row 3 [.int .i64 x5]]) 1 8 3 x4 (.hp (List.length ((h ++ [.row (66 + boxK) [.int .i64 a1_0, .bool a1_1, .bool a1_2]]) : VH)) 0 1)).bind fun r6 =>
                    ((nn a0).bind fun p7 =>
                      ((atO p7 0).bind fun p8 =>
                        ((stV r6.2 p8 [.sl 3 r6.1]).bind fun h9 =>
                        ((nn a0).bind fun p10 =>
                        ((atO p10 0).bind fun p11 =>
                        ((ldV (.flat (.slice 3)) h9 p11).bind fun x12 =>
                        ((callD (vF P tab n) P false (.tup []) 31 [.sl 3 x12] h9).bind fun r13 =>
                        ((ldV (.flat .bool) r13.2 (.ob h.length 1)).bind fun x14 =>
                        ((nn a0).bind fun p15 =>
                        ((atO p15 1).bind fun p16 =>
                        ((stV r13.2 p16 [.bool x14]).bind fun h17 =>
                        (some (.tup [], h17))))))))))))))
                  none)
                none)))))
      ((ldV (.flat .bool) (h ++ [.row (66 + boxK) [.int .i64 a1_0, .bool a1_1, .bool a1_2]]) (.ob h.length 1)).bind fun x18 =>
        ((nn a0).bind fun p19 =>
          ((atO p19 1).bind fun p20 =>
            ((stV (h ++ [.row (66 + boxK) [.int .i64 a1_0, .bool a1_1, .bool a1_2]]) p20 [.bool x18]).bind fun h21 =>
              (some (.tup [], h21)))))))) := by kernel_rfl
/-! (*godown/lock.Table).wait -/
noncomputable def L28_0 (n m : Nat) (s0 : VP) (s1 : ByteArray) (s5 : Nat) (s6 : VP) (s7 : Int) (h : VH) : VRes := loopAt P tab 28 [1, 1, 0, 0] n [] m [.ptr s0, .str s1, .undef, .undef, .undef, .ptr (.ob s5 0), .ptr s6, .int .i64 s7, .undef, .undef, .undef, .undef, .undef, .undef, .undef, .undef, .undef, .undef, .undef, .undef, .undef, .undef, .undef, .undef, .undef, .undef, .undef, .undef, .undef, .undef, .undef, .undef, .undef, .undef, .undef, .undef, .undef, .undef, .undef, .undef, .undef, .undef, .undef, .undef, .undef, .undef, .undef, .undef, .undef, .undef, .undef, .undef, .undef] h
theorem L28_0_eq (n m : Nat) (s0 : VP) (s1 : ByteArray) (s5 : Nat) (s6 : VP) (s7 : Int) (h : VH) : L28_0 n (m + 1) s0 s1 s5 s6 s7 h =
  ((nn s6).bind fun p1 =>
    ((atO p1 2).bind fun p2 =>
      ((ldV (.flat (.slice 66)) h p2).bind fun x3 =>
        (cond (decide ((s7 : Int) < ((VS.len x3 : Nat) : Int)))
          ((ldV (.flat .bool) h (.ob s5 2)).bind fun x4 =>
            (cond (!x4)
              (L28_0 n m s0 s1 s5 s6 (IntKind.wrap .i64 (s7 + 1)) h)
              ((nn s6).bind fun p5 =>
                ((atO p5 2).bind fun p6 =>
                  ((ldV (.flat (.slice 66)) h p6).bind fun x7 =>
                    ((ixV 3 x7 s7).bind fun p8 =>
                      ((atO p8 2).bind fun p9 =>
                        ((ldV (.flat .bool) h p9).bind fun x10 =>
                        (cond x10
                        (L28_0 n m s0 s1 s5 s6 (IntKind.wrap .i64 (s7 + 1)) h)
                        ((nn s6).bind fun p11 =>
                        ((atO p11 2).bind fun p12 =>
                        ((ldV (.flat (.slice 66)) h p12).bind fun x13 =>
                        ((ldV (.agg [.int .i64, .bool, .bool]) h (.ob s5 0)).bind fun x14 =>
                        (cond (V.stays h (hj (heldOf p12 [.slice 66] [.sl 66 x13]) []))
                        (cond (V.stays (h ++ [.row 66 [.int .i64 x14.1, .bool x14.2.1, .bool x14.2.2.1]]) (hj (heldOf p12 [.slice 66] [.sl 66 x13]) []))
                        ((callD (vF P tab n) P false (.one (.flat (.slice 66))) 46 [.sl 66 x13, .int .i64 s7, .sl 66 (.hp h.length 0 1)] (h ++ [.row 66 [.int .i64 x14.1, .bool x14.2.1, .bool x14.2.2.1]])).bind fun r15 =>
                        ((nn s6).bind fun p16 =>
                        ((atO p16 2).bind fun p17 =>
                        ((stV r15.2 p17 [.sl 66 r15.1]).bind fun h18 =>
                        ((nn s0).bind fun p19 =>
                        ((atO p19 1).bind fun p20 =>
                        ((ldV (.flat .map) h18 p20).bind fun x21 =>
                        ((ldV (.flat (.int .i64)) h18 (.ob s5 0)).bind fun x22 =>
                        ((V.putD h18 (.int .i64) x21 (.int .i64 x22) (.str s1)).bind fun h23 =>
                        (some (.tup [], h23)))))))))))
                        none)
                        none))))))))))))))
          ((nn s6).bind fun p24 =>
            ((atO p24 2).bind fun p25 =>
              ((ldV (.flat (.slice 66)) h p25).bind fun x26 =>
                ((ldV (.agg [.int .i64, .bool, .bool]) h (.ob s5 0)).bind fun x27 =>
                  (cond (V.stays h (hj (heldOf p25 [.slice 66] [.sl 66 x26]) []))
                    (cond (V.stays (h ++ [.row 66 [.int .i64 x27.1, .bool x27.2.1, .bool x27.2.2.1]]) (hj (heldOf p25 [.slice 66] [.sl 66 x26]) []))
                      ((callD (vF P tab n) P false (.one (.flat (.slice 66))) 46 [.sl 66 x26, .int .i64 s7, .sl 66 (.hp h.length 0 1)] (h ++ [.row 66 [.int .i64 x27.1, .bool x27.2.1, .bool x27.2.2.1]])).bind fun r28 =>
                        ((nn s6).bind fun p29 =>
                        ((atO p29 2).bind fun p30 =>
                        ((stV r28.2 p30 [.sl 66 r28.1]).bind fun h31 =>
                        ((nn s0).bind fun p32 =>
                        ((atO p32 1).bind fun p33 =>
                        ((ldV (.flat .map) h31 p33).bind fun x34 =>
                        ((ldV (.flat (.int .i64)) h31 (.ob s5 0)).bind fun x35 =>
                        ((V.putD h31 (.int .i64) x34 (.int .i64 x35) (.str s1)).bind fun h36 =>
                        (some (.tup [], h36)))))))))))
                      none)
                    none))))))))) := by kernel_rfl
theorem f28_eq (n : Nat) (a0 : VP) (a1 : ByteArray) (a2_0 : Int) (a2_1 : Bool) (a2_2 : Bool) (h : VH) : bodyV P tab (vF P tab n) n 28 [.ptr a0, .str a1, .agg [.int .i64 a2_0, .bool a2_1, .bool a2_2]] h =
  ((callD (vF P tab n) P false (.one (.flat .ptr)) 24 [.ptr a0, .str a1] (h ++ [.row (66 + boxK) [.int .i64 a2_0, .bool a2_1, .bool a2_2]])).bind fun r1 =>
    (L28_0 n n a0 a1 h.length r1.1 0 r1.2)) := by kernel_rfl
/-! slices.DeleteFunc[[]int,int] -/
noncomputable def L29_0 (n m : Nat) (s0 : VS) (s1_0 : VP) (s1_1 : VP) (s5 : Int) (s6 : Int) (h : VH) : VRes := loopAt P tab 29 [1, 1, 1, 0, 1, 0] n [] m [.sl 3 s0, .func (.func 30) [] [.ptr s1_0, .ptr s1_1], .undef, .undef, .undef, .int .i64 s5, .int .i64 s6, .undef, .undef, .undef, .undef, .undef, .undef, .undef, .undef, .undef, .undef, .undef, .undef, .undef, .undef, .undef, .undef, .undef, .undef, .undef, .undef, .undef, .undef, .undef, .undef, .undef, .undef, .undef, .undef, .undef, .undef, .undef, .undef, .undef, .undef, .undef] h
theorem L29_0_eq (n m : Nat) (s0 : VS) (s1_0 : VP) (s1_1 : VP) (s5 : Int) (s6 : Int) (h : VH) : L29_0 n (m + 1) s0 s1_0 s1_1 s5 s6 h =
  (cond (decide ((s6 : Int) < ((VS.len s0 : Nat) : Int)))
    ((ixV 1 s0 s6).bind fun p1 =>
      ((ldV (.flat (.int .i64)) h p1).bind fun x2 =>
        ((callD (vF P tab n) P false (.one (.flat .bool)) 30 [.int .i64 x2, .ptr s1_0, .ptr s1_1] h).bind fun r3 =>
          (cond (!r3.1)
            ((ixV 1 s0 s5).bind fun p4 =>
              ((stV r3.2 p4 [.int .i64 x2]).bind fun h5 =>
                (L29_0 n m s0 s1_0 s1_1 (IntKind.wrap .i64 (s5 + 1)) (IntKind.wrap .i64 (s6 + 1)) h5)))
            (L29_0 n m s0 s1_0 s1_1 s5 (IntKind.wrap .i64 (s6 + 1)) r3.2)))))
    ((cutD h 3 1 s0 (some s5) none none).bind fun z6 =>
      ((V.clrD P h 29 (.sl 3 z6)).bind fun h7 =>
        ((cutD h7 3 1 s0 none (some s5) none).bind fun z8 =>
          (some (.sl 3 z8, h7)))))) := by kernel_rfl
theorem f29_eq (n : Nat) (a0 : VS) (a1_0 : VP) (a1_1 : VP) (h : VH) : bodyV P tab (vF P tab n) n 29 [.sl 3 a0, .func (.func 30) [] [.ptr a1_0, .ptr a1_1]] h =
  ((callD (vF P tab n) P false (.one (.flat (.int .i64))) 47 [.sl 3 a0, .func (.func 30) [] [.ptr a1_0, .ptr a1_1]] h).bind fun r1 =>
    (cond ((r1.1 : Int) == (-1))
      (some (.sl 3 a0, r1.2))
      (L29_0 n n a0 a1_0 a1_1 r1.1 (IntKind.wrap .i64 (r1.1 + 1)) r1.2))) := by kernel_rfl
/-! godown/wait.Stuck$1 -/
theorem f30_eq (n : Nat) (a0 : Int) (a1 : VP) (a2 : VP) (h : VH) : bodyV P tab (vF P tab n) n 30 [.int .i64 a0, .ptr a1, .ptr a2] h =
  ((ldV (.flat .ptr) h a1).bind fun x1 =>
    ((ldV (.flat (.int .i64)) h a2).bind fun x2 =>
      ((callD (vF P tab n) P false (.one (.flat (.slice 3))) 15 [.ptr x1, .int .i64 a0] h).bind fun r3 =>
        (cond (V.stays r3.2 (hj (heldOf a2 [.int .i64] [.int .i64 x2]) []))
          ((callD (vF P tab n) P false (.one (.flat .bool)) 25 [.sl 3 r3.1, .int .i64 x2] r3.2).bind fun r4 =>
            (cond (V.stays r4.2 (hj (heldOf a1 [.ptr] [.ptr x1]) []))
              (some (.bool (!r4.1), r4.2))
              none))
          none)))) := by kernel_rfl
/-! slices.Compact[[]int,int] -/
noncomputable def L32_0 (n m : Nat) (s0 : VS) (s3 : Int) (h : VH) : VRes := loopAt P tab 32 [1, 1, 0, 1, 0] n [] m [.sl 3 s0, .undef, .undef, .int .i64 s3, .undef, .undef, .undef, .undef, .undef, .undef, .undef, .undef, .undef, .undef, .undef, .undef, .undef, .undef, .undef, .undef, .undef, .undef, .undef, .undef, .undef, .undef, .undef, .undef, .undef, .undef, .undef, .undef, .undef, .undef, .undef, .undef, .undef, .undef, .undef, .undef, .undef, .undef, .undef, .undef, .undef, .undef, .undef, .undef, .undef, .undef, .undef, .undef, .undef, .undef, .undef, .undef, .undef, .undef, .undef, .undef, .undef] h
noncomputable def L32_1 (n m0 m : Nat) (s0 : VS) (s3 : Int) (s4 : VS) (s5 : Int) (h : VH) : VRes := loopAt P tab 32 [1, 1, 0, 1, 0, 0, 1, 0, 0, 1, 0, 1, 0, 1, 0] n [m0] m [.sl 3 s0, .undef, .undef, .int .i64 s3, .sl 3 s4, .int .i64 s5, .undef, .undef, .undef, .undef, .undef, .undef, .undef, .undef, .undef, .undef, .undef, .undef, .undef, .undef, .undef, .undef, .undef, .undef, .undef, .undef, .undef, .undef, .undef, .undef, .undef, .undef, .undef, .undef, .undef, .undef, .undef, .undef, .undef, .undef, .undef, .undef, .undef, .undef, .undef, .undef, .undef, .undef, .undef, .undef, .undef, .undef, .undef, .undef, .undef, .undef, .undef, .undef, .undef, .undef, .undef] h
theorem L32_0_eq (n m : Nat) (s0 : VS) (s3 : Int) (h : VH) : L32_0 n (m + 1) s0 s3 h =
  (cond (decide ((s3 : Int) < ((VS.len s0 : Nat) : Int)))
    ((ixV 1 s0 s3).bind fun p1 =>
      ((ldV (.flat (.int .i64)) h p1).bind fun x2 =>
        ((ixV 1 s0 (IntKind.wrap .i64 (s3 - 1))).bind fun p3 =>
          ((ldV (.flat (.int .i64)) h p3).bind fun x4 =>
            (cond ((x2 : Int) == x4)
              ((cutD h 3 1 s0 (some s3) none none).bind fun z5 =>
                (L32_1 n m n s0 s3 z5 1 h))
              (L32_0 n m s0 (IntKind.wrap .i64 (s3 + 1)) h))))))
    (some (.sl 3 s0, h))) := by kernel_rfl
theorem L32_1_eq (n m0 m : Nat) (s0 : VS) (s3 : Int) (s4 : VS) (s5 : Int) (h : VH) : L32_1 n m0 (m + 1) s0 s3 s4 s5 h =
  (cond (decide ((s5 : Int) < ((VS.len s4 : Nat) : Int)))
    ((ixV 1 s4 s5).bind fun p1 =>
      ((ldV (.flat (.int .i64)) h p1).bind fun x2 =>
        ((ixV 1 s4 (IntKind.wrap .i64 (s5 - 1))).bind fun p3 =>
          ((ldV (.flat (.int .i64)) h p3).bind fun x4 =>
            (cond ((x2 : Int) != x4)
              ((ixV 1 s4 s5).bind fun p5 =>
                ((ldV (.flat (.int .i64)) h p5).bind fun x6 =>
                  ((ixV 1 s0 s3).bind fun p7 =>
                    ((stV h p7 [.int .i64 x6]).bind fun h8 =>
                      (L32_1 n m0 m s0 (IntKind.wrap .i64 (s3 + 1)) s4 (IntKind.wrap .i64 (s5 + 1)) h8)))))
              (L32_1 n m0 m s0 s3 s4 (IntKind.wrap .i64 (s5 + 1)) h))))))
    ((cutD h 3 1 s0 (some s3) none none).bind fun z9 =>
      ((V.clrD P h 29 (.sl 3 z9)).bind fun h10 =>
        ((cutD h10 3 1 s0 none (some s3) none).bind fun z11 =>
          (some (.sl 3 z11, h10)))))) := by kernel_rfl
theorem f32_eq (n : Nat) (a0 : VS) (h : VH) : bodyV P tab (vF P tab n) n 32 [.sl 3 a0] h =
  (cond (decide ((((VS.len a0 : Nat) : Int) : Int) < 2))
    (some (.sl 3 a0, h))
    (L32_0 n n a0 1 h)) := by kernel_rfl
/-! (*godown/lock.Table).keys -/
theorem f33_eq (n : Nat) (a0 : VP) (h : VH) : bodyV P tab (vF P tab n) n 33 [.ptr a0] h =
  (cond (VP.isNil a0)
    (some (.sl 9 .nil, h))
    ((nn a0).bind fun p1 =>
      ((atO p1 0).bind fun p2 =>
        ((ldV (.flat .map) h p2).bind fun x3 =>
          ((callD (vF P tab n) P false (.one (.flat .any)) 51 [.map x3] h).bind fun r4 =>
            ((callD (vF P tab n) P false (.one (.flat (.slice 9))) 50 [r4.1] r4.2).bind fun r5 =>
              (some (.sl 9 r5.1, r5.2)))))))) := by kernel_rfl
/-! (*godown/lock.lock).leave -/
theorem f34_eq (n : Nat) (a0 : VP) (a1 : Int) (h : VH) : bodyV P tab (vF P tab n) n 34 [.ptr a0, .int .i64 a1] h =
  ((nn a0).bind fun p1 =>
    ((atO p1 0).bind fun p2 =>
      ((ldV (.flat (.slice 3)) (h ++ [.row (3 + boxK) [.int .i64 a1]]) p2).bind fun x3 =>
        ((nn a0).bind fun p4 =>
          ((atO p4 2).bind fun p5 =>
            ((ldV (.flat (.slice 66)) (h ++ [.row (3 + boxK) [.int .i64 a1]]) p5).bind fun x6 =>
              ((nn a0).bind fun p7 =>
                ((atO p7 0).bind fun p8 =>
                  ((ldV (.flat (.slice 3)) (h ++ [.row (3 + boxK) [.int .i64 a1]]) p8).bind fun x9 =>
                    ((ldV (.flat (.int .i64)) (h ++ [.row (3 + boxK) [.int .i64 a1]]) (.ob h.length 0)).bind fun x10 =>
                      ((callD (vF P tab n) P false (.one (.flat .bool)) 25 [.sl 3 x9, .int .i64 x10] (h ++ [.row (3 + boxK) [.int .i64 a1]])).bind fun r11 =>
                        (cond r11.1
                        ((nn a0).bind fun p12 =>
                        ((atO p12 1).bind fun p13 =>
                        ((stV r11.2 p13 [.bool false]).bind fun h14 =>
                        ((nn a0).bind fun p15 =>
                        ((atO p15 0).bind fun p16 =>
                        ((ldV (.flat (.slice 3)) h14 p16).bind fun x17 =>
                        ((callD (vF P tab n) P false (.one (.flat (.slice 3))) 29 [.sl 3 x17, .func (.func 52) [] [.ptr (.ob h.length 0)]] h14).bind fun r18 =>
                        ((nn a0).bind fun p19 =>
                        ((atO p19 0).bind fun p20 =>
                        ((stV r18.2 p20 [.sl 3 r18.1]).bind fun h21 =>
                        ((nn a0).bind fun p22 =>
                        ((atO p22 2).bind fun p23 =>
                        ((ldV (.flat (.slice 66)) h21 p23).bind fun x24 =>
                        ((callD (vF P tab n) P false (.one (.flat (.slice 66))) 53 [.sl 66 x24, .func (.func 54) [] [.ptr (.ob h.length 0)]] h21).bind fun r25 =>
                        ((nn a0).bind fun p26 =>
                        ((atO p26 2).bind fun p27 =>
                        ((stV r25.2 p27 [.sl 66 r25.1]).bind fun h28 =>
                        ((nn a0).bind fun p29 =>
                        ((atO p29 0).bind fun p30 =>
                        ((ldV (.flat (.slice 3)) h28 p30).bind fun x31 =>
                        ((nn a0).bind fun p32 =>
                        ((atO p32 2).bind fun p33 =>
                        ((ldV (.flat (.slice 66)) h28 p33).bind fun x34 =>
                        (some (.bool (decide (((IntKind.wrap .i64 (((VS.len x31 : Nat) : Int) + ((VS.len x34 : Nat) : Int))) : Int) < (IntKind.wrap .i64 (((VS.len x3 : Nat) : Int) + ((VS.len x6 : Nat) : Int))))), h28)))))))))))))))))))))))))
                        ((nn a0).bind fun p35 =>
                        ((atO p35 0).bind fun p36 =>
                        ((ldV (.flat (.slice 3)) r11.2 p36).bind fun x37 =>
                        ((callD (vF P tab n) P false (.one (.flat (.slice 3))) 29 [.sl 3 x37, .func (.func 52) [] [.ptr (.ob h.length 0)]] r11.2).bind fun r38 =>
                        ((nn a0).bind fun p39 =>
                        ((atO p39 0).bind fun p40 =>
                        ((stV r38.2 p40 [.sl 3 r38.1]).bind fun h41 =>
                        ((nn a0).bind fun p42 =>
                        ((atO p42 2).bind fun p43 =>
                        ((ldV (.flat (.slice 66)) h41 p43).bind fun x44 =>
                        ((callD (vF P tab n) P false (.one (.flat (.slice 66))) 53 [.sl 66 x44, .func (.func 54) [] [.ptr (.ob h.length 0)]] h41).bind fun r45 =>
                        ((nn a0).bind fun p46 =>
                        ((atO p46 2).bind fun p47 =>
                        ((stV r45.2 p47 [.sl 66 r45.1]).bind fun h48 =>
                        ((nn a0).bind fun p49 =>
                        ((atO p49 0).bind fun p50 =>
                        ((ldV (.flat (.slice 3)) h48 p50).bind fun x51 =>
                        ((nn a0).bind fun p52 =>
                        ((atO p52 2).bind fun p53 =>
                        ((ldV (.flat (.slice 66)) h48 p53).bind fun x54 =>
                        (some (.bool (decide (((IntKind.wrap .i64 (((VS.len x51 : Nat) : Int) + ((VS.len x54 : Nat) : Int))) : Int) < (IntKind.wrap .i64 (((VS.len x3 : Nat) : Int) + ((VS.len x6 : Nat) : Int))))), h48)))))))))))))))))))))))))))))))))) := by kernel_rfl
/-! (*godown/lock.Table).let -/
noncomputable def L35_0 (n m : Nat) (s0 : VP) (s1 : VP) (s5 : VS) (h : VH) : VRes := loopAt P tab 35 [1, 1, 0, 0] n [] m [.ptr s0, .ptr s1, .undef, .undef, .undef, .sl 3 s5, .undef, .undef, .undef, .undef, .undef, .undef, .undef, .undef, .undef, .undef, .undef, .undef, .undef, .undef, .undef, .undef, .undef, .undef, .undef, .undef, .undef, .undef, .undef, .undef, .undef, .undef, .undef, .undef, .undef, .undef, .undef, .undef, .undef, .undef, .undef, .undef, .undef, .undef, .undef, .undef, .undef, .undef, .undef, .undef, .undef, .undef] h
theorem L35_0_eq (n m : Nat) (s0 : VP) (s1 : VP) (s5 : VS) (h : VH) : L35_0 n (m + 1) s0 s1 s5 h =
  ((nn s1).bind fun p1 =>
    ((atO p1 2).bind fun p2 =>
      ((ldV (.flat (.slice 66)) h p2).bind fun x3 =>
        (cond (decide ((((VS.len x3 : Nat) : Int) : Int) > 0))
          ((nn s1).bind fun p4 =>
            ((atO p4 2).bind fun p5 =>
              ((ldV (.flat (.slice 66)) h p5).bind fun x6 =>
                ((ixV 3 x6 0).bind fun p7 =>
                  ((ldV (.agg [.int .i64, .bool, .bool]) h p7).bind fun x8 =>
                    ((callD (vF P tab n) P false (.one (.flat .bool)) 26 [.ptr s1, .agg [.int .i64 x8.1, .bool x8.2.1, .bool x8.2.2.1]] h).bind fun r9 =>
                      (cond r9.1
                        ((nn s1).bind fun p10 =>
                        ((atO p10 2).bind fun p11 =>
                        ((ldV (.flat (.slice 66)) r9.2 p11).bind fun x12 =>
                        ((ixV 3 x12 0).bind fun p13 =>
                        ((ldV (.agg [.int .i64, .bool, .bool]) r9.2 p13).bind fun x14 =>
                        ((stV (r9.2 ++ [.row (66 + boxK) [.int .i64 0, .bool false, .bool false]]) (.ob r9.2.length 0) [.int .i64 x14.1, .bool x14.2.1, .bool x14.2.2.1]).bind fun h15 =>
                        ((nn s1).bind fun p16 =>
                        ((atO p16 2).bind fun p17 =>
                        ((ldV (.flat (.slice 66)) h15 p17).bind fun x18 =>
                        ((cutD h15 66 3 x18 (some 1) none none).bind fun z19 =>
                        ((nn s1).bind fun p20 =>
                        ((atO p20 2).bind fun p21 =>
                        ((stV h15 p21 [.sl 66 z19]).bind fun h22 =>
                        ((ldV (.agg [.int .i64, .bool, .bool]) h22 (.ob r9.2.length 0)).bind fun x23 =>
                        ((callD (vF P tab n) P false (.tup []) 27 [.ptr s1, .agg [.int .i64 x23.1, .bool x23.2.1, .bool x23.2.2.1]] h22).bind fun r24 =>
                        ((nn s0).bind fun p25 =>
                        ((atO p25 1).bind fun p26 =>
                        ((ldV (.flat .map) r24.2 p26).bind fun x27 =>
                        ((ldV (.flat (.int .i64)) r24.2 (.ob r9.2.length 0)).bind fun x28 =>
                        ((V.cutMD r24.2 (.int .i64) x27 (.int .i64 x28)).bind fun h29 =>
                        ((ldV (.flat (.int .i64)) h29 (.ob r9.2.length 0)).bind fun x30 =>
                        ((appD true h29 1 8 3 s5 (.fz [[.int .i64 x30]] (.ex 1))).bind fun r31 =>
                        (L35_0 n m s0 s1 r31.1 r31.2)))))))))))))))))))))))
                        (some (.sl 3 s5, r9.2)))))))))
          (some (.sl 3 s5, h)))))) := by kernel_rfl
theorem f35_eq (n : Nat) (a0 : VP) (a1 : VP) (h : VH) : bodyV P tab (vF P tab n) n 35 [.ptr a0, .ptr a1] h =
  (L35_0 n n a0 a1 .nil h) := by kernel_rfl
/-! godown/godownref01.Rise -/
noncomputable def L36_0 (n m : Nat) (s0 : VS) (s3 : VS) (s4 : Int) (h : VH) : VRes := loopAt P tab 36 [1, 1, 0, 1, 0] n [] m [.sl 9 s0, .undef, .undef, .sl 9 s3, .int .i64 s4, .undef, .undef, .undef, .undef, .undef, .undef, .undef, .undef, .undef, .undef, .undef, .undef, .undef, .undef, .undef, .undef, .undef, .undef, .undef, .undef, .undef, .undef, .undef, .undef, .undef, .undef, .undef, .undef, .undef, .undef, .undef, .undef, .undef, .undef, .undef, .undef, .undef, .undef, .undef, .undef, .undef, .undef, .undef, .undef, .undef, .undef, .undef, .undef, .undef, .undef, .undef, .undef, .undef, .undef, .undef, .undef, .undef, .undef, .undef, .undef, .undef, .undef, .undef, .undef, .undef] h
noncomputable def L36_1 (n m0 m : Nat) (s0 : VS) (s3 : VS) (s4 : Int) (s5 : VS) (s6 : Bool) (s7 : Int) (h : VH) : VRes := loopAt P tab 36 [1, 1, 0, 1, 0, 0, 1, 0, 0, 1, 1, 0, 1, 0] n [m0] m [.sl 9 s0, .undef, .undef, .sl 9 s3, .int .i64 s4, .sl 9 s5, .bool s6, .int .i64 s7, .undef, .undef, .undef, .undef, .undef, .undef, .undef, .undef, .undef, .undef, .undef, .undef, .undef, .undef, .undef, .undef, .undef, .undef, .undef, .undef, .undef, .undef, .undef, .undef, .undef, .undef, .undef, .undef, .undef, .undef, .undef, .undef, .undef, .undef, .undef, .undef, .undef, .undef, .undef, .undef, .undef, .undef, .undef, .undef, .undef, .undef, .undef, .undef, .undef, .undef, .undef, .undef, .undef, .undef, .undef, .undef, .undef, .undef, .undef, .undef, .undef, .undef] h
theorem L36_0_eq (n m : Nat) (s0 : VS) (s3 : VS) (s4 : Int) (h : VH) : L36_0 n (m + 1) s0 s3 s4 h =
  (cond (decide ((s4 : Int) < ((VS.len s0 : Nat) : Int)))
    (L36_1 n m n s0 s3 s4 .nil false 0 h)
    (some (.sl 9 s3, h))) := by kernel_rfl
theorem L36_1_eq (n m0 m : Nat) (s0 : VS) (s3 : VS) (s4 : Int) (s5 : VS) (s6 : Bool) (s7 : Int) (h : VH) : L36_1 n m0 (m + 1) s0 s3 s4 s5 s6 s7 h =
  (cond (decide ((s7 : Int) < ((VS.len s3 : Nat) : Int)))
    (cond (!s6)
      ((ixV 1 s0 s4).bind fun p1 =>
        ((ldV (.flat .str) h p1).bind fun x2 =>
          ((ixV 1 s3 s7).bind fun p3 =>
            ((ldV (.flat .str) h p3).bind fun x4 =>
              (cond (strLt x2 x4)
                ((ixV 1 s0 s4).bind fun p5 =>
                  ((ldV (.flat .str) h p5).bind fun x6 =>
                    ((appD true h 1 16 9 s5 (.fz [[.str x6]] (.ex 1))).bind fun r7 =>
                      ((ixV 1 s3 s7).bind fun p8 =>
                        ((ldV (.flat .str) r7.2 p8).bind fun x9 =>
                        ((appD true r7.2 1 16 9 r7.1 (.fz [[.str x9]] (.ex 1))).bind fun r10 =>
                        (L36_1 n m0 m s0 s3 s4 r10.1 true (IntKind.wrap .i64 (s7 + 1)) r10.2)))))))
                (cond s6
                  ((ixV 1 s3 s7).bind fun p11 =>
                    ((ldV (.flat .str) h p11).bind fun x12 =>
                      ((appD true h 1 16 9 s5 (.fz [[.str x12]] (.ex 1))).bind fun r13 =>
                        (L36_1 n m0 m s0 s3 s4 r13.1 true (IntKind.wrap .i64 (s7 + 1)) r13.2))))
                  ((ixV 1 s0 s4).bind fun p14 =>
                    ((ldV (.flat .str) h p14).bind fun x15 =>
                      ((ixV 1 s3 s7).bind fun p16 =>
                        ((ldV (.flat .str) h p16).bind fun x17 =>
                        ((ixV 1 s3 s7).bind fun p18 =>
                        ((ldV (.flat .str) h p18).bind fun x19 =>
                        ((appD true h 1 16 9 s5 (.fz [[.str x19]] (.ex 1))).bind fun r20 =>
                        (L36_1 n m0 m s0 s3 s4 r20.1 (strEq x15 x17) (IntKind.wrap .i64 (s7 + 1)) r20.2))))))))))))))
      (cond s6
        ((ixV 1 s3 s7).bind fun p21 =>
          ((ldV (.flat .str) h p21).bind fun x22 =>
            ((appD true h 1 16 9 s5 (.fz [[.str x22]] (.ex 1))).bind fun r23 =>
              (L36_1 n m0 m s0 s3 s4 r23.1 true (IntKind.wrap .i64 (s7 + 1)) r23.2))))
        ((ixV 1 s0 s4).bind fun p24 =>
          ((ldV (.flat .str) h p24).bind fun x25 =>
            ((ixV 1 s3 s7).bind fun p26 =>
              ((ldV (.flat .str) h p26).bind fun x27 =>
                ((ixV 1 s3 s7).bind fun p28 =>
                  ((ldV (.flat .str) h p28).bind fun x29 =>
                    ((appD true h 1 16 9 s5 (.fz [[.str x29]] (.ex 1))).bind fun r30 =>
                      (L36_1 n m0 m s0 s3 s4 r30.1 (strEq x25 x27) (IntKind.wrap .i64 (s7 + 1)) r30.2))))))))))
    (cond (!s6)
      ((ixV 1 s0 s4).bind fun p31 =>
        ((ldV (.flat .str) h p31).bind fun x32 =>
          ((appD true h 1 16 9 s5 (.fz [[.str x32]] (.ex 1))).bind fun r33 =>
            (L36_0 n m0 s0 r33.1 (IntKind.wrap .i64 (s4 + 1)) r33.2))))
      (L36_0 n m0 s0 s5 (IntKind.wrap .i64 (s4 + 1)) h))) := by kernel_rfl
theorem f36_eq (n : Nat) (a0 : VS) (h : VH) : bodyV P tab (vF P tab n) n 36 [.sl 9 a0] h =
  (L36_0 n n a0 .nil 0 h) := by kernel_rfl
/-! godown/godownref14.Queue -/
noncomputable def L37_0 (n m : Nat) (s0 : VS) (s1 : ByteArray) (s5 : VS) (s6 : Int) (h : VH) : VRes := loopAt P tab 37 [1, 1, 0, 1, 0] n [] m [.sl 78 s0, .str s1, .undef, .undef, .undef, .sl 78 s5, .int .i64 s6, .undef, .undef, .undef, .undef, .undef, .undef, .undef, .undef, .undef, .undef, .undef, .undef, .undef, .undef, .undef, .undef, .undef, .undef, .undef, .undef, .undef, .undef, .undef, .undef, .undef, .undef, .undef, .undef, .undef, .undef, .undef, .undef, .undef, .undef, .undef, .undef, .undef, .undef, .undef, .undef, .undef, .undef, .undef] h
noncomputable def L37_1 (n m0 m : Nat) (s0 : VS) (s1 : ByteArray) (s5 : VS) (s6 : Int) (s7 : Int) (h : VH) : VRes := loopAt P tab 37 [1, 1, 0, 1, 0, 0, 1, 0, 0, 1, 0] n [m0] m [.sl 78 s0, .str s1, .undef, .undef, .undef, .sl 78 s5, .int .i64 s6, .int .i64 s7, .undef, .undef, .undef, .undef, .undef, .undef, .undef, .undef, .undef, .undef, .undef, .undef, .undef, .undef, .undef, .undef, .undef, .undef, .undef, .undef, .undef, .undef, .undef, .undef, .undef, .undef, .undef, .undef, .undef, .undef, .undef, .undef, .undef, .undef, .undef, .undef, .undef, .undef, .undef, .undef, .undef, .undef] h
theorem L37_0_eq (n m : Nat) (s0 : VS) (s1 : ByteArray) (s5 : VS) (s6 : Int) (h : VH) : L37_0 n (m + 1) s0 s1 s5 s6 h =
  (cond (decide ((s6 : Int) < 2))
    (L37_1 n m n s0 s1 s5 s6 0 h)
    (some (.sl 78 s5, h))) := by kernel_rfl
theorem L37_1_eq (n m0 m : Nat) (s0 : VS) (s1 : ByteArray) (s5 : VS) (s6 : Int) (s7 : Int) (h : VH) : L37_1 n m0 (m + 1) s0 s1 s5 s6 s7 h =
  (cond (decide ((s7 : Int) < ((VS.len s0 : Nat) : Int)))
    ((ixV 5 s0 s7).bind fun p1 =>
      ((atO p1 1).bind fun p2 =>
        ((ldV (.flat .str) h p2).bind fun x3 =>
          (cond (strEq x3 s1)
            ((ixV 5 s0 s7).bind fun p4 =>
              ((atO p4 3).bind fun p5 =>
                ((ldV (.flat .bool) h p5).bind fun x6 =>
                  (cond x6
                    ((ixV 5 s0 s7).bind fun p7 =>
                      ((atO p7 4).bind fun p8 =>
                        ((ldV (.flat .bool) h p8).bind fun x9 =>
                        (cond (x9 == ((s6 : Int) == 0))
                        ((ixV 5 s0 s7).bind fun p10 =>
                        ((ldV (.agg [.int .i64, .str, .bool, .bool, .bool]) h p10).bind fun x11 =>
                        ((appD true h 5 32 78 s5 (.fz [[.int .i64 x11.1, .str x11.2.1, .bool x11.2.2.1, .bool x11.2.2.2.1, .bool x11.2.2.2.2.1]] (.ex 1))).bind fun r12 =>
                        (L37_1 n m0 m s0 s1 r12.1 s6 (IntKind.wrap .i64 (s7 + 1)) r12.2))))
                        (L37_1 n m0 m s0 s1 s5 s6 (IntKind.wrap .i64 (s7 + 1)) h)))))
                    (L37_1 n m0 m s0 s1 s5 s6 (IntKind.wrap .i64 (s7 + 1)) h)))))
            (L37_1 n m0 m s0 s1 s5 s6 (IntKind.wrap .i64 (s7 + 1)) h)))))
    (L37_0 n m0 s0 s1 s5 (IntKind.wrap .i64 (s6 + 1)) h)) := by kernel_rfl
theorem f37_eq (n : Nat) (a0 : VS) (a1 : ByteArray) (h : VH) : bodyV P tab (vF P tab n) n 37 [.sl 78 a0, .str a1] h =
  (L37_0 n n a0 a1 .nil 0 h) := by kernel_rfl
/-! godown/godownref14.may -/
theorem f38_eq (n : Nat) (a0 : VS) (a1_0 : Int) (a1_1 : ByteArray) (a1_2 : Bool) (a1_3 : Bool) (a1_4 : Bool) (h : VH) : bodyV P tab (vF P tab n) n 38 [.sl 78 a0, .agg [.int .i64 a1_0, .str a1_1, .bool a1_2, .bool a1_3, .bool a1_4]] h =
  ((ldV (.flat .str) (h ++ [.row (78 + boxK) [.int .i64 a1_0, .str a1_1, .bool a1_2, .bool a1_3, .bool a1_4]]) (.ob h.length 1)).bind fun x1 =>
    ((callD (vF P tab n) P false (.tup [(.flat (.slice 3)), (.flat .bool)]) 55 [.sl 78 a0, .str x1] (h ++ [.row (78 + boxK) [.int .i64 a1_0, .str a1_1, .bool a1_2, .bool a1_3, .bool a1_4]])).bind fun r2 =>
      ((ldV (.flat .bool) r2.2 (.ob h.length 4)).bind fun x3 =>
        (cond x3
          (some (.bool ((((VS.len r2.1.1 : Nat) : Int) : Int) == 1), r2.2))
          ((ldV (.flat .bool) r2.2 (.ob h.length 2)).bind fun x4 =>
            (cond x4
              (some (.bool ((((VS.len r2.1.1 : Nat) : Int) : Int) == 0), r2.2))
              (some (.bool (!r2.1.2.1), r2.2)))))))) := by kernel_rfl
/-! godown/godownref14.give -/
noncomputable def L39_0 (n m : Nat) (s0 : VS) (s3 : Nat) (s5 : VS) (s6 : Int) (h : VH) : VRes := loopAt P tab 39 [1, 1, 0, 1, 0] n [] m [.sl 78 s0, .undef, .undef, .ptr (.ob s3 0), .undef, .sl 78 s5, .int .i64 s6, .undef, .undef, .undef, .undef, .undef, .undef, .undef, .undef, .undef, .undef, .undef, .undef, .undef, .undef, .undef, .undef, .undef, .undef, .undef, .undef, .undef, .undef, .undef, .undef, .undef, .undef, .undef, .undef, .undef, .undef, .undef, .undef, .undef, .undef, .undef, .undef, .undef] h
theorem L39_0_eq (n m : Nat) (s0 : VS) (s3 : Nat) (s5 : VS) (s6 : Int) (h : VH) : L39_0 n (m + 1) s0 s3 s5 s6 h =
  (cond (decide ((s6 : Int) < ((VS.len s0 : Nat) : Int)))
    ((ixV 5 s0 s6).bind fun p1 =>
      ((ldV (.agg [.int .i64, .str, .bool, .bool, .bool]) h p1).bind fun x2 =>
        ((stV (h ++ [.row (78 + boxK) [.int .i64 0, .str ⟨#[]⟩, .bool false, .bool false, .bool false]]) (.ob h.length 0) [.int .i64 x2.1, .str x2.2.1, .bool x2.2.2.1, .bool x2.2.2.2.1, .bool x2.2.2.2.2.1]).bind fun h3 =>
          ((ldV (.flat (.int .i64)) h3 (.ob h.length 0)).bind fun x4 =>
            ((ldV (.flat (.int .i64)) h3 (.ob s3 0)).bind fun x5 =>
              (cond ((x4 : Int) == x5)
                ((ldV (.flat .str) h3 (.ob h.length 1)).bind fun x6 =>
                  ((ldV (.flat .str) h3 (.ob s3 1)).bind fun x7 =>
                    (cond (strEq x6 x7)
                      (L39_0 n m s0 s3 s5 (IntKind.wrap .i64 (s6 + 1)) h3)
                      ((ldV (.agg [.int .i64, .str, .bool, .bool, .bool]) h3 (.ob h.length 0)).bind fun x8 =>
                        ((appD true h3 5 32 78 s5 (.fz [[.int .i64 x8.1, .str x8.2.1, .bool x8.2.2.1, .bool x8.2.2.2.1, .bool x8.2.2.2.2.1]] (.ex 1))).bind fun r9 =>
                        (L39_0 n m s0 s3 r9.1 (IntKind.wrap .i64 (s6 + 1)) r9.2))))))
                ((ldV (.agg [.int .i64, .str, .bool, .bool, .bool]) h3 (.ob h.length 0)).bind fun x10 =>
                  ((appD true h3 5 32 78 s5 (.fz [[.int .i64 x10.1, .str x10.2.1, .bool x10.2.2.1, .bool x10.2.2.2.1, .bool x10.2.2.2.2.1]] (.ex 1))).bind fun r11 =>
                    (L39_0 n m s0 s3 r11.1 (IntKind.wrap .i64 (s6 + 1)) r11.2)))))))))
    ((ldV (.flat (.int .i64)) h (.ob s3 0)).bind fun x12 =>
      ((ldV (.flat .str) h (.ob s3 1)).bind fun x13 =>
        ((ldV (.flat .bool) h (.ob s3 2)).bind fun x14 =>
          ((appD true h 5 32 78 s5 (.fz [[.int .i64 x12, .str x13, .bool x14, .bool false, .bool false]] (.ex 1))).bind fun r15 =>
            (some (.sl 78 r15.1, r15.2))))))) := by kernel_rfl
theorem f39_eq (n : Nat) (a0 : VS) (a1_0 : Int) (a1_1 : ByteArray) (a1_2 : Bool) (a1_3 : Bool) (a1_4 : Bool) (h : VH) : bodyV P tab (vF P tab n) n 39 [.sl 78 a0, .agg [.int .i64 a1_0, .str a1_1, .bool a1_2, .bool a1_3, .bool a1_4]] h =
  (L39_0 n n a0 h.length .nil 0 (h ++ [.row (78 + boxK) [.int .i64 a1_0, .str a1_1, .bool a1_2, .bool a1_3, .bool a1_4]])) := by kernel_rfl
/-! godown/godownref14.Waits -/
noncomputable def L40_0 (n m : Nat) (s0 : VS) (s1 : Int) (s4 : Nat) (s6 : Int) (h : VH) : VRes := loopAt P tab 40 [1, 0, 1, 0] n [] m [.sl 78 s0, .int .i64 s1, .undef, .undef, .ptr (.ob s4 0), .undef, .int .i64 s6, .undef, .undef, .undef, .undef, .undef, .undef, .undef, .undef, .undef, .undef, .undef, .undef, .undef, .undef, .undef, .undef, .undef, .undef, .undef, .undef, .undef, .undef, .undef, .undef, .undef, .undef, .undef, .undef, .undef, .undef, .undef, .undef] h
theorem L40_0_eq (n m : Nat) (s0 : VS) (s1 : Int) (s4 : Nat) (s6 : Int) (h : VH) : L40_0 n (m + 1) s0 s1 s4 s6 h =
  (cond (decide ((s6 : Int) < ((VS.len s0 : Nat) : Int)))
    ((ixV 5 s0 s6).bind fun p1 =>
      ((atO p1 0).bind fun p2 =>
        ((ldV (.flat (.int .i64)) h p2).bind fun x3 =>
          (cond ((x3 : Int) == s1)
            ((ixV 5 s0 s6).bind fun p4 =>
              ((atO p4 3).bind fun p5 =>
                ((ldV (.flat .bool) h p5).bind fun x6 =>
                  (cond x6
                    ((ixV 5 s0 s6).bind fun p7 =>
                      ((atO p7 1).bind fun p8 =>
                        ((ldV (.flat .str) h p8).bind fun x9 =>
                        ((ixV 5 s0 s6).bind fun p10 =>
                        ((atO p10 2).bind fun p11 =>
                        ((ldV (.flat .bool) h p11).bind fun x12 =>
                        ((stV h (.ob s4 0) [.str x9, .bool x12]).bind fun h13 =>
                        (((ldV (.agg [.str, .bool]) h13 (.ob s4 0)).bind fun x14 =>
                        some (.tup [.agg [.str x14.1, .bool x14.2.1], .bool true], h13))))))))))
                    (L40_0 n m s0 s1 s4 (IntKind.wrap .i64 (s6 + 1)) h)))))
            (L40_0 n m s0 s1 s4 (IntKind.wrap .i64 (s6 + 1)) h)))))
    ((stV h (.ob s4 0) [.str ⟨#[]⟩, .bool false]).bind fun h15 =>
      (((ldV (.agg [.str, .bool]) h15 (.ob s4 0)).bind fun x16 =>
          some (.tup [.agg [.str x16.1, .bool x16.2.1], .bool false], h15))))) := by kernel_rfl
theorem f40_eq (n : Nat) (a0 : VS) (a1 : Int) (h : VH) : bodyV P tab (vF P tab n) n 40 [.sl 78 a0, .int .i64 a1] h =
  (L40_0 n n a0 a1 h.length 0 (h ++ [.row (49 + boxK) [.str ⟨#[]⟩, .bool false]])) := by kernel_rfl
/-! godown/godownref15.has -/
noncomputable def L41_0 (n m : Nat) (s0 : VS) (s1 : Int) (s5 : Int) (h : VH) : VRes := loopAt P tab 41 [1, 0, 1, 0] n [] m [.sl 3 s0, .int .i64 s1, .undef, .undef, .undef, .int .i64 s5, .undef, .undef, .undef, .undef, .undef, .undef, .undef, .undef, .undef, .undef, .undef, .undef] h
theorem L41_0_eq (n m : Nat) (s0 : VS) (s1 : Int) (s5 : Int) (h : VH) : L41_0 n (m + 1) s0 s1 s5 h =
  (cond (decide ((s5 : Int) < ((VS.len s0 : Nat) : Int)))
    ((ixV 1 s0 s5).bind fun p1 =>
      ((ldV (.flat (.int .i64)) h p1).bind fun x2 =>
        (cond ((x2 : Int) == s1)
          (some (.bool true, h))
          (L41_0 n m s0 s1 (IntKind.wrap .i64 (s5 + 1)) h))))
    (some (.bool false, h))) := by kernel_rfl
theorem f41_eq (n : Nat) (a0 : VS) (a1 : Int) (h : VH) : bodyV P tab (vF P tab n) n 41 [.sl 3 a0, .int .i64 a1] h =
  (L41_0 n n a0 a1 0 h) := by kernel_rfl
/-! godown/godownref14.Ahead -/
noncomputable def L42_0 (n m : Nat) (s0 : VS) (s1 : Int) (s5 : Nat) (s7 : VS) (s8 : Int) (h : VH) : VRes := loopAt P tab 42 [1, 1, 1, 1, 0, 1, 0] n [] m [.sl 78 s0, .int .i64 s1, .undef, .undef, .undef, .ptr (.ob s5 0), .undef, .sl 3 s7, .int .i64 s8, .undef, .undef, .undef, .undef, .undef, .undef, .undef, .undef, .undef, .undef, .undef, .undef, .undef, .undef, .undef, .undef, .undef, .undef, .undef, .undef, .undef, .undef, .undef, .undef, .undef, .undef, .undef, .undef, .undef, .undef, .undef, .undef, .undef, .undef, .undef, .undef, .undef, .undef, .undef, .undef, .undef, .undef, .undef, .undef, .undef, .undef, .undef, .undef, .undef, .undef, .undef, .undef, .undef, .undef, .undef, .undef, .undef, .undef, .undef, .undef, .undef, .undef, .undef, .undef, .undef, .undef, .undef, .undef, .undef, .undef, .undef, .undef, .undef, .undef, .undef, .undef, .undef, .undef, .undef, .undef, .undef, .undef, .undef, .undef, .undef, .undef, .undef, .undef, .undef] h
noncomputable def L42_1 (n m : Nat) (s1 : Int) (s7 : VS) (s9 : VS) (s10 : Int) (h : VH) : VRes := loopAt P tab 42 [1, 1, 1, 1, 1, 1, 0, 1, 0] n [] m [.undef, .int .i64 s1, .undef, .undef, .undef, .undef, .undef, .sl 3 s7, .undef, .sl 78 s9, .int .i64 s10, .undef, .undef, .undef, .undef, .undef, .undef, .undef, .undef, .undef, .undef, .undef, .undef, .undef, .undef, .undef, .undef, .undef, .undef, .undef, .undef, .undef, .undef, .undef, .undef, .undef, .undef, .undef, .undef, .undef, .undef, .undef, .undef, .undef, .undef, .undef, .undef, .undef, .undef, .undef, .undef, .undef, .undef, .undef, .undef, .undef, .undef, .undef, .undef, .undef, .undef, .undef, .undef, .undef, .undef, .undef, .undef, .undef, .undef, .undef, .undef, .undef, .undef, .undef, .undef, .undef, .undef, .undef, .undef, .undef, .undef, .undef, .undef, .undef, .undef, .undef, .undef, .undef, .undef, .undef, .undef, .undef, .undef, .undef, .undef, .undef, .undef, .undef] h
theorem L42_0_eq (n m : Nat) (s0 : VS) (s1 : Int) (s5 : Nat) (s7 : VS) (s8 : Int) (h : VH) : L42_0 n (m + 1) s0 s1 s5 s7 s8 h =
  (cond (decide ((s8 : Int) < ((VS.len s0 : Nat) : Int)))
    ((ixV 5 s0 s8).bind fun p1 =>
      ((atO p1 1).bind fun p2 =>
        ((ldV (.flat .str) h p2).bind fun x3 =>
          ((ldV (.flat .str) h (.ob s5 0)).bind fun x4 =>
            (cond (strEq x3 x4)
              ((ixV 5 s0 s8).bind fun p5 =>
                ((atO p5 3).bind fun p6 =>
                  ((ldV (.flat .bool) h p6).bind fun x7 =>
                    (cond (!x7)
                      ((ixV 5 s0 s8).bind fun p8 =>
                        ((atO p8 0).bind fun p9 =>
                        ((ldV (.flat (.int .i64)) h p9).bind fun x10 =>
                        (cond ((x10 : Int) != s1)
                        ((ldV (.flat .bool) h (.ob s5 1)).bind fun x11 =>
                        (cond x11
                        ((ixV 5 s0 s8).bind fun p12 =>
                        ((atO p12 0).bind fun p13 =>
                        ((ldV (.flat (.int .i64)) h p13).bind fun x14 =>
                        ((appD true h 1 8 3 s7 (.fz [[.int .i64 x14]] (.ex 1))).bind fun r15 =>
                        (L42_0 n m s0 s1 s5 r15.1 (IntKind.wrap .i64 (s8 + 1)) r15.2)))))
                        ((ixV 5 s0 s8).bind fun p16 =>
                        ((atO p16 2).bind fun p17 =>
                        ((ldV (.flat .bool) h p17).bind fun x18 =>
                        (cond x18
                        ((ixV 5 s0 s8).bind fun p19 =>
                        ((atO p19 0).bind fun p20 =>
                        ((ldV (.flat (.int .i64)) h p20).bind fun x21 =>
                        ((appD true h 1 8 3 s7 (.fz [[.int .i64 x21]] (.ex 1))).bind fun r22 =>
                        (L42_0 n m s0 s1 s5 r22.1 (IntKind.wrap .i64 (s8 + 1)) r22.2)))))
                        (L42_0 n m s0 s1 s5 s7 (IntKind.wrap .i64 (s8 + 1)) h)))))))
                        (L42_0 n m s0 s1 s5 s7 (IntKind.wrap .i64 (s8 + 1)) h)))))
                      (L42_0 n m s0 s1 s5 s7 (IntKind.wrap .i64 (s8 + 1)) h)))))
              (L42_0 n m s0 s1 s5 s7 (IntKind.wrap .i64 (s8 + 1)) h))))))
    ((ldV (.flat .str) h (.ob s5 0)).bind fun x23 =>
      ((callD (vF P tab n) P false (.one (.flat (.slice 78))) 37 [.sl 78 s0, .str x23] h).bind fun r24 =>
        (L42_1 n n s1 s7 r24.1 0 r24.2)))) := by kernel_rfl
theorem L42_1_eq (n m : Nat) (s1 : Int) (s7 : VS) (s9 : VS) (s10 : Int) (h : VH) : L42_1 n (m + 1) s1 s7 s9 s10 h =
  (cond (decide ((s10 : Int) < ((VS.len s9 : Nat) : Int)))
    ((ixV 5 s9 s10).bind fun p1 =>
      ((atO p1 0).bind fun p2 =>
        ((ldV (.flat (.int .i64)) h p2).bind fun x3 =>
          (cond ((x3 : Int) != s1)
            ((ixV 5 s9 s10).bind fun p4 =>
              ((atO p4 0).bind fun p5 =>
                ((ldV (.flat (.int .i64)) h p5).bind fun x6 =>
                  ((appD true h 1 8 3 s7 (.fz [[.int .i64 x6]] (.ex 1))).bind fun r7 =>
                    (L42_1 n m s1 r7.1 s9 (IntKind.wrap .i64 (s10 + 1)) r7.2)))))
            ((callD (vF P tab n) P false (.one (.flat (.slice 3))) 56 [.sl 3 s7] h).bind fun r8 =>
              (some (.sl 3 r8.1, r8.2)))))))
    ((callD (vF P tab n) P false (.one (.flat (.slice 3))) 56 [.sl 3 s7] h).bind fun r9 =>
      (some (.sl 3 r9.1, r9.2)))) := by kernel_rfl
theorem f42_eq (n : Nat) (a0 : VS) (a1 : Int) (h : VH) : bodyV P tab (vF P tab n) n 42 [.sl 78 a0, .int .i64 a1] h =
  ((callD (vF P tab n) P false (.tup [(.agg [.str, .bool]), (.flat .bool)]) 40 [.sl 78 a0, .int .i64 a1] h).bind fun r1 =>
    ((stV (r1.2 ++ [.row (49 + boxK) [.str ⟨#[]⟩, .bool false]]) (.ob r1.2.length 0) [.str r1.1.1.1, .bool r1.1.1.2.1]).bind fun h2 =>
      (cond (!r1.1.2.1)
        (some (.sl 3 .nil, h2))
        (L42_0 n n a0 a1 r1.2.length .nil 0 h2)))) := by kernel_rfl
/-! godown/godownref14.Sorted -/
theorem f43_eq (n : Nat) (a0 : VS) (h : VH) : bodyV P tab (vF P tab n) n 43 [.sl 3 a0] h =
  ((callD (vF P tab n) P false (.one (.flat (.slice 3))) 56 [.sl 3 a0] h).bind fun r1 =>
    (some (.sl 3 r1.1, r1.2))) := by kernel_rfl
/-! (*godown/lock.Table).see -/
theorem f44_eq (n : Nat) (a0 : VP) (a1 : ByteArray) (h : VH) : bodyV P tab (vF P tab n) n 44 [.ptr a0, .str a1] h =
  (cond (VP.isNil a0)
    ((stV (h ++ [.row (64 + boxK) [.sl 3 .nil, .bool false, .sl 66 .nil]]) (.ob h.length 0) [.sl 3 .nil, .bool false, .sl 66 .nil]).bind fun h1 =>
      (((ldV (.agg [.slice 3, .bool, .slice 66]) h1 (.ob h.length 0)).bind fun x2 =>
          some (.agg [.sl 3 x2.1, .bool x2.2.1, .sl 66 x2.2.2.1], h1))))
    ((nn a0).bind fun p3 =>
      ((atO p3 0).bind fun p4 =>
        ((ldV (.flat .map) (h ++ [.row (64 + boxK) [.sl 3 .nil, .bool false, .sl 66 .nil]]) p4).bind fun x5 =>
          ((V.lookD P 59 (.flat .ptr) (h ++ [.row (64 + boxK) [.sl 3 .nil, .bool false, .sl 66 .nil]]) .str x5 (.str a1)).bind fun x6 =>
            (cond (VP.isNil x6.1)
              ((stV (h ++ [.row (64 + boxK) [.sl 3 .nil, .bool false, .sl 66 .nil]]) (.ob h.length 0) [.sl 3 .nil, .bool false, .sl 66 .nil]).bind fun h7 =>
                (((ldV (.agg [.slice 3, .bool, .slice 66]) h7 (.ob h.length 0)).bind fun x8 =>
                    some (.agg [.sl 3 x8.1, .bool x8.2.1, .sl 66 x8.2.2.1], h7))))
              ((nn a0).bind fun p9 =>
                ((atO p9 0).bind fun p10 =>
                  ((ldV (.flat .map) (h ++ [.row (64 + boxK) [.sl 3 .nil, .bool false, .sl 66 .nil]]) p10).bind fun x11 =>
                    ((V.lookD P 59 (.flat .ptr) (h ++ [.row (64 + boxK) [.sl 3 .nil, .bool false, .sl 66 .nil]]) .str x11 (.str a1)).bind fun x12 =>
                      ((nn x12.1).bind fun p13 =>
                        ((ldV (.agg [.slice 3, .bool, .slice 66]) (h ++ [.row (64 + boxK) [.sl 3 .nil, .bool false, .sl 66 .nil]]) p13).bind fun x14 =>
                        ((stV (h ++ [.row (64 + boxK) [.sl 3 .nil, .bool false, .sl 66 .nil]]) (.ob h.length 0) [.sl 3 x14.1, .bool x14.2.1, .sl 66 x14.2.2.1]).bind fun h15 =>
                        (((ldV (.agg [.slice 3, .bool, .slice 66]) h15 (.ob h.length 0)).bind fun x16 =>
                        some (.agg [.sl 3 x16.1, .bool x16.2.1, .sl 66 x16.2.2.1], h15)))))))))))))))) := by kernel_rfl
/-! slices.Index[[]int,int] -/
noncomputable def L45_0 (n m : Nat) (s0 : VS) (s1 : Int) (s7 : Int) (s8 : Int) (h : VH) : VRes := loopAt P tab 45 [1, 0, 1, 0] n [] m [.sl 3 s0, .int .i64 s1, .undef, .undef, .undef, .undef, .undef, .int .i64 s7, .int .i64 s8, .undef, .undef, .undef, .undef, .undef, .undef, .undef, .undef, .undef, .undef] h
theorem L45_0_eq (n m : Nat) (s0 : VS) (s1 : Int) (s7 : Int) (s8 : Int) (h : VH) : L45_0 n (m + 1) s0 s1 s7 s8 h =
  (cond (decide ((s8 : Int) < s7))
    ((ixV 1 s0 s8).bind fun p1 =>
      ((ldV (.flat (.int .i64)) h p1).bind fun x2 =>
        (cond ((s1 : Int) == x2)
          (some (.int .i64 s8, h))
          (L45_0 n m s0 s1 s7 (IntKind.wrap .i64 (s8 + 1)) h))))
    (some (.int .i64 (-1), h))) := by kernel_rfl
theorem f45_eq (n : Nat) (a0 : VS) (a1 : Int) (h : VH) : bodyV P tab (vF P tab n) n 45 [.sl 3 a0, .int .i64 a1] h =
  (L45_0 n n a0 a1 ((VS.len a0 : Nat) : Int) 0 h) := by kernel_rfl
/-! slices.IndexFunc[[]int,int] -/
noncomputable def L47_0 (n m : Nat) (s0 : VS) (s1_0 : VP) (s1_1 : VP) (s7 : Int) (s8 : Int) (h : VH) : VRes := loopAt P tab 47 [1, 0, 1, 0] n [] m [.sl 3 s0, .func (.func 30) [] [.ptr s1_0, .ptr s1_1], .undef, .undef, .undef, .undef, .undef, .int .i64 s7, .int .i64 s8, .undef, .undef, .undef, .undef, .undef, .undef, .undef, .undef, .undef, .undef] h
theorem L47_0_eq (n m : Nat) (s0 : VS) (s1_0 : VP) (s1_1 : VP) (s7 : Int) (s8 : Int) (h : VH) : L47_0 n (m + 1) s0 s1_0 s1_1 s7 s8 h =
  (cond (decide ((s8 : Int) < s7))
    ((ixV 1 s0 s8).bind fun p1 =>
      ((ldV (.flat (.int .i64)) h p1).bind fun x2 =>
        ((callD (vF P tab n) P false (.one (.flat .bool)) 30 [.int .i64 x2, .ptr s1_0, .ptr s1_1] h).bind fun r3 =>
          (cond r3.1
            (some (.int .i64 s8, r3.2))
            (L47_0 n m s0 s1_0 s1_1 s7 (IntKind.wrap .i64 (s8 + 1)) r3.2)))))
    (some (.int .i64 (-1), h))) := by kernel_rfl
theorem f47_eq (n : Nat) (a0 : VS) (a1_0 : VP) (a1_1 : VP) (h : VH) : bodyV P tab (vF P tab n) n 47 [.sl 3 a0, .func (.func 30) [] [.ptr a1_0, .ptr a1_1]] h =
  (L47_0 n n a0 a1_0 a1_1 ((VS.len a0 : Nat) : Int) 0 h) := by kernel_rfl
/-! maps.Keys[map[string]*godown/lock.lock,string,*godown/lock.lock] -/
theorem f51_eq (n : Nat) (a0 : Option Nat) (h : VH) : bodyV P tab (vF P tab n) n 51 [.map a0] h =
  (some (.func (.func 72) [] [.ptr (.ob h.length 0)], (h ++ [.row (55 + boxK) [.map a0]]))) := by kernel_rfl
/-! (*godown/lock.lock).leave$1 -/
theorem f52_eq (n : Nat) (a0 : Int) (a1 : VP) (h : VH) : bodyV P tab (vF P tab n) n 52 [.int .i64 a0, .ptr a1] h =
  ((ldV (.flat (.int .i64)) h a1).bind fun x1 =>
    (some (.bool ((a0 : Int) == x1), h))) := by kernel_rfl
/-! slices.DeleteFunc[[]godown/lock.waiter,godown/lock.waiter] -/
noncomputable def L53_0 (n m : Nat) (s0 : VS) (s1_0 : VP) (s5 : Int) (s6 : Int) (h : VH) : VRes := loopAt P tab 53 [1, 1, 1, 0, 1, 0] n [] m [.sl 66 s0, .func (.func 54) [] [.ptr s1_0], .undef, .undef, .undef, .int .i64 s5, .int .i64 s6, .undef, .undef, .undef, .undef, .undef, .undef, .undef, .undef, .undef, .undef, .undef, .undef, .undef, .undef, .undef, .undef, .undef, .undef, .undef, .undef, .undef, .undef, .undef, .undef, .undef, .undef, .undef, .undef, .undef, .undef, .undef, .undef, .undef, .undef, .undef] h
theorem L53_0_eq (n m : Nat) (s0 : VS) (s1_0 : VP) (s5 : Int) (s6 : Int) (h : VH) : L53_0 n (m + 1) s0 s1_0 s5 s6 h =
  (cond (decide ((s6 : Int) < ((VS.len s0 : Nat) : Int)))
    ((ixV 3 s0 s6).bind fun p1 =>
      ((ldV (.agg [.int .i64, .bool, .bool]) h p1).bind fun x2 =>
        ((stV (h ++ [.row (66 + boxK) [.int .i64 0, .bool false, .bool false]]) (.ob h.length 0) [.int .i64 x2.1, .bool x2.2.1, .bool x2.2.2.1]).bind fun h3 =>
          ((ldV (.agg [.int .i64, .bool, .bool]) h3 (.ob h.length 0)).bind fun x4 =>
            ((callD (vF P tab n) P false (.one (.flat .bool)) 54 [.agg [.int .i64 x4.1, .bool x4.2.1, .bool x4.2.2.1], .ptr s1_0] h3).bind fun r5 =>
              (cond (!r5.1)
                ((ldV (.agg [.int .i64, .bool, .bool]) r5.2 (.ob h.length 0)).bind fun x6 =>
                  ((ixV 3 s0 s5).bind fun p7 =>
                    ((stV r5.2 p7 [.int .i64 x6.1, .bool x6.2.1, .bool x6.2.2.1]).bind fun h8 =>
                      (L53_0 n m s0 s1_0 (IntKind.wrap .i64 (s5 + 1)) (IntKind.wrap .i64 (s6 + 1)) h8))))
                (L53_0 n m s0 s1_0 s5 (IntKind.wrap .i64 (s6 + 1)) r5.2)))))))
    ((cutD h 66 3 s0 (some s5) none none).bind fun z9 =>
      ((V.clrD P h 62 (.sl 66 z9)).bind fun h10 =>
        ((cutD h10 66 3 s0 none (some s5) none).bind fun z11 =>
          (some (.sl 66 z11, h10)))))) := by kernel_rfl
theorem f53_eq (n : Nat) (a0 : VS) (a1_0 : VP) (h : VH) : bodyV P tab (vF P tab n) n 53 [.sl 66 a0, .func (.func 54) [] [.ptr a1_0]] h =
  ((callD (vF P tab n) P false (.one (.flat (.int .i64))) 73 [.sl 66 a0, .func (.func 54) [] [.ptr a1_0]] h).bind fun r1 =>
    (cond ((r1.1 : Int) == (-1))
      (some (.sl 66 a0, r1.2))
      (L53_0 n n a0 a1_0 r1.1 (IntKind.wrap .i64 (r1.1 + 1)) r1.2))) := by kernel_rfl
/-! (*godown/lock.lock).leave$2 -/
theorem f54_eq (n : Nat) (a0_0 : Int) (a0_1 : Bool) (a0_2 : Bool) (a1 : VP) (h : VH) : bodyV P tab (vF P tab n) n 54 [.agg [.int .i64 a0_0, .bool a0_1, .bool a0_2], .ptr a1] h =
  ((ldV (.flat (.int .i64)) (h ++ [.row (66 + boxK) [.int .i64 a0_0, .bool a0_1, .bool a0_2]]) (.ob h.length 0)).bind fun x1 =>
    ((ldV (.flat (.int .i64)) (h ++ [.row (66 + boxK) [.int .i64 a0_0, .bool a0_1, .bool a0_2]]) a1).bind fun x2 =>
      (some (.bool ((x1 : Int) == x2), (h ++ [.row (66 + boxK) [.int .i64 a0_0, .bool a0_1, .bool a0_2]]))))) := by kernel_rfl
/-! godown/godownref14.Holders -/
noncomputable def L55_0 (n m : Nat) (s0 : VS) (s1 : ByteArray) (s6 : VS) (s7 : Bool) (s8 : Int) (h : VH) : VRes := loopAt P tab 55 [1, 1, 1, 0, 1, 0] n [] m [.sl 78 s0, .str s1, .undef, .undef, .undef, .undef, .sl 3 s6, .bool s7, .int .i64 s8, .undef, .undef, .undef, .undef, .undef, .undef, .undef, .undef, .undef, .undef, .undef, .undef, .undef, .undef, .undef, .undef, .undef, .undef, .undef, .undef, .undef, .undef, .undef, .undef, .undef, .undef, .undef, .undef, .undef, .undef, .undef, .undef, .undef, .undef, .undef, .undef, .undef, .undef, .undef, .undef] h
theorem L55_0_eq (n m : Nat) (s0 : VS) (s1 : ByteArray) (s6 : VS) (s7 : Bool) (s8 : Int) (h : VH) : L55_0 n (m + 1) s0 s1 s6 s7 s8 h =
  (cond (decide ((s8 : Int) < ((VS.len s0 : Nat) : Int)))
    ((ixV 5 s0 s8).bind fun p1 =>
      ((atO p1 1).bind fun p2 =>
        ((ldV (.flat .str) h p2).bind fun x3 =>
          (cond (strEq x3 s1)
            ((ixV 5 s0 s8).bind fun p4 =>
              ((atO p4 3).bind fun p5 =>
                ((ldV (.flat .bool) h p5).bind fun x6 =>
                  (cond (!x6)
                    ((ixV 5 s0 s8).bind fun p7 =>
                      ((atO p7 0).bind fun p8 =>
                        ((ldV (.flat (.int .i64)) h p8).bind fun x9 =>
                        ((appD true h 1 8 3 s6 (.fz [[.int .i64 x9]] (.ex 1))).bind fun r10 =>
                        (cond s7
                        (L55_0 n m s0 s1 r10.1 true (IntKind.wrap .i64 (s8 + 1)) r10.2)
                        ((ixV 5 s0 s8).bind fun p11 =>
                        ((atO p11 2).bind fun p12 =>
                        ((ldV (.flat .bool) r10.2 p12).bind fun x13 =>
                        (L55_0 n m s0 s1 r10.1 x13 (IntKind.wrap .i64 (s8 + 1)) r10.2)))))))))
                    (L55_0 n m s0 s1 s6 s7 (IntKind.wrap .i64 (s8 + 1)) h)))))
            (L55_0 n m s0 s1 s6 s7 (IntKind.wrap .i64 (s8 + 1)) h)))))
    ((callD (vF P tab n) P false (.one (.flat (.slice 3))) 56 [.sl 3 s6] h).bind fun r14 =>
      (some (.tup [.sl 3 r14.1, .bool s7], r14.2)))) := by kernel_rfl
theorem f55_eq (n : Nat) (a0 : VS) (a1 : ByteArray) (h : VH) : bodyV P tab (vF P tab n) n 55 [.sl 78 a0, .str a1] h =
  (L55_0 n n a0 a1 .nil false 0 h) := by kernel_rfl
/-! godown/godownref14.sorted -/
noncomputable def L56_0 (n m : Nat) (s0 : VS) (s3 : VS) (h : VH) : VRes := loopAt P tab 56 [1, 1, 0] n [] m [.sl 3 s0, .undef, .undef, .sl 3 s3, .undef, .undef, .undef, .undef, .undef, .undef, .undef, .undef, .undef, .undef, .undef, .undef, .undef, .undef, .undef, .undef, .undef, .undef, .undef, .undef, .undef, .undef, .undef, .undef, .undef, .undef, .undef, .undef, .undef, .undef, .undef, .undef, .undef, .undef, .undef, .undef, .undef, .undef, .undef, .undef, .undef, .undef, .undef, .undef, .undef, .undef, .undef, .undef, .undef, .undef] h
noncomputable def L56_1 (n m0 m : Nat) (s0 : VS) (s3 : VS) (s4 : Int) (s5 : Int) (h : VH) : VRes := loopAt P tab 56 [1, 1, 0, 0, 0, 1, 0, 1, 0] n [m0] m [.sl 3 s0, .undef, .undef, .sl 3 s3, .int .i64 s4, .int .i64 s5, .undef, .undef, .undef, .undef, .undef, .undef, .undef, .undef, .undef, .undef, .undef, .undef, .undef, .undef, .undef, .undef, .undef, .undef, .undef, .undef, .undef, .undef, .undef, .undef, .undef, .undef, .undef, .undef, .undef, .undef, .undef, .undef, .undef, .undef, .undef, .undef, .undef, .undef, .undef, .undef, .undef, .undef, .undef, .undef, .undef, .undef, .undef, .undef] h
theorem L56_0_eq (n m : Nat) (s0 : VS) (s3 : VS) (h : VH) : L56_0 n (m + 1) s0 s3 h =
  (L56_1 n m n s0 s3 (-1) 0 h) := by kernel_rfl
theorem L56_1_eq (n m0 m : Nat) (s0 : VS) (s3 : VS) (s4 : Int) (s5 : Int) (h : VH) : L56_1 n m0 (m + 1) s0 s3 s4 s5 h =
  (cond (decide ((s5 : Int) < ((VS.len s0 : Nat) : Int)))
    (cond ((((VS.len s3 : Nat) : Int) : Int) == 0)
      (cond (decide ((s4 : Int) < 0))
        (L56_1 n m0 m s0 s3 s5 (IntKind.wrap .i64 (s5 + 1)) h)
        ((ixV 1 s0 s5).bind fun p1 =>
          ((ldV (.flat (.int .i64)) h p1).bind fun x2 =>
            ((ixV 1 s0 s4).bind fun p3 =>
              ((ldV (.flat (.int .i64)) h p3).bind fun x4 =>
                (cond (decide ((x2 : Int) < x4))
                  (L56_1 n m0 m s0 s3 s5 (IntKind.wrap .i64 (s5 + 1)) h)
                  (L56_1 n m0 m s0 s3 s4 (IntKind.wrap .i64 (s5 + 1)) h)))))))
      ((ixV 1 s0 s5).bind fun p5 =>
        ((ldV (.flat (.int .i64)) h p5).bind fun x6 =>
          ((ixV 1 s3 (IntKind.wrap .i64 (((VS.len s3 : Nat) : Int) - 1))).bind fun p7 =>
            ((ldV (.flat (.int .i64)) h p7).bind fun x8 =>
              (cond (decide ((x6 : Int) > x8))
                (cond (decide ((s4 : Int) < 0))
                  (L56_1 n m0 m s0 s3 s5 (IntKind.wrap .i64 (s5 + 1)) h)
                  ((ixV 1 s0 s5).bind fun p9 =>
                    ((ldV (.flat (.int .i64)) h p9).bind fun x10 =>
                      ((ixV 1 s0 s4).bind fun p11 =>
                        ((ldV (.flat (.int .i64)) h p11).bind fun x12 =>
                        (cond (decide ((x10 : Int) < x12))
                        (L56_1 n m0 m s0 s3 s5 (IntKind.wrap .i64 (s5 + 1)) h)
                        (L56_1 n m0 m s0 s3 s4 (IntKind.wrap .i64 (s5 + 1)) h)))))))
                (L56_1 n m0 m s0 s3 s4 (IntKind.wrap .i64 (s5 + 1)) h)))))))
    (cond (decide ((s4 : Int) < 0))
      (some (.sl 3 s3, h))
      ((ixV 1 s0 s4).bind fun p13 =>
        ((ldV (.flat (.int .i64)) h p13).bind fun x14 =>
          ((appD true h 1 8 3 s3 (.fz [[.int .i64 x14]] (.ex 1))).bind fun r15 =>
            (L56_0 n m0 s0 r15.1 r15.2)))))) := by kernel_rfl
theorem f56_eq (n : Nat) (a0 : VS) (h : VH) : bodyV P tab (vF P tab n) n 56 [.sl 3 a0] h =
  (L56_0 n n a0 .nil h) := by kernel_rfl
/-! slices.IndexFunc[[]godown/lock.waiter,godown/lock.waiter] -/
noncomputable def L73_0 (n m : Nat) (s0 : VS) (s1_0 : VP) (s7 : Int) (s8 : Int) (h : VH) : VRes := loopAt P tab 73 [1, 0, 1, 0] n [] m [.sl 66 s0, .func (.func 54) [] [.ptr s1_0], .undef, .undef, .undef, .undef, .undef, .int .i64 s7, .int .i64 s8, .undef, .undef, .undef, .undef, .undef, .undef, .undef, .undef, .undef, .undef] h
theorem L73_0_eq (n m : Nat) (s0 : VS) (s1_0 : VP) (s7 : Int) (s8 : Int) (h : VH) : L73_0 n (m + 1) s0 s1_0 s7 s8 h =
  (cond (decide ((s8 : Int) < s7))
    ((ixV 3 s0 s8).bind fun p1 =>
      ((ldV (.agg [.int .i64, .bool, .bool]) h p1).bind fun x2 =>
        ((callD (vF P tab n) P false (.one (.flat .bool)) 54 [.agg [.int .i64 x2.1, .bool x2.2.1, .bool x2.2.2.1], .ptr s1_0] h).bind fun r3 =>
          (cond r3.1
            (some (.int .i64 s8, r3.2))
            (L73_0 n m s0 s1_0 s7 (IntKind.wrap .i64 (s8 + 1)) r3.2)))))
    (some (.int .i64 (-1), h))) := by kernel_rfl
theorem f73_eq (n : Nat) (a0 : VS) (a1_0 : VP) (h : VH) : bodyV P tab (vF P tab n) n 73 [.sl 66 a0, .func (.func 54) [] [.ptr a1_0]] h =
  (L73_0 n n a0 a1_0 ((VS.len a0 : Nat) : Int) 0 h) := by kernel_rfl
end Go.Proofs.Ytibdinelkpbhaaa
