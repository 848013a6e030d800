import Derived.Test.YtmpobijkbmljdaaB05i
import Derived.Test.YtmpobijkbmljdaaProg
set_option maxRecDepth 100000
set_option maxHeartbeats 0
set_option linter.unusedVariables false
set_option linter.unusedSimpArgs false
namespace Go.Proofs.Ytmpobijkbmljdaa
open Go.Proofs.Ytmpobijkbmljdaa.Sh Go.Proofs.Ytmpobijkbmljdaa.Sh.V
def notes : List (Nat × Notes) := [(6, ⟨[(5, .order [(0, true), (1, true), (3, true), (4, true), (2, false), (5, false), (6, true), (7, true), (8, true), (9, true), (11, true), (12, true), (14, true), (15, true), (10, false), (13, false), (16, false), (17, true), (18, true), (19, true), (20, true)])], [], []⟩),
  (8, ⟨[(11, .order [(0, true), (1, true), (2, true), (3, true), (4, true), (5, true), (6, true), (7, true), (8, true), (9, true), (10, true), (11, false), (12, true)]), (12, .order [(0, true), (1, true), (2, true), (3, true), (4, true), (5, true), (6, true), (7, true), (8, true), (9, true), (10, true), (11, true), (12, false), (13, true)]), (13, .tail 12), (18, .order [(0, true), (1, true), (2, true), (3, true), (4, true), (5, true), (6, true), (7, true), (8, true), (9, true), (10, true), (11, true), (12, true), (13, true), (14, true), (15, true), (16, true), (17, true), (18, true), (19, true), (20, true), (21, true), (22, false), (23, true)]), (19, .tail 13)], [(9, [0, 1, 2, 3, 4, 6, 7, 8, 9, 11, 12, 13, 14, 15, 16, 17, 18, 19, 20, 21, 22, 23, 24, 25, 26, 27, 28, 29, 30, 31, 32, 33, 34, 35, 36, 37, 38, 39, 40, 41, 42, 43, 44, 45, 46, 47, 48, 49, 50, 51, 52, 53, 54, 55, 56, 57, 58, 59, 60, 61, 62, 63, 64, 65, 66, 67, 68, 69, 70, 71, 72, 73, 74, 75, 76, 77, 78, 79, 80, 81, 82, 83, 84, 85, 86, 87, 88, 89, 90, 91, 92, 93, 94, 95, 96, 97, 98, 99, 100, 101, 102, 103, 104, 105, 106, 107, 108, 109, 110, 111, 112, 113, 114, 115, 116, 117, 118, 119, 120, 121, 122, 123, 124, 125, 126, 127, 128, 129, 130, 131, 132, 133, 134, 135, 136, 137, 138, 139, 140, 141, 142, 143, 144, 145, 146, 147, 148, 149, 150, 151, 152, 153, 154, 155, 156, 157]), (16, [0, 1, 2, 3, 4, 6, 7, 8, 9, 11, 12, 13, 14, 16, 17, 18, 19, 20, 21, 22, 23, 24, 25, 26, 27, 28, 29, 30, 31, 32, 33, 34, 35, 36, 37, 38, 39, 40, 41, 42, 43, 44, 45, 46, 47, 48, 49, 50, 51, 52, 53, 54, 55, 56, 57, 58, 59, 60, 61, 62, 63, 64, 65, 66, 67, 68, 69, 70, 71, 72, 73, 74, 75, 76, 77, 78, 79, 80, 81, 82, 83, 84, 85, 86, 87, 88, 89, 90, 91, 92, 93, 94, 95, 96, 97, 98, 99, 100, 101, 102, 103, 104, 105, 106, 107, 108, 109, 110, 111, 112, 113, 114, 115, 116, 117, 118, 119, 120, 121, 122, 123, 124, 125, 126, 127, 128, 129, 130, 131, 132, 133, 134, 135, 136, 137, 138, 139, 140, 141, 142, 143, 144, 145, 146, 147, 148, 149, 150, 151, 152, 153, 154, 155, 156, 157])], []⟩),
  (15, ⟨[], [(3, [0, 1, 2, 4, 5, 6, 10, 11, 12, 13, 14, 15, 16, 17, 18, 19])], []⟩),
  (19, ⟨[], [(2, [1, 2, 4, 5, 6, 7, 8, 9, 10, 11, 12, 13, 14, 15, 16, 17, 18, 19])], []⟩),
  (22, ⟨[(1, .order [(0, true), (1, true), (2, true), (3, false), (4, true), (5, true), (6, true), (7, true), (8, true), (9, false), (10, true), (11, true), (12, true), (13, true), (14, true), (15, true), (16, false), (17, true), (18, true), (19, true), (20, true), (21, true), (23, true), (24, true), (22, false), (25, false), (26, true), (27, true), (28, true), (29, true), (30, true), (31, true), (32, false), (33, false), (34, true), (35, true), (36, true), (37, true), (38, true), (39, true), (40, false), (41, false), (42, true), (43, true), (44, true), (45, true), (46, true), (47, true), (48, true), (49, false), (50, true), (51, true), (52, true)]), (6, .tail 10)], [(4, [0, 1, 4, 6, 7, 8, 9, 10, 11, 12, 13, 14, 15, 16, 17, 18, 19, 20, 21, 22, 23, 24, 25, 26, 27, 28, 29, 30, 31, 32, 33, 34, 35, 36, 37, 38, 39, 40, 41, 42, 43, 44, 45, 46, 47, 48, 49, 50, 51, 52, 53, 54, 55, 56, 57, 58, 59, 60, 61, 62, 63, 64, 65, 66, 67, 68, 69, 70, 71, 72, 73, 74, 75, 76, 77])], []⟩),
  (29, ⟨[], [(1, [0, 3, 5, 6, 7, 8, 9, 10, 11, 12, 13, 14, 15, 16, 17, 18, 19, 20, 21, 22, 23, 24, 25, 26, 27, 28, 29, 30, 31, 32, 33, 34, 35, 36, 37, 38, 39, 40, 41, 42])], []⟩),
  (30, ⟨[(14, .order [(0, true), (1, true), (2, true), (3, true), (4, true), (5, true), (6, true), (7, true), (8, true), (9, false), (10, true), (11, true), (12, false), (13, true)])], [(4, [0, 3, 5, 7, 8, 9, 10, 11, 12, 13, 14, 15, 16, 17, 18, 19, 20, 21, 22, 23, 24, 25, 26, 27, 28, 29, 30, 31, 32, 33, 34, 35, 36, 37, 38, 39, 40, 41, 42, 43, 44, 45, 46, 47, 48, 49, 50, 51, 52, 53, 54, 55, 56, 57, 58, 59, 60, 61, 62, 63, 64, 65, 66]), (9, [0, 3, 5, 8, 9, 10, 11, 12, 13, 14, 15, 16, 17, 18, 19, 20, 21, 22, 23, 24, 25, 26, 27, 28, 29, 30, 31, 32, 33, 34, 35, 36, 37, 38, 39, 40, 41, 42, 43, 44, 45, 46, 47, 48, 49, 50, 51, 52, 53, 54, 55, 56, 57, 58, 59, 60, 61, 62, 63, 64, 65, 66])], []⟩),
  (37, ⟨[(19, .order [(0, true), (1, true), (2, true), (4, true), (5, true), (6, true), (3, false), (7, false), (8, true), (9, true)]), (22, .order [(0, true), (1, true), (2, true), (3, true), (4, true), (5, true), (6, true), (8, true), (9, true), (10, true), (11, true), (12, true), (13, true), (14, true), (7, false), (15, false), (16, true), (17, true)]), (24, .order [(0, true), (1, true), (2, true), (4, true), (5, true), (6, true), (3, false), (7, false), (8, true), (9, true)])], [(8, [3, 4, 5, 7, 10, 11, 12, 13, 14, 15, 16, 17, 18, 19, 20, 21, 22, 23, 24, 25, 26, 27, 28, 29, 30, 31, 32, 33, 34, 35, 36, 37, 38, 39, 40, 41, 42, 43, 44, 45, 46, 47, 48, 49, 50, 51, 52, 53, 54, 55, 56, 57, 58, 59, 60, 61, 62, 63, 64, 65, 66, 67, 68, 69, 70, 71, 72, 73, 74, 75, 76, 77, 78, 79, 80, 81, 82, 83, 84, 85, 86, 87, 88, 89, 90, 91, 92, 93, 94, 95, 96, 97, 98, 99, 100, 101, 102, 103, 104, 105, 106, 107, 108, 109, 110, 111, 112, 113, 114, 115, 116, 117, 118, 119, 120, 121, 122, 123, 124, 125, 126, 127, 128, 129, 130, 131, 132, 133, 134, 135, 136, 137]), (16, [3, 4, 5, 7, 16, 17, 18, 19, 20, 21, 22, 23, 24, 25, 26, 27, 28, 29, 30, 31, 32, 33, 34, 35, 36, 37, 38, 39, 40, 41, 42, 43, 44, 45, 46, 47, 48, 49, 50, 51, 52, 53, 54, 55, 56, 57, 58, 59, 60, 61, 62, 63, 64, 65, 66, 67, 68, 69, 70, 71, 72, 73, 74, 75, 76, 77, 78, 79, 80, 81, 82, 83, 84, 85, 86, 87, 88, 89, 90, 91, 92, 93, 94, 95, 96, 97, 98, 99, 100, 101, 102, 103, 104, 105, 106, 107, 108, 109, 110, 111, 112, 113, 114, 115, 116, 117, 118, 119, 120, 121, 122, 123, 124, 125, 126, 127, 128, 129, 130, 131, 132, 133, 134, 135, 136, 137])], []⟩),
  (40, ⟨[], [(4, [2, 3, 4, 5, 6, 7, 8, 9, 10, 11, 14, 15, 16, 17, 18, 19, 20, 21, 22, 23, 24, 25])], []⟩),
  (41, ⟨[], [(4, [0, 3, 4, 5, 6, 7, 8, 9, 10, 11, 12, 13, 14, 18, 19, 20, 21, 22, 23, 24, 25, 26, 27, 28, 29, 30, 31])], []⟩),
  (42, ⟨[], [(4, [2, 3, 4, 6, 7, 8, 9, 10, 11, 12, 13, 14, 15, 16, 17, 18, 19, 20, 21, 22, 23, 24, 25])], []⟩),
  (43, ⟨[], [(4, [2, 3, 4, 6, 7, 8, 9, 10, 11, 12, 13, 14, 15, 16, 17, 18, 19, 20, 21, 22, 23, 24, 25])], []⟩),
  (49, ⟨[], [(3, [2, 3, 4, 5, 9, 10, 11, 12, 13, 14, 15, 16, 17, 18, 19, 20, 21, 22, 23, 24, 25, 26, 27, 28, 29, 30, 31, 32, 33, 34, 35, 36, 37, 38, 39, 40, 41, 42, 43, 44, 45, 46, 47, 48, 49, 50, 51, 52, 53])], []⟩),
  (53, ⟨[], [(2, [1, 2, 3, 4, 8, 9, 10, 11, 12, 13, 14, 15, 16, 17, 18, 19, 20, 21, 22, 23, 24, 25, 26, 27, 28])], []⟩),
  (61, ⟨[], [(2, [2, 3, 4, 5, 6, 9, 10, 11, 12, 13, 14, 15, 16, 17, 18])], []⟩)]
noncomputable abbrev P : Program := Try.prog
def reach : List Nat := [6, 8, 9, 11, 13, 15, 17, 19, 20, 21, 22, 24, 29, 30, 31, 32, 34, 35, 36, 37, 38, 39, 40, 41, 42, 43, 46, 48, 49, 50, 51, 52, 53, 55, 56, 57, 58, 59, 60, 61, 62, 64]
def noteOf (f : FuncId) : Notes := (find notes f).getD ⟨[], [], []⟩
noncomputable def prims : List (FuncId × (List V → VH → VRes)) := [(63, idxP), (65, caP)]
noncomputable def tab : VTab := mkVp (mkV P noteOf reach [] (fun f => !among [] f) (among [9, 10, 11, 12, 13, 14, 15, 16, 17, 18, 19, 20, 21, 22, 24, 25, 26, 27, 29, 30, 32, 33, 37, 38, 39, 40, 41, 42, 43, 44, 45, 46, 48, 49, 52, 53, 54, 56, 57, 58, 62]) (fun f g => among2 [] f g) (fun f => !among [] f)) prims
noncomputable def ext23 : Array Value → Sem Value := (extOf P 23).getD fun _ => .pure undef
noncomputable def ext28 : Array Value → Sem Value := (extOf P 28).getD fun _ => .pure undef
/-! godown/godownlaw05.leaf -/
theorem f9_eq (n : Nat)  (h : VH) : bodyV P tab (vF P tab n) n 9 [] h =
  ((stV (h ++ [.row (27 + boxK) [.int .u8 0, .sl 9 .nil, .sl 27 .nil, .sl 5 .nil, .bool false, .flt .f64 0, .str ⟨#[]⟩]]) (.ob h.length 0) [.int .u8 1, .sl 9 (.fz [[.str ⟨#[97]⟩]] (.ex 1)), .sl 27 (.fz [[.int .u8 2, .sl 9 .nil, .sl 27 .nil, .sl 5 (.fz [[.int .u8 255]] (.ex 1)), .bool false, .flt .f64 0, .str ⟨#[]⟩]] (.ex 1)), .sl 5 .nil, .bool false, .flt .f64 0, .str ⟨#[]⟩]).bind fun h1 =>
    ((ldV (.agg [.int .u8, .slice 9, .slice 27, .slice 5, .bool, .flt .f64, .str]) h1 (.ob h.length 0)).bind fun x2 =>
      ((callD (vF P tab n) P false (.one (.flat (.int .i64))) 13 [.agg [.int .u8 x2.1, .sl 9 x2.2.1, .sl 27 x2.2.2.1, .sl 5 x2.2.2.2.1, .bool x2.2.2.2.2.1, .flt .f64 x2.2.2.2.2.2.1, .str x2.2.2.2.2.2.2.1]] h1).bind fun r3 =>
        (cond ((r3.1 : Int) == 2)
          ((ldV (.agg [.int .u8, .slice 9, .slice 27, .slice 5, .bool, .flt .f64, .str]) r3.2 (.ob h.length 0)).bind fun x4 =>
            ((callD (vF P tab n) P false (.one (.flat (.int .i64))) 15 [.agg [.int .u8 x4.1, .sl 9 x4.2.1, .sl 27 x4.2.2.1, .sl 5 x4.2.2.2.1, .bool x4.2.2.2.2.1, .flt .f64 x4.2.2.2.2.2.1, .str x4.2.2.2.2.2.2.1]] r3.2).bind fun r5 =>
              (cond ((r5.1 : Int) == 2)
                ((ldV (.agg [.int .u8, .slice 9, .slice 27, .slice 5, .bool, .flt .f64, .str]) r5.2 (.ob h.length 0)).bind fun x6 =>
                  ((callD (vF P tab n) P false (.one (.flat (.int .i64))) 17 [.agg [.int .u8 x6.1, .sl 9 x6.2.1, .sl 27 x6.2.2.1, .sl 5 x6.2.2.2.1, .bool x6.2.2.2.2.1, .flt .f64 x6.2.2.2.2.2.1, .str x6.2.2.2.2.2.2.1]] r5.2).bind fun r7 =>
                    (cond ((r7.1 : Int) == 1)
                      ((ldV (.agg [.int .u8, .slice 9, .slice 27, .slice 5, .bool, .flt .f64, .str]) r7.2 (.ob h.length 0)).bind fun x8 =>
                        ((callD (vF P tab n) P false (.one (.flat .bool)) 11 [.agg [.int .u8 x8.1, .sl 9 x8.2.1, .sl 27 x8.2.2.1, .sl 5 x8.2.2.2.1, .bool x8.2.2.2.2.1, .flt .f64 x8.2.2.2.2.2.1, .str x8.2.2.2.2.2.2.1]] r7.2).bind fun r9 =>
                        (some (.bool r9.1, r9.2))))
                      (some (.bool false, r7.2)))))
                (some (.bool false, r5.2)))))
          (some (.bool false, r3.2)))))) := by kernel_rfl
/-! godown/tree.Right -/
theorem f11_eq (n : Nat) (a0_0 : Int) (a0_1 : VS) (a0_2 : VS) (a0_3 : VS) (a0_4 : Bool) (a0_5 : Nat) (a0_6 : ByteArray) (h : VH) : bodyV P tab (vF P tab n) n 11 [.agg [.int .u8 a0_0, .sl 9 a0_1, .sl 27 a0_2, .sl 5 a0_3, .bool a0_4, .flt .f64 a0_5, .str a0_6]] h =
  ((ldV (.agg [.int .u8, .slice 9, .slice 27, .slice 5, .bool, .flt .f64, .str]) (h ++ [.row (27 + boxK) [.int .u8 a0_0, .sl 9 a0_1, .sl 27 a0_2, .sl 5 a0_3, .bool a0_4, .flt .f64 a0_5, .str a0_6]]) (.ob h.length 0)).bind fun x1 =>
    ((callD (vF P tab n) P false (.one (.flat .bool)) 31 [.agg [.int .u8 x1.1, .sl 9 x1.2.1, .sl 27 x1.2.2.1, .sl 5 x1.2.2.2.1, .bool x1.2.2.2.2.1, .flt .f64 x1.2.2.2.2.2.1, .str x1.2.2.2.2.2.2.1], .func (.func 32) [] []] (h ++ [.row (27 + boxK) [.int .u8 a0_0, .sl 9 a0_1, .sl 27 a0_2, .sl 5 a0_3, .bool a0_4, .flt .f64 a0_5, .str a0_6]])).bind fun r2 =>
      (cond r2.1
        ((ldV (.agg [.int .u8, .slice 9, .slice 27, .slice 5, .bool, .flt .f64, .str]) r2.2 (.ob h.length 0)).bind fun x3 =>
          ((callD (vF P tab n) P false (.one (.flat (.int .i64))) 15 [.agg [.int .u8 x3.1, .sl 9 x3.2.1, .sl 27 x3.2.2.1, .sl 5 x3.2.2.2.1, .bool x3.2.2.2.2.1, .flt .f64 x3.2.2.2.2.2.1, .str x3.2.2.2.2.2.2.1]] r2.2).bind fun r4 =>
            (cond (decide ((r4.1 : Int) ≤ 8))
              ((ldV (.agg [.int .u8, .slice 9, .slice 27, .slice 5, .bool, .flt .f64, .str]) r4.2 (.ob h.length 0)).bind fun x5 =>
                ((callD (vF P tab n) P false (.one (.flat (.int .i64))) 13 [.agg [.int .u8 x5.1, .sl 9 x5.2.1, .sl 27 x5.2.2.1, .sl 5 x5.2.2.2.1, .bool x5.2.2.2.2.1, .flt .f64 x5.2.2.2.2.2.1, .str x5.2.2.2.2.2.2.1]] r4.2).bind fun r6 =>
                  (some (.bool (decide ((r6.1 : Int) ≤ 64)), r6.2))))
              (some (.bool false, r4.2)))))
        (some (.bool false, r2.2))))) := by kernel_rfl
/-! godown/tree.Count -/
theorem f13_eq (n : Nat) (a0_0 : Int) (a0_1 : VS) (a0_2 : VS) (a0_3 : VS) (a0_4 : Bool) (a0_5 : Nat) (a0_6 : ByteArray) (h : VH) : bodyV P tab (vF P tab n) n 13 [.agg [.int .u8 a0_0, .sl 9 a0_1, .sl 27 a0_2, .sl 5 a0_3, .bool a0_4, .flt .f64 a0_5, .str a0_6]] h =
  ((stV (List.append (α := VO) (h ++ [.row (27 + boxK) [.int .u8 a0_0, .sl 9 a0_1, .sl 27 a0_2, .sl 5 a0_3, .bool a0_4, .flt .f64 a0_5, .str a0_6]]) [.row (3 + boxK) [.int .i64 0]]) (.ob (List.length ((h ++ [.row (27 + boxK) [.int .u8 a0_0, .sl 9 a0_1, .sl 27 a0_2, .sl 5 a0_3, .bool a0_4, .flt .f64 a0_5, .str a0_6]]) : VH)) 0) [.int .i64 0]).bind fun h1 =>
    ((ldV (.agg [.int .u8, .slice 9, .slice 27, .slice 5, .bool, .flt .f64, .str]) h1 (.ob h.length 0)).bind fun x2 =>
      ((callD (vF P tab n) P false (.tup []) 34 [.agg [.int .u8 x2.1, .sl 9 x2.2.1, .sl 27 x2.2.2.1, .sl 5 x2.2.2.2.1, .bool x2.2.2.2.2.1, .flt .f64 x2.2.2.2.2.2.1, .str x2.2.2.2.2.2.2.1], .func (.func 35) [] [.ptr (.ob (List.length ((h ++ [.row (27 + boxK) [.int .u8 a0_0, .sl 9 a0_1, .sl 27 a0_2, .sl 5 a0_3, .bool a0_4, .flt .f64 a0_5, .str a0_6]]) : VH)) 0)]] h1).bind fun r3 =>
        ((ldV (.flat (.int .i64)) r3.2 (.ob (List.length ((h ++ [.row (27 + boxK) [.int .u8 a0_0, .sl 9 a0_1, .sl 27 a0_2, .sl 5 a0_3, .bool a0_4, .flt .f64 a0_5, .str a0_6]]) : VH)) 0)).bind fun x4 =>
          (some (.int .i64 x4, r3.2)))))) := by kernel_rfl
/-! godown/tree.Depth -/
noncomputable def L15_0 (n m : Nat) (s3 : Int) (s7 : VS) (s8 : Int) (s9 : Int) (h : VH) : VRes := loopAt P tab 15 [1, 1, 0, 1, 0] n [] m [.undef, .undef, .undef, .int .i64 s3, .undef, .undef, .undef, .sl 27 s7, .int .i64 s8, .int .i64 s9, .undef, .undef, .undef, .undef, .undef, .undef, .undef, .undef, .undef, .undef] h
theorem L15_0_eq (n m : Nat) (s3 : Int) (s7 : VS) (s8 : Int) (s9 : Int) (h : VH) : L15_0 n (m + 1) s3 s7 s8 s9 h =
  (cond (decide ((s9 : Int) < s8))
    ((ixV 7 s7 s9).bind fun p1 =>
      ((ldV (.agg [.int .u8, .slice 9, .slice 27, .slice 5, .bool, .flt .f64, .str]) h p1).bind fun x2 =>
        ((stV (h ++ [.row (27 + boxK) [.int .u8 0, .sl 9 .nil, .sl 27 .nil, .sl 5 .nil, .bool false, .flt .f64 0, .str ⟨#[]⟩]]) (.ob h.length 0) [.int .u8 x2.1, .sl 9 x2.2.1, .sl 27 x2.2.2.1, .sl 5 x2.2.2.2.1, .bool x2.2.2.2.2.1, .flt .f64 x2.2.2.2.2.2.1, .str x2.2.2.2.2.2.2.1]).bind fun h3 =>
          ((ldV (.agg [.int .u8, .slice 9, .slice 27, .slice 5, .bool, .flt .f64, .str]) h3 (.ob h.length 0)).bind fun x4 =>
            ((callD (vF P tab n) P false (.one (.flat (.int .i64))) 15 [.agg [.int .u8 x4.1, .sl 9 x4.2.1, .sl 27 x4.2.2.1, .sl 5 x4.2.2.2.1, .bool x4.2.2.2.2.1, .flt .f64 x4.2.2.2.2.2.1, .str x4.2.2.2.2.2.2.1]] h3).bind fun r5 =>
              (L15_0 n m (if r5.1 > s3 then r5.1 else s3) s7 s8 (IntKind.wrap .i64 (s9 + 1)) r5.2))))))
    (some (.int .i64 (IntKind.wrap .i64 (s3 + 1)), h))) := by kernel_rfl
theorem f15_eq (n : Nat) (a0_0 : Int) (a0_1 : VS) (a0_2 : VS) (a0_3 : VS) (a0_4 : Bool) (a0_5 : Nat) (a0_6 : ByteArray) (h : VH) : bodyV P tab (vF P tab n) n 15 [.agg [.int .u8 a0_0, .sl 9 a0_1, .sl 27 a0_2, .sl 5 a0_3, .bool a0_4, .flt .f64 a0_5, .str a0_6]] h =
  ((ldV (.flat (.slice 27)) (h ++ [.row (27 + boxK) [.int .u8 a0_0, .sl 9 a0_1, .sl 27 a0_2, .sl 5 a0_3, .bool a0_4, .flt .f64 a0_5, .str a0_6]]) (.ob h.length 2)).bind fun x1 =>
    (L15_0 n n 0 x1 ((VS.len x1 : Nat) : Int) 0 (h ++ [.row (27 + boxK) [.int .u8 a0_0, .sl 9 a0_1, .sl 27 a0_2, .sl 5 a0_3, .bool a0_4, .flt .f64 a0_5, .str a0_6]]))) := by kernel_rfl
/-! godown/tree.Size -/
theorem f17_eq (n : Nat) (a0_0 : Int) (a0_1 : VS) (a0_2 : VS) (a0_3 : VS) (a0_4 : Bool) (a0_5 : Nat) (a0_6 : ByteArray) (h : VH) : bodyV P tab (vF P tab n) n 17 [.agg [.int .u8 a0_0, .sl 9 a0_1, .sl 27 a0_2, .sl 5 a0_3, .bool a0_4, .flt .f64 a0_5, .str a0_6]] h =
  ((stV (List.append (α := VO) (h ++ [.row (27 + boxK) [.int .u8 a0_0, .sl 9 a0_1, .sl 27 a0_2, .sl 5 a0_3, .bool a0_4, .flt .f64 a0_5, .str a0_6]]) [.row (3 + boxK) [.int .i64 0]]) (.ob (List.length ((h ++ [.row (27 + boxK) [.int .u8 a0_0, .sl 9 a0_1, .sl 27 a0_2, .sl 5 a0_3, .bool a0_4, .flt .f64 a0_5, .str a0_6]]) : VH)) 0) [.int .i64 0]).bind fun h1 =>
    ((ldV (.agg [.int .u8, .slice 9, .slice 27, .slice 5, .bool, .flt .f64, .str]) h1 (.ob h.length 0)).bind fun x2 =>
      ((callD (vF P tab n) P false (.tup []) 34 [.agg [.int .u8 x2.1, .sl 9 x2.2.1, .sl 27 x2.2.2.1, .sl 5 x2.2.2.2.1, .bool x2.2.2.2.2.1, .flt .f64 x2.2.2.2.2.2.1, .str x2.2.2.2.2.2.2.1], .func (.func 36) [] [.ptr (.ob (List.length ((h ++ [.row (27 + boxK) [.int .u8 a0_0, .sl 9 a0_1, .sl 27 a0_2, .sl 5 a0_3, .bool a0_4, .flt .f64 a0_5, .str a0_6]]) : VH)) 0)]] h1).bind fun r3 =>
        ((ldV (.flat (.int .i64)) r3.2 (.ob (List.length ((h ++ [.row (27 + boxK) [.int .u8 a0_0, .sl 9 a0_1, .sl 27 a0_2, .sl 5 a0_3, .bool a0_4, .flt .f64 a0_5, .str a0_6]]) : VH)) 0)).bind fun x4 =>
          (some (.int .i64 x4, r3.2)))))) := by kernel_rfl
/-! godown/godownref05.Small -/
noncomputable def L19_0 (n m : Nat) (s0 : VS) (s3 : Int) (h : VH) : VRes := loopAt P tab 19 [1, 0, 1, 0] n [] m [.sl 55 s0, .undef, .undef, .int .i64 s3, .undef, .undef, .undef, .undef, .undef, .undef, .undef, .undef, .undef, .undef, .undef, .undef, .undef, .undef, .undef, .undef] h
theorem L19_0_eq (n m : Nat) (s0 : VS) (s3 : Int) (h : VH) : L19_0 n (m + 1) s0 s3 h =
  (cond (decide ((s3 : Int) < ((VS.len s0 : Nat) : Int)))
    ((ixV 6 s0 s3).bind fun p1 =>
      ((atO p1 3).bind fun p2 =>
        ((ldV (.flat (.slice 5)) h p2).bind fun x3 =>
          (cond (decide ((((VS.len x3 : Nat) : Int) : Int) > 200))
            (some (.bool false, h))
            (L19_0 n m s0 (IntKind.wrap .i64 (s3 + 1)) h)))))
    (some (.bool (decide ((((VS.len s0 : Nat) : Int) : Int) ≤ 60)), h))) := by kernel_rfl
theorem f19_eq (n : Nat) (a0 : VS) (h : VH) : bodyV P tab (vF P tab n) n 19 [.sl 55 a0] h =
  (L19_0 n n a0 0 h) := by kernel_rfl
/-! godown/godownref05.Make -/
theorem f20_eq (n : Nat) (a0 : VS) (h : VH) : bodyV P tab (vF P tab n) n 20 [.sl 55 a0] h =
  (cond ((((VS.len a0 : Nat) : Int) : Int) == 0)
    ((stV (h ++ [.row (27 + boxK) [.int .u8 0, .sl 9 .nil, .sl 27 .nil, .sl 5 .nil, .bool false, .flt .f64 0, .str ⟨#[]⟩]]) (.ob h.length 0) [.int .u8 2, .sl 9 .nil, .sl 27 .nil, .sl 5 .nil, .bool false, .flt .f64 0, .str ⟨#[]⟩]).bind fun h1 =>
      (((ldV (.agg [.int .u8, .slice 9, .slice 27, .slice 5, .bool, .flt .f64, .str]) h1 (.ob h.length 0)).bind fun x2 =>
          some (.agg [.int .u8 x2.1, .sl 9 x2.2.1, .sl 27 x2.2.2.1, .sl 5 x2.2.2.2.1, .bool x2.2.2.2.2.1, .flt .f64 x2.2.2.2.2.2.1, .str x2.2.2.2.2.2.2.1], h1))))
    (cond (decide ((((VS.len a0 : Nat) : Int) : Int) > 40))
      ((cutD (h ++ [.row (27 + boxK) [.int .u8 0, .sl 9 .nil, .sl 27 .nil, .sl 5 .nil, .bool false, .flt .f64 0, .str ⟨#[]⟩]]) 55 6 a0 none (some 40) none).bind fun z3 =>
        ((callD (vF P tab n) P false (.one (.agg [.int .u8, .slice 9, .slice 27, .slice 5, .bool, .flt .f64, .str])) 37 [.sl 55 z3, .int .i64 0, .int .i64 1] (h ++ [.row (27 + boxK) [.int .u8 0, .sl 9 .nil, .sl 27 .nil, .sl 5 .nil, .bool false, .flt .f64 0, .str ⟨#[]⟩]])).bind fun r4 =>
          ((stV r4.2 (.ob h.length 0) [.int .u8 r4.1.1, .sl 9 r4.1.2.1, .sl 27 r4.1.2.2.1, .sl 5 r4.1.2.2.2.1, .bool r4.1.2.2.2.2.1, .flt .f64 r4.1.2.2.2.2.2.1, .str r4.1.2.2.2.2.2.2.1]).bind fun h5 =>
            (((ldV (.agg [.int .u8, .slice 9, .slice 27, .slice 5, .bool, .flt .f64, .str]) h5 (.ob h.length 0)).bind fun x6 =>
                some (.agg [.int .u8 x6.1, .sl 9 x6.2.1, .sl 27 x6.2.2.1, .sl 5 x6.2.2.2.1, .bool x6.2.2.2.2.1, .flt .f64 x6.2.2.2.2.2.1, .str x6.2.2.2.2.2.2.1], h5))))))
      ((callD (vF P tab n) P false (.one (.agg [.int .u8, .slice 9, .slice 27, .slice 5, .bool, .flt .f64, .str])) 37 [.sl 55 a0, .int .i64 0, .int .i64 1] (h ++ [.row (27 + boxK) [.int .u8 0, .sl 9 .nil, .sl 27 .nil, .sl 5 .nil, .bool false, .flt .f64 0, .str ⟨#[]⟩]])).bind fun r7 =>
        ((stV r7.2 (.ob h.length 0) [.int .u8 r7.1.1, .sl 9 r7.1.2.1, .sl 27 r7.1.2.2.1, .sl 5 r7.1.2.2.2.1, .bool r7.1.2.2.2.2.1, .flt .f64 r7.1.2.2.2.2.2.1, .str r7.1.2.2.2.2.2.2.1]).bind fun h8 =>
          (((ldV (.agg [.int .u8, .slice 9, .slice 27, .slice 5, .bool, .flt .f64, .str]) h8 (.ob h.length 0)).bind fun x9 =>
              some (.agg [.int .u8 x9.1, .sl 9 x9.2.1, .sl 27 x9.2.2.1, .sl 5 x9.2.2.2.1, .bool x9.2.2.2.2.1, .flt .f64 x9.2.2.2.2.2.1, .str x9.2.2.2.2.2.2.1], h8))))))) := by kernel_rfl
/-! godown/tree.Same -/
theorem f21_eq (n : Nat) (a0_0 : Int) (a0_1 : VS) (a0_2 : VS) (a0_3 : VS) (a0_4 : Bool) (a0_5 : Nat) (a0_6 : ByteArray) (a1_0 : Int) (a1_1 : VS) (a1_2 : VS) (a1_3 : VS) (a1_4 : Bool) (a1_5 : Nat) (a1_6 : ByteArray) (h : VH) : bodyV P tab (vF P tab n) n 21 [.agg [.int .u8 a0_0, .sl 9 a0_1, .sl 27 a0_2, .sl 5 a0_3, .bool a0_4, .flt .f64 a0_5, .str a0_6], .agg [.int .u8 a1_0, .sl 9 a1_1, .sl 27 a1_2, .sl 5 a1_3, .bool a1_4, .flt .f64 a1_5, .str a1_6]] h =
  ((ldV (.flat (.int .u8)) (List.append (α := VO) (h ++ [.row (27 + boxK) [.int .u8 a0_0, .sl 9 a0_1, .sl 27 a0_2, .sl 5 a0_3, .bool a0_4, .flt .f64 a0_5, .str a0_6]]) [.row (27 + boxK) [.int .u8 a1_0, .sl 9 a1_1, .sl 27 a1_2, .sl 5 a1_3, .bool a1_4, .flt .f64 a1_5, .str a1_6]]) (.ob h.length 0)).bind fun x1 =>
    ((ldV (.flat (.int .u8)) (List.append (α := VO) (h ++ [.row (27 + boxK) [.int .u8 a0_0, .sl 9 a0_1, .sl 27 a0_2, .sl 5 a0_3, .bool a0_4, .flt .f64 a0_5, .str a0_6]]) [.row (27 + boxK) [.int .u8 a1_0, .sl 9 a1_1, .sl 27 a1_2, .sl 5 a1_3, .bool a1_4, .flt .f64 a1_5, .str a1_6]]) (.ob (List.length ((h ++ [.row (27 + boxK) [.int .u8 a0_0, .sl 9 a0_1, .sl 27 a0_2, .sl 5 a0_3, .bool a0_4, .flt .f64 a0_5, .str a0_6]]) : VH)) 0)).bind fun x2 =>
      (cond ((x1 : Int) == x2)
        ((ldV (.flat .bool) (List.append (α := VO) (h ++ [.row (27 + boxK) [.int .u8 a0_0, .sl 9 a0_1, .sl 27 a0_2, .sl 5 a0_3, .bool a0_4, .flt .f64 a0_5, .str a0_6]]) [.row (27 + boxK) [.int .u8 a1_0, .sl 9 a1_1, .sl 27 a1_2, .sl 5 a1_3, .bool a1_4, .flt .f64 a1_5, .str a1_6]]) (.ob h.length 4)).bind fun x3 =>
          ((ldV (.flat .bool) (List.append (α := VO) (h ++ [.row (27 + boxK) [.int .u8 a0_0, .sl 9 a0_1, .sl 27 a0_2, .sl 5 a0_3, .bool a0_4, .flt .f64 a0_5, .str a0_6]]) [.row (27 + boxK) [.int .u8 a1_0, .sl 9 a1_1, .sl 27 a1_2, .sl 5 a1_3, .bool a1_4, .flt .f64 a1_5, .str a1_6]]) (.ob (List.length ((h ++ [.row (27 + boxK) [.int .u8 a0_0, .sl 9 a0_1, .sl 27 a0_2, .sl 5 a0_3, .bool a0_4, .flt .f64 a0_5, .str a0_6]]) : VH)) 4)).bind fun x4 =>
            (cond (x3 == x4)
              ((ldV (.flat .str) (List.append (α := VO) (h ++ [.row (27 + boxK) [.int .u8 a0_0, .sl 9 a0_1, .sl 27 a0_2, .sl 5 a0_3, .bool a0_4, .flt .f64 a0_5, .str a0_6]]) [.row (27 + boxK) [.int .u8 a1_0, .sl 9 a1_1, .sl 27 a1_2, .sl 5 a1_3, .bool a1_4, .flt .f64 a1_5, .str a1_6]]) (.ob h.length 6)).bind fun x5 =>
                ((ldV (.flat .str) (List.append (α := VO) (h ++ [.row (27 + boxK) [.int .u8 a0_0, .sl 9 a0_1, .sl 27 a0_2, .sl 5 a0_3, .bool a0_4, .flt .f64 a0_5, .str a0_6]]) [.row (27 + boxK) [.int .u8 a1_0, .sl 9 a1_1, .sl 27 a1_2, .sl 5 a1_3, .bool a1_4, .flt .f64 a1_5, .str a1_6]]) (.ob (List.length ((h ++ [.row (27 + boxK) [.int .u8 a0_0, .sl 9 a0_1, .sl 27 a0_2, .sl 5 a0_3, .bool a0_4, .flt .f64 a0_5, .str a0_6]]) : VH)) 6)).bind fun x6 =>
                  (cond (strEq x5 x6)
                    ((ldV (.flat (.flt .f64)) (List.append (α := VO) (h ++ [.row (27 + boxK) [.int .u8 a0_0, .sl 9 a0_1, .sl 27 a0_2, .sl 5 a0_3, .bool a0_4, .flt .f64 a0_5, .str a0_6]]) [.row (27 + boxK) [.int .u8 a1_0, .sl 9 a1_1, .sl 27 a1_2, .sl 5 a1_3, .bool a1_4, .flt .f64 a1_5, .str a1_6]]) (.ob h.length 5)).bind fun x7 =>
                      ((ldV (.flat (.flt .f64)) (List.append (α := VO) (h ++ [.row (27 + boxK) [.int .u8 a0_0, .sl 9 a0_1, .sl 27 a0_2, .sl 5 a0_3, .bool a0_4, .flt .f64 a0_5, .str a0_6]]) [.row (27 + boxK) [.int .u8 a1_0, .sl 9 a1_1, .sl 27 a1_2, .sl 5 a1_3, .bool a1_4, .flt .f64 a1_5, .str a1_6]]) (.ob (List.length ((h ++ [.row (27 + boxK) [.int .u8 a0_0, .sl 9 a0_1, .sl 27 a0_2, .sl 5 a0_3, .bool a0_4, .flt .f64 a0_5, .str a0_6]]) : VH)) 5)).bind fun x8 =>
                        ((callD (vF P tab n) P false (.one (.flat .bool)) 38 [.flt .f64 x7, .flt .f64 x8] (List.append (α := VO) (h ++ [.row (27 + boxK) [.int .u8 a0_0, .sl 9 a0_1, .sl 27 a0_2, .sl 5 a0_3, .bool a0_4, .flt .f64 a0_5, .str a0_6]]) [.row (27 + boxK) [.int .u8 a1_0, .sl 9 a1_1, .sl 27 a1_2, .sl 5 a1_3, .bool a1_4, .flt .f64 a1_5, .str a1_6]])).bind fun r9 =>
                        (cond r9.1
                        ((ldV (.flat (.slice 5)) r9.2 (.ob h.length 3)).bind fun x10 =>
                        ((ldV (.flat (.slice 5)) r9.2 (.ob (List.length ((h ++ [.row (27 + boxK) [.int .u8 a0_0, .sl 9 a0_1, .sl 27 a0_2, .sl 5 a0_3, .bool a0_4, .flt .f64 a0_5, .str a0_6]]) : VH)) 3)).bind fun x11 =>
                        ((callD (vF P tab n) P false (.one (.flat .bool)) 39 [.sl 5 x10, .sl 5 x11] r9.2).bind fun r12 =>
                        (cond r12.1
                        ((ldV (.flat (.slice 9)) r12.2 (.ob h.length 1)).bind fun x13 =>
                        ((ldV (.flat (.slice 9)) r12.2 (.ob (List.length ((h ++ [.row (27 + boxK) [.int .u8 a0_0, .sl 9 a0_1, .sl 27 a0_2, .sl 5 a0_3, .bool a0_4, .flt .f64 a0_5, .str a0_6]]) : VH)) 1)).bind fun x14 =>
                        ((callD (vF P tab n) P false (.one (.flat .bool)) 40 [.sl 9 x13, .sl 9 x14] r12.2).bind fun r15 =>
                        (cond r15.1
                        ((ldV (.flat (.slice 27)) r15.2 (.ob h.length 2)).bind fun x16 =>
                        ((ldV (.flat (.slice 27)) r15.2 (.ob (List.length ((h ++ [.row (27 + boxK) [.int .u8 a0_0, .sl 9 a0_1, .sl 27 a0_2, .sl 5 a0_3, .bool a0_4, .flt .f64 a0_5, .str a0_6]]) : VH)) 2)).bind fun x17 =>
                        ((callD (vF P tab n) P false (.one (.flat .bool)) 41 [.sl 27 x16, .sl 27 x17, .func (.func 21) [] []] r15.2).bind fun r18 =>
                        (some (.bool r18.1, r18.2)))))
                        (some (.bool false, r15.2))))))
                        (some (.bool false, r12.2))))))
                        (some (.bool false, r9.2))))))
                    (some (.bool false, (List.append (α := VO) (h ++ [.row (27 + boxK) [.int .u8 a0_0, .sl 9 a0_1, .sl 27 a0_2, .sl 5 a0_3, .bool a0_4, .flt .f64 a0_5, .str a0_6]]) [.row (27 + boxK) [.int .u8 a1_0, .sl 9 a1_1, .sl 27 a1_2, .sl 5 a1_3, .bool a1_4, .flt .f64 a1_5, .str a1_6]]))))))
              (some (.bool false, (List.append (α := VO) (h ++ [.row (27 + boxK) [.int .u8 a0_0, .sl 9 a0_1, .sl 27 a0_2, .sl 5 a0_3, .bool a0_4, .flt .f64 a0_5, .str a0_6]]) [.row (27 + boxK) [.int .u8 a1_0, .sl 9 a1_1, .sl 27 a1_2, .sl 5 a1_3, .bool a1_4, .flt .f64 a1_5, .str a1_6]]))))))
        (some (.bool false, (List.append (α := VO) (h ++ [.row (27 + boxK) [.int .u8 a0_0, .sl 9 a0_1, .sl 27 a0_2, .sl 5 a0_3, .bool a0_4, .flt .f64 a0_5, .str a0_6]]) [.row (27 + boxK) [.int .u8 a1_0, .sl 9 a1_1, .sl 27 a1_2, .sl 5 a1_3, .bool a1_4, .flt .f64 a1_5, .str a1_6]])))))) := by kernel_rfl
/-! godown/godownref05.Same -/
noncomputable def L22_0 (n m : Nat) (s2 : Nat) (s3 : Nat) (s5 : Int) (h : VH) : VRes := loopAt P tab 22 [1, 1, 0, 1, 0] n [] m [.undef, .undef, .ptr (.ob s2 0), .ptr (.ob s3 0), .undef, .int .i64 s5, .undef, .undef, .undef, .undef, .undef, .undef, .undef, .undef, .undef, .undef, .undef, .undef, .undef, .undef, .undef, .undef, .undef, .undef, .undef, .undef, .undef, .undef, .undef, .undef, .undef, .undef, .undef, .undef, .undef, .undef, .undef, .undef, .undef, .undef, .undef, .undef, .undef, .undef, .undef, .undef, .undef, .undef, .undef, .undef, .undef, .undef, .undef, .undef, .undef, .undef, .undef, .undef, .undef, .undef, .undef, .undef, .undef, .undef, .undef, .undef, .undef, .undef, .undef, .undef, .undef, .undef, .undef, .undef, .undef, .undef, .undef, .undef] h
theorem L22_0_eq (n m : Nat) (s2 : Nat) (s3 : Nat) (s5 : Int) (h : VH) : L22_0 n (m + 1) s2 s3 s5 h =
  ((ldV (.flat (.slice 27)) h (.ob s2 2)).bind fun x1 =>
    (cond (decide ((s5 : Int) < ((VS.len x1 : Nat) : Int)))
      ((ldV (.flat (.slice 27)) h (.ob s2 2)).bind fun x2 =>
        ((ixV 7 x2 s5).bind fun p3 =>
          ((ldV (.agg [.int .u8, .slice 9, .slice 27, .slice 5, .bool, .flt .f64, .str]) h p3).bind fun x4 =>
            ((ldV (.flat (.slice 27)) h (.ob s3 2)).bind fun x5 =>
              ((ixV 7 x5 s5).bind fun p6 =>
                ((ldV (.agg [.int .u8, .slice 9, .slice 27, .slice 5, .bool, .flt .f64, .str]) h p6).bind fun x7 =>
                  ((callD (vF P tab n) P false (.one (.flat .bool)) 22 [.agg [.int .u8 x4.1, .sl 9 x4.2.1, .sl 27 x4.2.2.1, .sl 5 x4.2.2.2.1, .bool x4.2.2.2.2.1, .flt .f64 x4.2.2.2.2.2.1, .str x4.2.2.2.2.2.2.1], .agg [.int .u8 x7.1, .sl 9 x7.2.1, .sl 27 x7.2.2.1, .sl 5 x7.2.2.2.1, .bool x7.2.2.2.2.1, .flt .f64 x7.2.2.2.2.2.1, .str x7.2.2.2.2.2.2.1]] h).bind fun r8 =>
                    (cond (!r8.1)
                      (some (.bool false, r8.2))
                      (L22_0 n m s2 s3 (IntKind.wrap .i64 (s5 + 1)) r8.2)))))))))
      (some (.bool true, h)))) := by kernel_rfl
theorem f22_eq (n : Nat) (a0_0 : Int) (a0_1 : VS) (a0_2 : VS) (a0_3 : VS) (a0_4 : Bool) (a0_5 : Nat) (a0_6 : ByteArray) (a1_0 : Int) (a1_1 : VS) (a1_2 : VS) (a1_3 : VS) (a1_4 : Bool) (a1_5 : Nat) (a1_6 : ByteArray) (h : VH) : bodyV P tab (vF P tab n) n 22 [.agg [.int .u8 a0_0, .sl 9 a0_1, .sl 27 a0_2, .sl 5 a0_3, .bool a0_4, .flt .f64 a0_5, .str a0_6], .agg [.int .u8 a1_0, .sl 9 a1_1, .sl 27 a1_2, .sl 5 a1_3, .bool a1_4, .flt .f64 a1_5, .str a1_6]] h =
  ((ldV (.flat (.int .u8)) (List.append (α := VO) (h ++ [.row (27 + boxK) [.int .u8 a0_0, .sl 9 a0_1, .sl 27 a0_2, .sl 5 a0_3, .bool a0_4, .flt .f64 a0_5, .str a0_6]]) [.row (27 + boxK) [.int .u8 a1_0, .sl 9 a1_1, .sl 27 a1_2, .sl 5 a1_3, .bool a1_4, .flt .f64 a1_5, .str a1_6]]) (.ob h.length 0)).bind fun x1 =>
    ((ldV (.flat (.int .u8)) (List.append (α := VO) (h ++ [.row (27 + boxK) [.int .u8 a0_0, .sl 9 a0_1, .sl 27 a0_2, .sl 5 a0_3, .bool a0_4, .flt .f64 a0_5, .str a0_6]]) [.row (27 + boxK) [.int .u8 a1_0, .sl 9 a1_1, .sl 27 a1_2, .sl 5 a1_3, .bool a1_4, .flt .f64 a1_5, .str a1_6]]) (.ob (List.length ((h ++ [.row (27 + boxK) [.int .u8 a0_0, .sl 9 a0_1, .sl 27 a0_2, .sl 5 a0_3, .bool a0_4, .flt .f64 a0_5, .str a0_6]]) : VH)) 0)).bind fun x2 =>
      (cond (V.stays (List.append (α := VO) (h ++ [.row (27 + boxK) [.int .u8 a0_0, .sl 9 a0_1, .sl 27 a0_2, .sl 5 a0_3, .bool a0_4, .flt .f64 a0_5, .str a0_6]]) [.row (27 + boxK) [.int .u8 a1_0, .sl 9 a1_1, .sl 27 a1_2, .sl 5 a1_3, .bool a1_4, .flt .f64 a1_5, .str a1_6]]) [(.ob h.length 0, .int .u8, .int .u8 x1)])
        (cond ((x1 : Int) != x2)
          (some (.bool false, (List.append (α := VO) (h ++ [.row (27 + boxK) [.int .u8 a0_0, .sl 9 a0_1, .sl 27 a0_2, .sl 5 a0_3, .bool a0_4, .flt .f64 a0_5, .str a0_6]]) [.row (27 + boxK) [.int .u8 a1_0, .sl 9 a1_1, .sl 27 a1_2, .sl 5 a1_3, .bool a1_4, .flt .f64 a1_5, .str a1_6]])))
          ((ldV (.flat .bool) (List.append (α := VO) (h ++ [.row (27 + boxK) [.int .u8 a0_0, .sl 9 a0_1, .sl 27 a0_2, .sl 5 a0_3, .bool a0_4, .flt .f64 a0_5, .str a0_6]]) [.row (27 + boxK) [.int .u8 a1_0, .sl 9 a1_1, .sl 27 a1_2, .sl 5 a1_3, .bool a1_4, .flt .f64 a1_5, .str a1_6]]) (.ob h.length 4)).bind fun x3 =>
            ((ldV (.flat .bool) (List.append (α := VO) (h ++ [.row (27 + boxK) [.int .u8 a0_0, .sl 9 a0_1, .sl 27 a0_2, .sl 5 a0_3, .bool a0_4, .flt .f64 a0_5, .str a0_6]]) [.row (27 + boxK) [.int .u8 a1_0, .sl 9 a1_1, .sl 27 a1_2, .sl 5 a1_3, .bool a1_4, .flt .f64 a1_5, .str a1_6]]) (.ob (List.length ((h ++ [.row (27 + boxK) [.int .u8 a0_0, .sl 9 a0_1, .sl 27 a0_2, .sl 5 a0_3, .bool a0_4, .flt .f64 a0_5, .str a0_6]]) : VH)) 4)).bind fun x4 =>
              (cond (V.stays (List.append (α := VO) (h ++ [.row (27 + boxK) [.int .u8 a0_0, .sl 9 a0_1, .sl 27 a0_2, .sl 5 a0_3, .bool a0_4, .flt .f64 a0_5, .str a0_6]]) [.row (27 + boxK) [.int .u8 a1_0, .sl 9 a1_1, .sl 27 a1_2, .sl 5 a1_3, .bool a1_4, .flt .f64 a1_5, .str a1_6]]) [(.ob h.length 4, .bool, .bool x3), (.ob h.length 0, .int .u8, .int .u8 x1)])
                (cond (!(x3 == x4))
                  (some (.bool false, (List.append (α := VO) (h ++ [.row (27 + boxK) [.int .u8 a0_0, .sl 9 a0_1, .sl 27 a0_2, .sl 5 a0_3, .bool a0_4, .flt .f64 a0_5, .str a0_6]]) [.row (27 + boxK) [.int .u8 a1_0, .sl 9 a1_1, .sl 27 a1_2, .sl 5 a1_3, .bool a1_4, .flt .f64 a1_5, .str a1_6]])))
                  ((ldV (.flat .str) (List.append (α := VO) (h ++ [.row (27 + boxK) [.int .u8 a0_0, .sl 9 a0_1, .sl 27 a0_2, .sl 5 a0_3, .bool a0_4, .flt .f64 a0_5, .str a0_6]]) [.row (27 + boxK) [.int .u8 a1_0, .sl 9 a1_1, .sl 27 a1_2, .sl 5 a1_3, .bool a1_4, .flt .f64 a1_5, .str a1_6]]) (.ob h.length 6)).bind fun x5 =>
                    ((ldV (.flat .str) (List.append (α := VO) (h ++ [.row (27 + boxK) [.int .u8 a0_0, .sl 9 a0_1, .sl 27 a0_2, .sl 5 a0_3, .bool a0_4, .flt .f64 a0_5, .str a0_6]]) [.row (27 + boxK) [.int .u8 a1_0, .sl 9 a1_1, .sl 27 a1_2, .sl 5 a1_3, .bool a1_4, .flt .f64 a1_5, .str a1_6]]) (.ob (List.length ((h ++ [.row (27 + boxK) [.int .u8 a0_0, .sl 9 a0_1, .sl 27 a0_2, .sl 5 a0_3, .bool a0_4, .flt .f64 a0_5, .str a0_6]]) : VH)) 6)).bind fun x6 =>
                      (cond (V.stays (List.append (α := VO) (h ++ [.row (27 + boxK) [.int .u8 a0_0, .sl 9 a0_1, .sl 27 a0_2, .sl 5 a0_3, .bool a0_4, .flt .f64 a0_5, .str a0_6]]) [.row (27 + boxK) [.int .u8 a1_0, .sl 9 a1_1, .sl 27 a1_2, .sl 5 a1_3, .bool a1_4, .flt .f64 a1_5, .str a1_6]]) [(.ob h.length 6, .str, .str x5), (.ob h.length 4, .bool, .bool x3), (.ob h.length 0, .int .u8, .int .u8 x1)])
                        (cond (!(strEq x5 x6))
                        (some (.bool false, (List.append (α := VO) (h ++ [.row (27 + boxK) [.int .u8 a0_0, .sl 9 a0_1, .sl 27 a0_2, .sl 5 a0_3, .bool a0_4, .flt .f64 a0_5, .str a0_6]]) [.row (27 + boxK) [.int .u8 a1_0, .sl 9 a1_1, .sl 27 a1_2, .sl 5 a1_3, .bool a1_4, .flt .f64 a1_5, .str a1_6]])))
                        ((ldV (.flat (.flt .f64)) (List.append (α := VO) (h ++ [.row (27 + boxK) [.int .u8 a0_0, .sl 9 a0_1, .sl 27 a0_2, .sl 5 a0_3, .bool a0_4, .flt .f64 a0_5, .str a0_6]]) [.row (27 + boxK) [.int .u8 a1_0, .sl 9 a1_1, .sl 27 a1_2, .sl 5 a1_3, .bool a1_4, .flt .f64 a1_5, .str a1_6]]) (.ob h.length 5)).bind fun x7 =>
                        ((ldV (.flat (.flt .f64)) (List.append (α := VO) (h ++ [.row (27 + boxK) [.int .u8 a0_0, .sl 9 a0_1, .sl 27 a0_2, .sl 5 a0_3, .bool a0_4, .flt .f64 a0_5, .str a0_6]]) [.row (27 + boxK) [.int .u8 a1_0, .sl 9 a1_1, .sl 27 a1_2, .sl 5 a1_3, .bool a1_4, .flt .f64 a1_5, .str a1_6]]) (.ob (List.length ((h ++ [.row (27 + boxK) [.int .u8 a0_0, .sl 9 a0_1, .sl 27 a0_2, .sl 5 a0_3, .bool a0_4, .flt .f64 a0_5, .str a0_6]]) : VH)) 5)).bind fun x8 =>
                        ((callD (vF P tab n) P false (.one (.flat (.int .u64))) 24 [.flt .f64 x7] (List.append (α := VO) (h ++ [.row (27 + boxK) [.int .u8 a0_0, .sl 9 a0_1, .sl 27 a0_2, .sl 5 a0_3, .bool a0_4, .flt .f64 a0_5, .str a0_6]]) [.row (27 + boxK) [.int .u8 a1_0, .sl 9 a1_1, .sl 27 a1_2, .sl 5 a1_3, .bool a1_4, .flt .f64 a1_5, .str a1_6]])).bind fun r9 =>
                        (cond (V.stays r9.2 [(.ob (List.length ((h ++ [.row (27 + boxK) [.int .u8 a0_0, .sl 9 a0_1, .sl 27 a0_2, .sl 5 a0_3, .bool a0_4, .flt .f64 a0_5, .str a0_6]]) : VH)) 5, .flt .f64, .flt .f64 x8), (.ob h.length 6, .str, .str x5), (.ob h.length 4, .bool, .bool x3), (.ob h.length 0, .int .u8, .int .u8 x1)])
                        ((callD (vF P tab n) P false (.one (.flat (.int .u64))) 24 [.flt .f64 x8] r9.2).bind fun r10 =>
                        (cond (V.stays r10.2 [(.ob h.length 5, .flt .f64, .flt .f64 x7), (.ob h.length 6, .str, .str x5), (.ob h.length 4, .bool, .bool x3), (.ob h.length 0, .int .u8, .int .u8 x1)])
                        (cond ((r9.1 : Int) != r10.1)
                        (some (.bool false, r10.2))
                        ((ldV (.flat (.slice 5)) r10.2 (.ob h.length 3)).bind fun x11 =>
                        ((ldV (.flat (.slice 5)) r10.2 (.ob (List.length ((h ++ [.row (27 + boxK) [.int .u8 a0_0, .sl 9 a0_1, .sl 27 a0_2, .sl 5 a0_3, .bool a0_4, .flt .f64 a0_5, .str a0_6]]) : VH)) 3)).bind fun x12 =>
                        (cond (V.stays r10.2 [(.ob h.length 3, .slice 5, .sl 5 x11), (.ob (List.length ((h ++ [.row (27 + boxK) [.int .u8 a0_0, .sl 9 a0_1, .sl 27 a0_2, .sl 5 a0_3, .bool a0_4, .flt .f64 a0_5, .str a0_6]]) : VH)) 5, .flt .f64, .flt .f64 x8), (.ob h.length 5, .flt .f64, .flt .f64 x7), (.ob h.length 6, .str, .str x5), (.ob h.length 4, .bool, .bool x3), (.ob h.length 0, .int .u8, .int .u8 x1)])
                        ((callD (vF P tab n) P false (.one (.flat .bool)) 42 [.sl 5 x11, .sl 5 x12] r10.2).bind fun r13 =>
                        (cond (V.stays r13.2 [(.ob (List.length ((h ++ [.row (27 + boxK) [.int .u8 a0_0, .sl 9 a0_1, .sl 27 a0_2, .sl 5 a0_3, .bool a0_4, .flt .f64 a0_5, .str a0_6]]) : VH)) 5, .flt .f64, .flt .f64 x8), (.ob h.length 5, .flt .f64, .flt .f64 x7), (.ob h.length 6, .str, .str x5), (.ob h.length 4, .bool, .bool x3), (.ob h.length 0, .int .u8, .int .u8 x1)])
                        (cond (!r13.1)
                        (some (.bool false, r13.2))
                        ((ldV (.flat (.slice 9)) r13.2 (.ob h.length 1)).bind fun x14 =>
                        ((ldV (.flat (.slice 9)) r13.2 (.ob (List.length ((h ++ [.row (27 + boxK) [.int .u8 a0_0, .sl 9 a0_1, .sl 27 a0_2, .sl 5 a0_3, .bool a0_4, .flt .f64 a0_5, .str a0_6]]) : VH)) 1)).bind fun x15 =>
                        (cond (V.stays r13.2 [(.ob h.length 1, .slice 9, .sl 9 x14), (.ob h.length 3, .slice 5, .sl 5 x11), (.ob (List.length ((h ++ [.row (27 + boxK) [.int .u8 a0_0, .sl 9 a0_1, .sl 27 a0_2, .sl 5 a0_3, .bool a0_4, .flt .f64 a0_5, .str a0_6]]) : VH)) 5, .flt .f64, .flt .f64 x8), (.ob h.length 5, .flt .f64, .flt .f64 x7), (.ob h.length 6, .str, .str x5), (.ob h.length 4, .bool, .bool x3), (.ob h.length 0, .int .u8, .int .u8 x1)])
                        ((callD (vF P tab n) P false (.one (.flat .bool)) 43 [.sl 9 x14, .sl 9 x15] r13.2).bind fun r16 =>
                        (cond (V.stays r16.2 [(.ob h.length 3, .slice 5, .sl 5 x11), (.ob (List.length ((h ++ [.row (27 + boxK) [.int .u8 a0_0, .sl 9 a0_1, .sl 27 a0_2, .sl 5 a0_3, .bool a0_4, .flt .f64 a0_5, .str a0_6]]) : VH)) 5, .flt .f64, .flt .f64 x8), (.ob h.length 5, .flt .f64, .flt .f64 x7), (.ob h.length 6, .str, .str x5), (.ob h.length 4, .bool, .bool x3), (.ob h.length 0, .int .u8, .int .u8 x1)])
                        (cond (!r16.1)
                        (some (.bool false, r16.2))
                        ((ldV (.flat (.slice 27)) r16.2 (.ob h.length 2)).bind fun x17 =>
                        ((ldV (.flat (.slice 27)) r16.2 (.ob (List.length ((h ++ [.row (27 + boxK) [.int .u8 a0_0, .sl 9 a0_1, .sl 27 a0_2, .sl 5 a0_3, .bool a0_4, .flt .f64 a0_5, .str a0_6]]) : VH)) 2)).bind fun x18 =>
                        (cond (V.stays r16.2 [(.ob h.length 2, .slice 27, .sl 27 x17), (.ob h.length 1, .slice 9, .sl 9 x14), (.ob h.length 3, .slice 5, .sl 5 x11), (.ob (List.length ((h ++ [.row (27 + boxK) [.int .u8 a0_0, .sl 9 a0_1, .sl 27 a0_2, .sl 5 a0_3, .bool a0_4, .flt .f64 a0_5, .str a0_6]]) : VH)) 5, .flt .f64, .flt .f64 x8), (.ob h.length 5, .flt .f64, .flt .f64 x7), (.ob h.length 6, .str, .str x5), (.ob h.length 4, .bool, .bool x3), (.ob h.length 0, .int .u8, .int .u8 x1)])
                        (cond ((((VS.len x17 : Nat) : Int) : Int) != ((VS.len x18 : Nat) : Int))
                        (some (.bool false, r16.2))
                        (L22_0 n n h.length (List.length ((h ++ [.row (27 + boxK) [.int .u8 a0_0, .sl 9 a0_1, .sl 27 a0_2, .sl 5 a0_3, .bool a0_4, .flt .f64 a0_5, .str a0_6]]) : VH)) 0 r16.2))
                        none))))
                        none))
                        none))))
                        none))
                        none))))
                        none))
                        none)))))
                        none))))
                none))))
        none))) := by kernel_rfl
/-! godown/godownref01.Bits -/
theorem f24_eq (n : Nat) (a0 : Nat) (h : VH) : bodyV P tab (vF P tab n) n 24 [.flt .f64 a0] h =
  ((pvD P (.int .u64) (ext28 #[.float .f64 a0])).bind fun x1 =>
    ((remI x1 9223372036854775808).bind fun x2 =>
      (cond (decide ((x2 : Int) > 9218868437227405312))
        (some (.int .u64 9221120237041090561, h))
        (cond ((x1 : Int) == 9223372036854775808)
          (some (.int .u64 0, h))
          (some (.int .u64 x1, h)))))) := by kernel_rfl
/-! godown/tree.At -/
noncomputable def L29_0 (n m : Nat) (s1 : ByteArray) (s2 : Nat) (s4 : Nat) (h : VH) : VRes := loopAt P tab 29 [1, 0, 0] n [] m [.undef, .str s1, .ptr (.ob s2 0), .undef, .ptr (.ob s4 0), .undef, .undef, .undef, .undef, .undef, .undef, .undef, .undef, .undef, .undef, .undef, .undef, .undef, .undef, .undef, .undef, .undef, .undef, .undef, .undef, .undef, .undef, .undef, .undef, .undef, .undef, .undef, .undef, .undef, .undef, .undef, .undef, .undef, .undef, .undef, .undef, .undef, .undef] h
theorem L29_0_eq (n m : Nat) (s1 : ByteArray) (s2 : Nat) (s4 : Nat) (h : VH) : L29_0 n (m + 1) s1 s2 s4 h =
  (cond (!(strEq s1 ⟨#[]⟩))
    ((callD (vF P tab n) P false (.tup [(.flat .str), (.flat .str), (.flat .bool)]) 48 [.str s1, .str ⟨#[47]⟩] h).bind fun r1 =>
      ((ldV (.flat (.slice 9)) r1.2 (.ob s2 1)).bind fun x2 =>
        ((callD (vF P tab n) P false (.tup [(.flat (.int .i64)), (.flat .bool)]) 49 [.sl 9 x2, .str r1.1.1] r1.2).bind fun r3 =>
          (cond (!r3.1.2.1)
            ((stV r3.2 (.ob s4 0) [.int .u8 0, .sl 9 .nil, .sl 27 .nil, .sl 5 .nil, .bool false, .flt .f64 0, .str ⟨#[]⟩]).bind fun h4 =>
              (((ldV (.agg [.int .u8, .slice 9, .slice 27, .slice 5, .bool, .flt .f64, .str]) h4 (.ob s4 0)).bind fun x5 =>
                  some (.tup [.agg [.int .u8 x5.1, .sl 9 x5.2.1, .sl 27 x5.2.2.1, .sl 5 x5.2.2.2.1, .bool x5.2.2.2.2.1, .flt .f64 x5.2.2.2.2.2.1, .str x5.2.2.2.2.2.2.1], .bool false], h4))))
            (cond r1.1.2.2.1
              (cond (strEq r1.1.2.1 ⟨#[]⟩)
                ((stV r3.2 (.ob s4 0) [.int .u8 0, .sl 9 .nil, .sl 27 .nil, .sl 5 .nil, .bool false, .flt .f64 0, .str ⟨#[]⟩]).bind fun h6 =>
                  (((ldV (.agg [.int .u8, .slice 9, .slice 27, .slice 5, .bool, .flt .f64, .str]) h6 (.ob s4 0)).bind fun x7 =>
                      some (.tup [.agg [.int .u8 x7.1, .sl 9 x7.2.1, .sl 27 x7.2.2.1, .sl 5 x7.2.2.2.1, .bool x7.2.2.2.2.1, .flt .f64 x7.2.2.2.2.2.1, .str x7.2.2.2.2.2.2.1], .bool false], h6))))
                ((ldV (.flat (.slice 27)) r3.2 (.ob s2 2)).bind fun x8 =>
                  ((ixV 7 x8 r3.1.1).bind fun p9 =>
                    ((ldV (.agg [.int .u8, .slice 9, .slice 27, .slice 5, .bool, .flt .f64, .str]) r3.2 p9).bind fun x10 =>
                      ((stV r3.2 (.ob s2 0) [.int .u8 x10.1, .sl 9 x10.2.1, .sl 27 x10.2.2.1, .sl 5 x10.2.2.2.1, .bool x10.2.2.2.2.1, .flt .f64 x10.2.2.2.2.2.1, .str x10.2.2.2.2.2.2.1]).bind fun h11 =>
                        (L29_0 n m r1.1.2.1 s2 s4 h11))))))
              ((ldV (.flat (.slice 27)) r3.2 (.ob s2 2)).bind fun x12 =>
                ((ixV 7 x12 r3.1.1).bind fun p13 =>
                  ((ldV (.agg [.int .u8, .slice 9, .slice 27, .slice 5, .bool, .flt .f64, .str]) r3.2 p13).bind fun x14 =>
                    ((stV r3.2 (.ob s2 0) [.int .u8 x14.1, .sl 9 x14.2.1, .sl 27 x14.2.2.1, .sl 5 x14.2.2.2.1, .bool x14.2.2.2.2.1, .flt .f64 x14.2.2.2.2.2.1, .str x14.2.2.2.2.2.2.1]).bind fun h15 =>
                      (L29_0 n m r1.1.2.1 s2 s4 h15))))))))))
    ((ldV (.agg [.int .u8, .slice 9, .slice 27, .slice 5, .bool, .flt .f64, .str]) h (.ob s2 0)).bind fun x16 =>
      ((stV h (.ob s4 0) [.int .u8 x16.1, .sl 9 x16.2.1, .sl 27 x16.2.2.1, .sl 5 x16.2.2.2.1, .bool x16.2.2.2.2.1, .flt .f64 x16.2.2.2.2.2.1, .str x16.2.2.2.2.2.2.1]).bind fun h17 =>
        (((ldV (.agg [.int .u8, .slice 9, .slice 27, .slice 5, .bool, .flt .f64, .str]) h17 (.ob s4 0)).bind fun x18 =>
            some (.tup [.agg [.int .u8 x18.1, .sl 9 x18.2.1, .sl 27 x18.2.2.1, .sl 5 x18.2.2.2.1, .bool x18.2.2.2.2.1, .flt .f64 x18.2.2.2.2.2.1, .str x18.2.2.2.2.2.2.1], .bool true], h17)))))) := by kernel_rfl
theorem f29_eq (n : Nat) (a0_0 : Int) (a0_1 : VS) (a0_2 : VS) (a0_3 : VS) (a0_4 : Bool) (a0_5 : Nat) (a0_6 : ByteArray) (a1 : ByteArray) (h : VH) : bodyV P tab (vF P tab n) n 29 [.agg [.int .u8 a0_0, .sl 9 a0_1, .sl 27 a0_2, .sl 5 a0_3, .bool a0_4, .flt .f64 a0_5, .str a0_6], .str a1] h =
  (L29_0 n n a1 h.length (List.length ((h ++ [.row (27 + boxK) [.int .u8 a0_0, .sl 9 a0_1, .sl 27 a0_2, .sl 5 a0_3, .bool a0_4, .flt .f64 a0_5, .str a0_6]]) : VH)) (List.append (α := VO) (h ++ [.row (27 + boxK) [.int .u8 a0_0, .sl 9 a0_1, .sl 27 a0_2, .sl 5 a0_3, .bool a0_4, .flt .f64 a0_5, .str a0_6]]) [.row (27 + boxK) [.int .u8 0, .sl 9 .nil, .sl 27 .nil, .sl 5 .nil, .bool false, .flt .f64 0, .str ⟨#[]⟩]])) := by kernel_rfl
/-! godown/godownref05.At -/
noncomputable def L30_0 (n m : Nat) (s1 : ByteArray) (s2 : Nat) (s4 : Nat) (s6 : Int) (h : VH) : VRes := loopAt P tab 30 [1, 1, 1, 0, 0] n [] m [.undef, .str s1, .ptr (.ob s2 0), .undef, .ptr (.ob s4 0), .undef, .int .i64 s6, .undef, .undef, .undef, .undef, .undef, .undef, .undef, .undef, .undef, .undef, .undef, .undef, .undef, .undef, .undef, .undef, .undef, .undef, .undef, .undef, .undef, .undef, .undef, .undef, .undef, .undef, .undef, .undef, .undef, .undef, .undef, .undef, .undef, .undef, .undef, .undef, .undef, .undef, .undef, .undef, .undef, .undef, .undef, .undef, .undef, .undef, .undef, .undef, .undef, .undef, .undef, .undef, .undef, .undef, .undef, .undef, .undef, .undef, .undef, .undef] h
noncomputable def L30_1 (n m : Nat) (s1 : ByteArray) (s2 : Nat) (s4 : Nat) (s6 : Int) (s7 : Int) (h : VH) : VRes := loopAt P tab 30 [1, 1, 1, 1, 1, 0, 1, 0] n [] m [.undef, .str s1, .ptr (.ob s2 0), .undef, .ptr (.ob s4 0), .undef, .int .i64 s6, .int .i64 s7, .undef, .undef, .undef, .undef, .undef, .undef, .undef, .undef, .undef, .undef, .undef, .undef, .undef, .undef, .undef, .undef, .undef, .undef, .undef, .undef, .undef, .undef, .undef, .undef, .undef, .undef, .undef, .undef, .undef, .undef, .undef, .undef, .undef, .undef, .undef, .undef, .undef, .undef, .undef, .undef, .undef, .undef, .undef, .undef, .undef, .undef, .undef, .undef, .undef, .undef, .undef, .undef, .undef, .undef, .undef, .undef, .undef, .undef, .undef] h
theorem L30_0_eq (n m : Nat) (s1 : ByteArray) (s2 : Nat) (s4 : Nat) (s6 : Int) (h : VH) : L30_0 n (m + 1) s1 s2 s4 s6 h =
  (cond (decide ((s6 : Int) < ((s1).size : Int)))
    ((ixS s1 s6).bind fun b1 =>
      (cond ((b1 : Int) != 47)
        (L30_0 n m s1 s2 s4 (IntKind.wrap .i64 (s6 + 1)) h)
        (cond ((s6 : Int) == (IntKind.wrap .i64 (((s1).size : Int) - 1)))
          ((stV h (.ob s4 0) [.int .u8 0, .sl 9 .nil, .sl 27 .nil, .sl 5 .nil, .bool false, .flt .f64 0, .str ⟨#[]⟩]).bind fun h2 =>
            (((ldV (.agg [.int .u8, .slice 9, .slice 27, .slice 5, .bool, .flt .f64, .str]) h2 (.ob s4 0)).bind fun x3 =>
                some (.tup [.agg [.int .u8 x3.1, .sl 9 x3.2.1, .sl 27 x3.2.2.1, .sl 5 x3.2.2.2.1, .bool x3.2.2.2.2.1, .flt .f64 x3.2.2.2.2.2.1, .str x3.2.2.2.2.2.2.1], .bool false], h2))))
          (L30_1 n n s1 s2 s4 s6 0 h))))
    (cond ((s6 : Int) == (IntKind.wrap .i64 (((s1).size : Int) - 1)))
      ((stV h (.ob s4 0) [.int .u8 0, .sl 9 .nil, .sl 27 .nil, .sl 5 .nil, .bool false, .flt .f64 0, .str ⟨#[]⟩]).bind fun h4 =>
        (((ldV (.agg [.int .u8, .slice 9, .slice 27, .slice 5, .bool, .flt .f64, .str]) h4 (.ob s4 0)).bind fun x5 =>
            some (.tup [.agg [.int .u8 x5.1, .sl 9 x5.2.1, .sl 27 x5.2.2.1, .sl 5 x5.2.2.2.1, .bool x5.2.2.2.2.1, .flt .f64 x5.2.2.2.2.2.1, .str x5.2.2.2.2.2.2.1], .bool false], h4))))
      (L30_1 n n s1 s2 s4 s6 0 h))) := by kernel_rfl
theorem L30_1_eq (n m : Nat) (s1 : ByteArray) (s2 : Nat) (s4 : Nat) (s6 : Int) (s7 : Int) (h : VH) : L30_1 n (m + 1) s1 s2 s4 s6 s7 h =
  ((ldV (.flat (.slice 9)) h (.ob s2 1)).bind fun x1 =>
    (cond (decide ((s7 : Int) < ((VS.len x1 : Nat) : Int)))
      ((ldV (.flat (.slice 9)) h (.ob s2 1)).bind fun x2 =>
        ((ixV 1 x2 s7).bind fun p3 =>
          ((ldV (.flat .str) h p3).bind fun x4 =>
            ((cutS s1 none (some s6)).bind fun z5 =>
              (cond (strEq x4 z5)
                (cond ((s6 : Int) == ((s1).size : Int))
                  ((ldV (.flat (.slice 27)) h (.ob s2 2)).bind fun x6 =>
                    ((ixV 7 x6 s7).bind fun p7 =>
                      ((ldV (.agg [.int .u8, .slice 9, .slice 27, .slice 5, .bool, .flt .f64, .str]) h p7).bind fun x8 =>
                        ((stV h (.ob s4 0) [.int .u8 x8.1, .sl 9 x8.2.1, .sl 27 x8.2.2.1, .sl 5 x8.2.2.2.1, .bool x8.2.2.2.2.1, .flt .f64 x8.2.2.2.2.2.1, .str x8.2.2.2.2.2.2.1]).bind fun h9 =>
                        (((ldV (.agg [.int .u8, .slice 9, .slice 27, .slice 5, .bool, .flt .f64, .str]) h9 (.ob s4 0)).bind fun x10 =>
                        some (.tup [.agg [.int .u8 x10.1, .sl 9 x10.2.1, .sl 27 x10.2.2.1, .sl 5 x10.2.2.2.1, .bool x10.2.2.2.2.1, .flt .f64 x10.2.2.2.2.2.1, .str x10.2.2.2.2.2.2.1], .bool true], h9)))))))
                  ((ldV (.flat (.slice 27)) h (.ob s2 2)).bind fun x11 =>
                    ((ixV 7 x11 s7).bind fun p12 =>
                      ((ldV (.agg [.int .u8, .slice 9, .slice 27, .slice 5, .bool, .flt .f64, .str]) h p12).bind fun x13 =>
                        ((cutS s1 (some (IntKind.wrap .i64 (s6 + 1))) none).bind fun z14 =>
                        ((callD (vF P tab n) P false (.tup [(.agg [.int .u8, .slice 9, .slice 27, .slice 5, .bool, .flt .f64, .str]), (.flat .bool)]) 30 [.agg [.int .u8 x13.1, .sl 9 x13.2.1, .sl 27 x13.2.2.1, .sl 5 x13.2.2.2.1, .bool x13.2.2.2.2.1, .flt .f64 x13.2.2.2.2.2.1, .str x13.2.2.2.2.2.2.1], .str z14] h).bind fun r15 =>
                        (cond (V.stays r15.2 [(.ob s2 2, .slice 27, .sl 27 x11)])
                        ((stV r15.2 (.ob s4 0) [.int .u8 r15.1.1.1, .sl 9 r15.1.1.2.1, .sl 27 r15.1.1.2.2.1, .sl 5 r15.1.1.2.2.2.1, .bool r15.1.1.2.2.2.2.1, .flt .f64 r15.1.1.2.2.2.2.2.1, .str r15.1.1.2.2.2.2.2.2.1]).bind fun h16 =>
                        (((ldV (.agg [.int .u8, .slice 9, .slice 27, .slice 5, .bool, .flt .f64, .str]) h16 (.ob s4 0)).bind fun x17 =>
                        some (.tup [.agg [.int .u8 x17.1, .sl 9 x17.2.1, .sl 27 x17.2.2.1, .sl 5 x17.2.2.2.1, .bool x17.2.2.2.2.1, .flt .f64 x17.2.2.2.2.2.1, .str x17.2.2.2.2.2.2.1], .bool r15.1.2.1], h16))))
                        none)))))))
                (L30_1 n m s1 s2 s4 s6 (IntKind.wrap .i64 (s7 + 1)) h))))))
      ((stV h (.ob s4 0) [.int .u8 0, .sl 9 .nil, .sl 27 .nil, .sl 5 .nil, .bool false, .flt .f64 0, .str ⟨#[]⟩]).bind fun h18 =>
        (((ldV (.agg [.int .u8, .slice 9, .slice 27, .slice 5, .bool, .flt .f64, .str]) h18 (.ob s4 0)).bind fun x19 =>
            some (.tup [.agg [.int .u8 x19.1, .sl 9 x19.2.1, .sl 27 x19.2.2.1, .sl 5 x19.2.2.2.1, .bool x19.2.2.2.2.1, .flt .f64 x19.2.2.2.2.2.1, .str x19.2.2.2.2.2.2.1], .bool false], h18)))))) := by kernel_rfl
theorem f30_eq (n : Nat) (a0_0 : Int) (a0_1 : VS) (a0_2 : VS) (a0_3 : VS) (a0_4 : Bool) (a0_5 : Nat) (a0_6 : ByteArray) (a1 : ByteArray) (h : VH) : bodyV P tab (vF P tab n) n 30 [.agg [.int .u8 a0_0, .sl 9 a0_1, .sl 27 a0_2, .sl 5 a0_3, .bool a0_4, .flt .f64 a0_5, .str a0_6], .str a1] h =
  (cond (strEq a1 ⟨#[]⟩)
    ((ldV (.agg [.int .u8, .slice 9, .slice 27, .slice 5, .bool, .flt .f64, .str]) (List.append (α := VO) (h ++ [.row (27 + boxK) [.int .u8 a0_0, .sl 9 a0_1, .sl 27 a0_2, .sl 5 a0_3, .bool a0_4, .flt .f64 a0_5, .str a0_6]]) [.row (27 + boxK) [.int .u8 0, .sl 9 .nil, .sl 27 .nil, .sl 5 .nil, .bool false, .flt .f64 0, .str ⟨#[]⟩]]) (.ob h.length 0)).bind fun x1 =>
      ((stV (List.append (α := VO) (h ++ [.row (27 + boxK) [.int .u8 a0_0, .sl 9 a0_1, .sl 27 a0_2, .sl 5 a0_3, .bool a0_4, .flt .f64 a0_5, .str a0_6]]) [.row (27 + boxK) [.int .u8 0, .sl 9 .nil, .sl 27 .nil, .sl 5 .nil, .bool false, .flt .f64 0, .str ⟨#[]⟩]]) (.ob (List.length ((h ++ [.row (27 + boxK) [.int .u8 a0_0, .sl 9 a0_1, .sl 27 a0_2, .sl 5 a0_3, .bool a0_4, .flt .f64 a0_5, .str a0_6]]) : VH)) 0) [.int .u8 x1.1, .sl 9 x1.2.1, .sl 27 x1.2.2.1, .sl 5 x1.2.2.2.1, .bool x1.2.2.2.2.1, .flt .f64 x1.2.2.2.2.2.1, .str x1.2.2.2.2.2.2.1]).bind fun h2 =>
        (((ldV (.agg [.int .u8, .slice 9, .slice 27, .slice 5, .bool, .flt .f64, .str]) h2 (.ob (List.length ((h ++ [.row (27 + boxK) [.int .u8 a0_0, .sl 9 a0_1, .sl 27 a0_2, .sl 5 a0_3, .bool a0_4, .flt .f64 a0_5, .str a0_6]]) : VH)) 0)).bind fun x3 =>
            some (.tup [.agg [.int .u8 x3.1, .sl 9 x3.2.1, .sl 27 x3.2.2.1, .sl 5 x3.2.2.2.1, .bool x3.2.2.2.2.1, .flt .f64 x3.2.2.2.2.2.1, .str x3.2.2.2.2.2.2.1], .bool true], h2)))))
    (L30_0 n n a1 h.length (List.length ((h ++ [.row (27 + boxK) [.int .u8 a0_0, .sl 9 a0_1, .sl 27 a0_2, .sl 5 a0_3, .bool a0_4, .flt .f64 a0_5, .str a0_6]]) : VH)) 0 (List.append (α := VO) (h ++ [.row (27 + boxK) [.int .u8 a0_0, .sl 9 a0_1, .sl 27 a0_2, .sl 5 a0_3, .bool a0_4, .flt .f64 a0_5, .str a0_6]]) [.row (27 + boxK) [.int .u8 0, .sl 9 .nil, .sl 27 .nil, .sl 5 .nil, .bool false, .flt .f64 0, .str ⟨#[]⟩]]))) := by kernel_rfl
/-! godown/tree.every -/
theorem f31_eq (n : Nat) (a0_0 : Int) (a0_1 : VS) (a0_2 : VS) (a0_3 : VS) (a0_4 : Bool) (a0_5 : Nat) (a0_6 : ByteArray) (a1 : V) (h : VH) : bodyV P tab (vF P tab n) n 31 [.agg [.int .u8 a0_0, .sl 9 a0_1, .sl 27 a0_2, .sl 5 a0_3, .bool a0_4, .flt .f64 a0_5, .str a0_6], a1] h =
  (if onesV (V.cells a1) = true then
    ((ldV (.flat .any) (List.append (α := VO) (h ++ [.row (27 + boxK) [.int .u8 a0_0, .sl 9 a0_1, .sl 27 a0_2, .sl 5 a0_3, .bool a0_4, .flt .f64 a0_5, .str a0_6]]) [.row (30 + boxK) (V.cells a1)]) (.ob (List.length ((h ++ [.row (27 + boxK) [.int .u8 a0_0, .sl 9 a0_1, .sl 27 a0_2, .sl 5 a0_3, .bool a0_4, .flt .f64 a0_5, .str a0_6]]) : VH)) 0)).bind fun x1 =>
      ((ldV (.agg [.int .u8, .slice 9, .slice 27, .slice 5, .bool, .flt .f64, .str]) (List.append (α := VO) (h ++ [.row (27 + boxK) [.int .u8 a0_0, .sl 9 a0_1, .sl 27 a0_2, .sl 5 a0_3, .bool a0_4, .flt .f64 a0_5, .str a0_6]]) [.row (30 + boxK) (V.cells a1)]) (.ob h.length 0)).bind fun x2 =>
        ((dynD P (env tab (vF P tab n) 31) 4 (some x1) [.agg [.int .u8 x2.1, .sl 9 x2.2.1, .sl 27 x2.2.2.1, .sl 5 x2.2.2.2.1, .bool x2.2.2.2.2.1, .flt .f64 x2.2.2.2.2.2.1, .str x2.2.2.2.2.2.2.1]] (List.append (α := VO) (h ++ [.row (27 + boxK) [.int .u8 a0_0, .sl 9 a0_1, .sl 27 a0_2, .sl 5 a0_3, .bool a0_4, .flt .f64 a0_5, .str a0_6]]) [.row (30 + boxK) (V.cells a1)])).bind fun r3 =>
          (cond r3.1
            ((ldV (.flat (.slice 27)) r3.2 (.ob h.length 2)).bind fun x4 =>
              ((callD (vF P tab n) P false (.one (.flat .bool)) 50 [.sl 27 x4, .func (.func 51) [] [.ptr (.ob (List.length ((h ++ [.row (27 + boxK) [.int .u8 a0_0, .sl 9 a0_1, .sl 27 a0_2, .sl 5 a0_3, .bool a0_4, .flt .f64 a0_5, .str a0_6]]) : VH)) 0)]] r3.2).bind fun r5 =>
                (some (.bool (!r5.1), r5.2))))
            (some (.bool false, r3.2))))))
    else none) := by kernel_rfl
/-! godown/tree.kind -/
theorem f32_eq (n : Nat) (a0_0 : Int) (a0_1 : VS) (a0_2 : VS) (a0_3 : VS) (a0_4 : Bool) (a0_5 : Nat) (a0_6 : ByteArray) (h : VH) : bodyV P tab (vF P tab n) n 32 [.agg [.int .u8 a0_0, .sl 9 a0_1, .sl 27 a0_2, .sl 5 a0_3, .bool a0_4, .flt .f64 a0_5, .str a0_6]] h =
  ((ldV (.agg [.int .u8, .slice 9, .slice 27, .slice 5, .bool, .flt .f64, .str]) (h ++ [.row (27 + boxK) [.int .u8 a0_0, .sl 9 a0_1, .sl 27 a0_2, .sl 5 a0_3, .bool a0_4, .flt .f64 a0_5, .str a0_6]]) (.ob h.length 0)).bind fun x1 =>
    ((callD (vF P tab n) P false (.one (.flat .bool)) 52 [.agg [.int .u8 x1.1, .sl 9 x1.2.1, .sl 27 x1.2.2.1, .sl 5 x1.2.2.2.1, .bool x1.2.2.2.2.1, .flt .f64 x1.2.2.2.2.2.1, .str x1.2.2.2.2.2.2.1]] (h ++ [.row (27 + boxK) [.int .u8 a0_0, .sl 9 a0_1, .sl 27 a0_2, .sl 5 a0_3, .bool a0_4, .flt .f64 a0_5, .str a0_6]])).bind fun r2 =>
      (cond (!r2.1)
        (some (.bool false, r2.2))
        ((ldV (.flat (.int .u8)) r2.2 (.ob h.length 0)).bind fun x3 =>
          (cond ((x3 : Int) == 1)
            ((ldV (.flat (.slice 9)) r2.2 (.ob h.length 1)).bind fun x4 =>
              ((ldV (.flat (.slice 27)) r2.2 (.ob h.length 2)).bind fun x5 =>
                (cond ((((VS.len x4 : Nat) : Int) : Int) == ((VS.len x5 : Nat) : Int))
                  ((ldV (.flat (.slice 9)) r2.2 (.ob h.length 1)).bind fun x6 =>
                    ((callD (vF P tab n) P false (.one (.flat .bool)) 53 [.sl 9 x6] r2.2).bind fun r7 =>
                      (some (.bool r7.1, r7.2))))
                  (some (.bool false, r2.2)))))
            (cond ((x3 : Int) == 2)
              ((ldV (.flat (.slice 5)) r2.2 (.ob h.length 3)).bind fun x8 =>
                (some (.bool (decide ((((VS.len x8 : Nat) : Int) : Int) ≤ 1024)), r2.2)))
              ((ldV (.flat .str) r2.2 (.ob h.length 6)).bind fun x9 =>
                (cond (decide ((((x9).size : Int) : Int) ≥ 1))
                  ((ldV (.flat .str) r2.2 (.ob h.length 6)).bind fun x10 =>
                    (some (.bool (decide ((((x10).size : Int) : Int) ≤ 1024)), r2.2)))
                  (some (.bool false, r2.2)))))))))) := by kernel_rfl
/-! godown/tree.walk -/
theorem f34_eq (n : Nat) (a0_0 : Int) (a0_1 : VS) (a0_2 : VS) (a0_3 : VS) (a0_4 : Bool) (a0_5 : Nat) (a0_6 : ByteArray) (a1 : V) (h : VH) : bodyV P tab (vF P tab n) n 34 [.agg [.int .u8 a0_0, .sl 9 a0_1, .sl 27 a0_2, .sl 5 a0_3, .bool a0_4, .flt .f64 a0_5, .str a0_6], a1] h =
  (if onesV (V.cells a1) = true then
    ((ldV (.agg [.int .u8, .slice 9, .slice 27, .slice 5, .bool, .flt .f64, .str]) (List.append (α := VO) (h ++ [.row (27 + boxK) [.int .u8 a0_0, .sl 9 a0_1, .sl 27 a0_2, .sl 5 a0_3, .bool a0_4, .flt .f64 a0_5, .str a0_6]]) [.row (53 + boxK) (V.cells a1)]) (.ob h.length 0)).bind fun x1 =>
      ((callD (vF P tab n) P false (.one (.flat .bool)) 31 [.agg [.int .u8 x1.1, .sl 9 x1.2.1, .sl 27 x1.2.2.1, .sl 5 x1.2.2.2.1, .bool x1.2.2.2.2.1, .flt .f64 x1.2.2.2.2.2.1, .str x1.2.2.2.2.2.2.1], .func (.func 55) [] [.ptr (.ob (List.length ((h ++ [.row (27 + boxK) [.int .u8 a0_0, .sl 9 a0_1, .sl 27 a0_2, .sl 5 a0_3, .bool a0_4, .flt .f64 a0_5, .str a0_6]]) : VH)) 0)]] (List.append (α := VO) (h ++ [.row (27 + boxK) [.int .u8 a0_0, .sl 9 a0_1, .sl 27 a0_2, .sl 5 a0_3, .bool a0_4, .flt .f64 a0_5, .str a0_6]]) [.row (53 + boxK) (V.cells a1)])).bind fun r2 =>
        (some (.tup [], r2.2))))
    else none) := by kernel_rfl
/-! godown/tree.Count$1 -/
theorem f35_eq (n : Nat) (a0_0 : Int) (a0_1 : VS) (a0_2 : VS) (a0_3 : VS) (a0_4 : Bool) (a0_5 : Nat) (a0_6 : ByteArray) (a1 : VP) (h : VH) : bodyV P tab (vF P tab n) n 35 [.agg [.int .u8 a0_0, .sl 9 a0_1, .sl 27 a0_2, .sl 5 a0_3, .bool a0_4, .flt .f64 a0_5, .str a0_6], .ptr a1] h =
  ((ldV (.flat (.int .i64)) (h ++ [.row (27 + boxK) [.int .u8 a0_0, .sl 9 a0_1, .sl 27 a0_2, .sl 5 a0_3, .bool a0_4, .flt .f64 a0_5, .str a0_6]]) a1).bind fun x1 =>
    ((stV (h ++ [.row (27 + boxK) [.int .u8 a0_0, .sl 9 a0_1, .sl 27 a0_2, .sl 5 a0_3, .bool a0_4, .flt .f64 a0_5, .str a0_6]]) a1 [.int .i64 (IntKind.wrap .i64 (x1 + 1))]).bind fun h2 =>
      (some (.tup [], h2)))) := by kernel_rfl
/-! godown/tree.Size$1 -/
theorem f36_eq (n : Nat) (a0_0 : Int) (a0_1 : VS) (a0_2 : VS) (a0_3 : VS) (a0_4 : Bool) (a0_5 : Nat) (a0_6 : ByteArray) (a1 : VP) (h : VH) : bodyV P tab (vF P tab n) n 36 [.agg [.int .u8 a0_0, .sl 9 a0_1, .sl 27 a0_2, .sl 5 a0_3, .bool a0_4, .flt .f64 a0_5, .str a0_6], .ptr a1] h =
  ((ldV (.flat (.int .i64)) (h ++ [.row (27 + boxK) [.int .u8 a0_0, .sl 9 a0_1, .sl 27 a0_2, .sl 5 a0_3, .bool a0_4, .flt .f64 a0_5, .str a0_6]]) a1).bind fun x1 =>
    ((ldV (.flat (.slice 5)) (h ++ [.row (27 + boxK) [.int .u8 a0_0, .sl 9 a0_1, .sl 27 a0_2, .sl 5 a0_3, .bool a0_4, .flt .f64 a0_5, .str a0_6]]) (.ob h.length 3)).bind fun x2 =>
      ((stV (h ++ [.row (27 + boxK) [.int .u8 a0_0, .sl 9 a0_1, .sl 27 a0_2, .sl 5 a0_3, .bool a0_4, .flt .f64 a0_5, .str a0_6]]) a1 [.int .i64 (IntKind.wrap .i64 (x1 + ((VS.len x2 : Nat) : Int)))]).bind fun h3 =>
        (some (.tup [], h3))))) := by kernel_rfl
/-! godown/godownref05.kids -/
noncomputable def L37_0 (n m : Nat) (s0 : VS) (s1 : Int) (s2 : Int) (s6 : Nat) (s8 : Nat) (s9 : Int) (h : VH) : VRes := loopAt P tab 37 [1, 1, 1, 1, 1, 0, 1, 0] n [] m [.sl 55 s0, .int .i64 s1, .int .i64 s2, .undef, .undef, .undef, .ptr (.ob s6 0), .undef, .ptr (.ob s8 0), .int .i64 s9, .undef, .undef, .undef, .undef, .undef, .undef, .undef, .undef, .undef, .undef, .undef, .undef, .undef, .undef, .undef, .undef, .undef, .undef, .undef, .undef, .undef, .undef, .undef, .undef, .undef, .undef, .undef, .undef, .undef, .undef, .undef, .undef, .undef, .undef, .undef, .undef, .undef, .undef, .undef, .undef, .undef, .undef, .undef, .undef, .undef, .undef, .undef, .undef, .undef, .undef, .undef, .undef, .undef, .undef, .undef, .undef, .undef, .undef, .undef, .undef, .undef, .undef, .undef, .undef, .undef, .undef, .undef, .undef, .undef, .undef, .undef, .undef, .undef, .undef, .undef, .undef, .undef, .undef, .undef, .undef, .undef, .undef, .undef, .undef, .undef, .undef, .undef, .undef, .undef, .undef, .undef, .undef, .undef, .undef, .undef, .undef, .undef, .undef, .undef, .undef, .undef, .undef, .undef, .undef, .undef, .undef, .undef, .undef, .undef, .undef, .undef, .undef, .undef, .undef, .undef, .undef, .undef, .undef, .undef, .undef, .undef, .undef, .undef, .undef, .undef, .undef, .undef, .undef] h
noncomputable def L37_1 (n m0 m : Nat) (s0 : VS) (s1 : Int) (s2 : Int) (s6 : Nat) (s8 : Nat) (s9 : Int) (s10 : ByteArray) (s11 : Nat) (s12 : VS) (s13 : VS) (s14 : Bool) (s15 : Int) (h : VH) : VRes := loopAt P tab 37 [1, 1, 1, 1, 1, 0, 1, 0, 0, 1, 0, 0, 1, 1, 1, 1, 1, 0, 1, 0] n [m0] m [.sl 55 s0, .int .i64 s1, .int .i64 s2, .undef, .undef, .undef, .ptr (.ob s6 0), .undef, .ptr (.ob s8 0), .int .i64 s9, .str s10, .ptr (.ob s11 0), .sl 9 s12, .sl 27 s13, .bool s14, .int .i64 s15, .undef, .undef, .undef, .undef, .undef, .undef, .undef, .undef, .undef, .undef, .undef, .undef, .undef, .undef, .undef, .undef, .undef, .undef, .undef, .undef, .undef, .undef, .undef, .undef, .undef, .undef, .undef, .undef, .undef, .undef, .undef, .undef, .undef, .undef, .undef, .undef, .undef, .undef, .undef, .undef, .undef, .undef, .undef, .undef, .undef, .undef, .undef, .undef, .undef, .undef, .undef, .undef, .undef, .undef, .undef, .undef, .undef, .undef, .undef, .undef, .undef, .undef, .undef, .undef, .undef, .undef, .undef, .undef, .undef, .undef, .undef, .undef, .undef, .undef, .undef, .undef, .undef, .undef, .undef, .undef, .undef, .undef, .undef, .undef, .undef, .undef, .undef, .undef, .undef, .undef, .undef, .undef, .undef, .undef, .undef, .undef, .undef, .undef, .undef, .undef, .undef, .undef, .undef, .undef, .undef, .undef, .undef, .undef, .undef, .undef, .undef, .undef, .undef, .undef, .undef, .undef, .undef, .undef, .undef, .undef, .undef, .undef] h
theorem L37_0_eq (n m : Nat) (s0 : VS) (s1 : Int) (s2 : Int) (s6 : Nat) (s8 : Nat) (s9 : Int) (h : VH) : L37_0 n (m + 1) s0 s1 s2 s6 s8 s9 h =
  (cond (decide ((s9 : Int) < ((VS.len s0 : Nat) : Int)))
    ((ixV 6 s0 s9).bind fun p1 =>
      ((atO p1 0).bind fun p2 =>
        ((ldV (.flat (.int .u8)) h p2).bind fun x3 =>
          ((remI (IntKind.wrap .i64 x3) s9).bind fun x4 =>
            (cond ((x4 : Int) != s1)
              (L37_0 n m s0 s1 s2 s6 s8 (IntKind.wrap .i64 (s9 + 1)) h)
              ((ixV 6 s0 s9).bind fun p5 =>
                ((atO p5 2).bind fun p6 =>
                  ((ldV (.flat (.int .u8)) h p6).bind fun x7 =>
                    ((callD (vF P tab n) P false (.one (.flat .str)) 56 [.int .u8 x7] h).bind fun r8 =>
                      ((callD (vF P tab n) P false (.one (.agg [.int .u8, .slice 9, .slice 27, .slice 5, .bool, .flt .f64, .str])) 37 [.sl 55 s0, .int .i64 s9, .int .i64 (IntKind.wrap .i64 (s2 + 1))] r8.2).bind fun r9 =>
                        ((stV (r9.2 ++ [.row (27 + boxK) [.int .u8 0, .sl 9 .nil, .sl 27 .nil, .sl 5 .nil, .bool false, .flt .f64 0, .str ⟨#[]⟩]]) (.ob r9.2.length 0) [.int .u8 r9.1.1, .sl 9 r9.1.2.1, .sl 27 r9.1.2.2.1, .sl 5 r9.1.2.2.2.1, .bool r9.1.2.2.2.2.1, .flt .f64 r9.1.2.2.2.2.2.1, .str r9.1.2.2.2.2.2.2.1]).bind fun h10 =>
                        (L37_1 n m n s0 s1 s2 s6 s8 s9 r8.1 r9.2.length .nil .nil false 0 h10))))))))))))
    ((ldV (.agg [.int .u8, .slice 9, .slice 27, .slice 5, .bool, .flt .f64, .str]) h (.ob s8 0)).bind fun x11 =>
      ((stV h (.ob s6 0) [.int .u8 x11.1, .sl 9 x11.2.1, .sl 27 x11.2.2.1, .sl 5 x11.2.2.2.1, .bool x11.2.2.2.2.1, .flt .f64 x11.2.2.2.2.2.1, .str x11.2.2.2.2.2.2.1]).bind fun h12 =>
        (((ldV (.agg [.int .u8, .slice 9, .slice 27, .slice 5, .bool, .flt .f64, .str]) h12 (.ob s6 0)).bind fun x13 =>
            some (.agg [.int .u8 x13.1, .sl 9 x13.2.1, .sl 27 x13.2.2.1, .sl 5 x13.2.2.2.1, .bool x13.2.2.2.2.1, .flt .f64 x13.2.2.2.2.2.1, .str x13.2.2.2.2.2.2.1], h12)))))) := by kernel_rfl
theorem L37_1_eq (n m0 m : Nat) (s0 : VS) (s1 : Int) (s2 : Int) (s6 : Nat) (s8 : Nat) (s9 : Int) (s10 : ByteArray) (s11 : Nat) (s12 : VS) (s13 : VS) (s14 : Bool) (s15 : Int) (h : VH) : L37_1 n m0 (m + 1) s0 s1 s2 s6 s8 s9 s10 s11 s12 s13 s14 s15 h =
  ((ldV (.flat (.slice 9)) h (.ob s8 1)).bind fun x1 =>
    (cond (decide ((s15 : Int) < ((VS.len x1 : Nat) : Int)))
      (cond (!s14)
        ((ldV (.flat (.slice 9)) h (.ob s8 1)).bind fun x2 =>
          ((ixV 1 x2 s15).bind fun p3 =>
            ((ldV (.flat .str) h p3).bind fun x4 =>
              (cond (strLt s10 x4 || strEq s10 x4)
                ((ldV (.agg [.int .u8, .slice 9, .slice 27, .slice 5, .bool, .flt .f64, .str]) h (.ob s11 0)).bind fun x5 =>
                  (if List.all [.int .u8 x5.1, .sl 9 x5.2.1, .sl 27 x5.2.2.1, .sl 5 x5.2.2.2.1, .bool x5.2.2.2.2.1, .flt .f64 x5.2.2.2.2.2.1, .str x5.2.2.2.2.2.2.1] closed1 = true then
                    ((appD true h 1 16 9 s12 (.fz [[.str s10]] (.ex 1))).bind fun r6 =>
                      (cond (V.stays r6.2 [(.ob s11 0, .int .u8, .int .u8 x5.1), (.ob s11 1, .slice 9, .sl 9 x5.2.1), (.ob s11 2, .slice 27, .sl 27 x5.2.2.1), (.ob s11 3, .slice 5, .sl 5 x5.2.2.2.1), (.ob s11 4, .bool, .bool x5.2.2.2.2.1), (.ob s11 5, .flt .f64, .flt .f64 x5.2.2.2.2.2.1), (.ob s11 6, .str, .str x5.2.2.2.2.2.2.1)])
                        ((appD true r6.2 7 112 27 s13 (.fz [[.int .u8 x5.1, .sl 9 (VS.strip x5.2.1), .sl 27 (VS.strip x5.2.2.1), .sl 5 (VS.strip x5.2.2.2.1), .bool x5.2.2.2.2.1, .flt .f64 x5.2.2.2.2.2.1, .str x5.2.2.2.2.2.2.1]] (.ex 1))).bind fun r7 =>
                        (cond (V.stays r7.2 [(.ob s11 0, .int .u8, .int .u8 x5.1), (.ob s11 1, .slice 9, .sl 9 x5.2.1), (.ob s11 2, .slice 27, .sl 27 x5.2.2.1), (.ob s11 3, .slice 5, .sl 5 x5.2.2.2.1), (.ob s11 4, .bool, .bool x5.2.2.2.2.1), (.ob s11 5, .flt .f64, .flt .f64 x5.2.2.2.2.2.1), (.ob s11 6, .str, .str x5.2.2.2.2.2.2.1)])
                        ((ldV (.flat (.slice 9)) r7.2 (.ob s8 1)).bind fun x8 =>
                        ((ixV 1 x8 s15).bind fun p9 =>
                        ((ldV (.flat .str) r7.2 p9).bind fun x10 =>
                        (cond (strEq s10 x10)
                        (L37_1 n m0 m s0 s1 s2 s6 s8 s9 s10 s11 r6.1 r7.1 true (IntKind.wrap .i64 (s15 + 1)) r7.2)
                        ((ldV (.flat (.slice 9)) r7.2 (.ob s8 1)).bind fun x11 =>
                        ((ixV 1 x11 s15).bind fun p12 =>
                        ((ldV (.flat .str) r7.2 p12).bind fun x13 =>
                        ((ldV (.flat (.slice 27)) r7.2 (.ob s8 2)).bind fun x14 =>
                        ((ixV 7 x14 s15).bind fun p15 =>
                        ((ldV (.agg [.int .u8, .slice 9, .slice 27, .slice 5, .bool, .flt .f64, .str]) r7.2 p15).bind fun x16 =>
                        (if List.all [.int .u8 x16.1, .sl 9 x16.2.1, .sl 27 x16.2.2.1, .sl 5 x16.2.2.2.1, .bool x16.2.2.2.2.1, .flt .f64 x16.2.2.2.2.2.1, .str x16.2.2.2.2.2.2.1] closed1 = true then
                        ((appD true r7.2 1 16 9 r6.1 (.fz [[.str x13]] (.ex 1))).bind fun r17 =>
                        (cond (V.stays r17.2 (hj (heldOf p15 [.int .u8, .slice 9, .slice 27, .slice 5, .bool, .flt .f64, .str] [.int .u8 x16.1, .sl 9 x16.2.1, .sl 27 x16.2.2.1, .sl 5 x16.2.2.2.1, .bool x16.2.2.2.2.1, .flt .f64 x16.2.2.2.2.2.1, .str x16.2.2.2.2.2.2.1]) (hj [(.ob s8 2, .slice 27, .sl 27 x14)] (hj (heldOf p12 [.str] [.str x13]) [(.ob s8 1, .slice 9, .sl 9 x11)]))))
                        ((appD true r17.2 7 112 27 r7.1 (.fz [[.int .u8 x16.1, .sl 9 (VS.strip x16.2.1), .sl 27 (VS.strip x16.2.2.1), .sl 5 (VS.strip x16.2.2.2.1), .bool x16.2.2.2.2.1, .flt .f64 x16.2.2.2.2.2.1, .str x16.2.2.2.2.2.2.1]] (.ex 1))).bind fun r18 =>
                        (cond (V.stays r18.2 (hj (heldOf p15 [.int .u8, .slice 9, .slice 27, .slice 5, .bool, .flt .f64, .str] [.int .u8 x16.1, .sl 9 x16.2.1, .sl 27 x16.2.2.1, .sl 5 x16.2.2.2.1, .bool x16.2.2.2.2.1, .flt .f64 x16.2.2.2.2.2.1, .str x16.2.2.2.2.2.2.1]) (hj [(.ob s8 2, .slice 27, .sl 27 x14)] (hj (heldOf p12 [.str] [.str x13]) [(.ob s8 1, .slice 9, .sl 9 x11)]))))
                        (L37_1 n m0 m s0 s1 s2 s6 s8 s9 s10 s11 r17.1 r18.1 true (IntKind.wrap .i64 (s15 + 1)) r18.2)
                        none))
                        none))
                        else none)))))))))))
                        none))
                        none))
                    else none))
                ((ldV (.flat (.slice 9)) h (.ob s8 1)).bind fun x19 =>
                  ((ixV 1 x19 s15).bind fun p20 =>
                    ((ldV (.flat .str) h p20).bind fun x21 =>
                      ((ldV (.flat (.slice 27)) h (.ob s8 2)).bind fun x22 =>
                        ((ixV 7 x22 s15).bind fun p23 =>
                        ((ldV (.agg [.int .u8, .slice 9, .slice 27, .slice 5, .bool, .flt .f64, .str]) h p23).bind fun x24 =>
                        (if List.all [.int .u8 x24.1, .sl 9 x24.2.1, .sl 27 x24.2.2.1, .sl 5 x24.2.2.2.1, .bool x24.2.2.2.2.1, .flt .f64 x24.2.2.2.2.2.1, .str x24.2.2.2.2.2.2.1] closed1 = true then
                        ((appD true h 1 16 9 s12 (.fz [[.str x21]] (.ex 1))).bind fun r25 =>
                        (cond (V.stays r25.2 (hj (heldOf p23 [.int .u8, .slice 9, .slice 27, .slice 5, .bool, .flt .f64, .str] [.int .u8 x24.1, .sl 9 x24.2.1, .sl 27 x24.2.2.1, .sl 5 x24.2.2.2.1, .bool x24.2.2.2.2.1, .flt .f64 x24.2.2.2.2.2.1, .str x24.2.2.2.2.2.2.1]) (hj [(.ob s8 2, .slice 27, .sl 27 x22)] (hj (heldOf p20 [.str] [.str x21]) [(.ob s8 1, .slice 9, .sl 9 x19)]))))
                        ((appD true r25.2 7 112 27 s13 (.fz [[.int .u8 x24.1, .sl 9 (VS.strip x24.2.1), .sl 27 (VS.strip x24.2.2.1), .sl 5 (VS.strip x24.2.2.2.1), .bool x24.2.2.2.2.1, .flt .f64 x24.2.2.2.2.2.1, .str x24.2.2.2.2.2.2.1]] (.ex 1))).bind fun r26 =>
                        (cond (V.stays r26.2 (hj (heldOf p23 [.int .u8, .slice 9, .slice 27, .slice 5, .bool, .flt .f64, .str] [.int .u8 x24.1, .sl 9 x24.2.1, .sl 27 x24.2.2.1, .sl 5 x24.2.2.2.1, .bool x24.2.2.2.2.1, .flt .f64 x24.2.2.2.2.2.1, .str x24.2.2.2.2.2.2.1]) (hj [(.ob s8 2, .slice 27, .sl 27 x22)] (hj (heldOf p20 [.str] [.str x21]) [(.ob s8 1, .slice 9, .sl 9 x19)]))))
                        (L37_1 n m0 m s0 s1 s2 s6 s8 s9 s10 s11 r25.1 r26.1 s14 (IntKind.wrap .i64 (s15 + 1)) r26.2)
                        none))
                        none))
                        else none)))))))))))
        ((ldV (.flat (.slice 9)) h (.ob s8 1)).bind fun x27 =>
          ((ixV 1 x27 s15).bind fun p28 =>
            ((ldV (.flat .str) h p28).bind fun x29 =>
              ((ldV (.flat (.slice 27)) h (.ob s8 2)).bind fun x30 =>
                ((ixV 7 x30 s15).bind fun p31 =>
                  ((ldV (.agg [.int .u8, .slice 9, .slice 27, .slice 5, .bool, .flt .f64, .str]) h p31).bind fun x32 =>
                    (if List.all [.int .u8 x32.1, .sl 9 x32.2.1, .sl 27 x32.2.2.1, .sl 5 x32.2.2.2.1, .bool x32.2.2.2.2.1, .flt .f64 x32.2.2.2.2.2.1, .str x32.2.2.2.2.2.2.1] closed1 = true then
                      ((appD true h 1 16 9 s12 (.fz [[.str x29]] (.ex 1))).bind fun r33 =>
                        (cond (V.stays r33.2 (hj (heldOf p31 [.int .u8, .slice 9, .slice 27, .slice 5, .bool, .flt .f64, .str] [.int .u8 x32.1, .sl 9 x32.2.1, .sl 27 x32.2.2.1, .sl 5 x32.2.2.2.1, .bool x32.2.2.2.2.1, .flt .f64 x32.2.2.2.2.2.1, .str x32.2.2.2.2.2.2.1]) (hj [(.ob s8 2, .slice 27, .sl 27 x30)] (hj (heldOf p28 [.str] [.str x29]) [(.ob s8 1, .slice 9, .sl 9 x27)]))))
                        ((appD true r33.2 7 112 27 s13 (.fz [[.int .u8 x32.1, .sl 9 (VS.strip x32.2.1), .sl 27 (VS.strip x32.2.2.1), .sl 5 (VS.strip x32.2.2.2.1), .bool x32.2.2.2.2.1, .flt .f64 x32.2.2.2.2.2.1, .str x32.2.2.2.2.2.2.1]] (.ex 1))).bind fun r34 =>
                        (cond (V.stays r34.2 (hj (heldOf p31 [.int .u8, .slice 9, .slice 27, .slice 5, .bool, .flt .f64, .str] [.int .u8 x32.1, .sl 9 x32.2.1, .sl 27 x32.2.2.1, .sl 5 x32.2.2.2.1, .bool x32.2.2.2.2.1, .flt .f64 x32.2.2.2.2.2.1, .str x32.2.2.2.2.2.2.1]) (hj [(.ob s8 2, .slice 27, .sl 27 x30)] (hj (heldOf p28 [.str] [.str x29]) [(.ob s8 1, .slice 9, .sl 9 x27)]))))
                        (L37_1 n m0 m s0 s1 s2 s6 s8 s9 s10 s11 r33.1 r34.1 s14 (IntKind.wrap .i64 (s15 + 1)) r34.2)
                        none))
                        none))
                      else none))))))))
      (cond (!s14)
        ((ldV (.agg [.int .u8, .slice 9, .slice 27, .slice 5, .bool, .flt .f64, .str]) h (.ob s11 0)).bind fun x35 =>
          (if List.all [.int .u8 x35.1, .sl 9 x35.2.1, .sl 27 x35.2.2.1, .sl 5 x35.2.2.2.1, .bool x35.2.2.2.2.1, .flt .f64 x35.2.2.2.2.2.1, .str x35.2.2.2.2.2.2.1] closed1 = true then
            ((appD true h 1 16 9 s12 (.fz [[.str s10]] (.ex 1))).bind fun r36 =>
              (cond (V.stays r36.2 [(.ob s11 0, .int .u8, .int .u8 x35.1), (.ob s11 1, .slice 9, .sl 9 x35.2.1), (.ob s11 2, .slice 27, .sl 27 x35.2.2.1), (.ob s11 3, .slice 5, .sl 5 x35.2.2.2.1), (.ob s11 4, .bool, .bool x35.2.2.2.2.1), (.ob s11 5, .flt .f64, .flt .f64 x35.2.2.2.2.2.1), (.ob s11 6, .str, .str x35.2.2.2.2.2.2.1)])
                ((appD true r36.2 7 112 27 s13 (.fz [[.int .u8 x35.1, .sl 9 (VS.strip x35.2.1), .sl 27 (VS.strip x35.2.2.1), .sl 5 (VS.strip x35.2.2.2.1), .bool x35.2.2.2.2.1, .flt .f64 x35.2.2.2.2.2.1, .str x35.2.2.2.2.2.2.1]] (.ex 1))).bind fun r37 =>
                  (cond (V.stays r37.2 [(.ob s11 0, .int .u8, .int .u8 x35.1), (.ob s11 1, .slice 9, .sl 9 x35.2.1), (.ob s11 2, .slice 27, .sl 27 x35.2.2.1), (.ob s11 3, .slice 5, .sl 5 x35.2.2.2.1), (.ob s11 4, .bool, .bool x35.2.2.2.2.1), (.ob s11 5, .flt .f64, .flt .f64 x35.2.2.2.2.2.1), (.ob s11 6, .str, .str x35.2.2.2.2.2.2.1)])
                    ((stV r37.2 (.ob s8 1) [.sl 9 r36.1]).bind fun h38 =>
                      ((stV h38 (.ob s8 2) [.sl 27 r37.1]).bind fun h39 =>
                        (L37_0 n m0 s0 s1 s2 s6 s8 (IntKind.wrap .i64 (s9 + 1)) h39)))
                    none))
                none))
            else none))
        ((stV h (.ob s8 1) [.sl 9 s12]).bind fun h40 =>
          ((stV h40 (.ob s8 2) [.sl 27 s13]).bind fun h41 =>
            (L37_0 n m0 s0 s1 s2 s6 s8 (IntKind.wrap .i64 (s9 + 1)) h41)))))) := by kernel_rfl
theorem f37_eq (n : Nat) (a0 : VS) (a1 : Int) (a2 : Int) (h : VH) : bodyV P tab (vF P tab n) n 37 [.sl 55 a0, .int .i64 a1, .int .i64 a2] h =
  ((ixV 6 a0 a1).bind fun p1 =>
    ((ldV (.agg [.int .u8, .int .u8, .int .u8, .slice 5, .bool, .flt .f64]) (h ++ [.row (27 + boxK) [.int .u8 0, .sl 9 .nil, .sl 27 .nil, .sl 5 .nil, .bool false, .flt .f64 0, .str ⟨#[]⟩]]) p1).bind fun x2 =>
      ((stV (List.append (α := VO) (h ++ [.row (27 + boxK) [.int .u8 0, .sl 9 .nil, .sl 27 .nil, .sl 5 .nil, .bool false, .flt .f64 0, .str ⟨#[]⟩]]) [.row (55 + boxK) [.int .u8 0, .int .u8 0, .int .u8 0, .sl 5 .nil, .bool false, .flt .f64 0]]) (.ob (List.length ((h ++ [.row (27 + boxK) [.int .u8 0, .sl 9 .nil, .sl 27 .nil, .sl 5 .nil, .bool false, .flt .f64 0, .str ⟨#[]⟩]]) : VH)) 0) [.int .u8 x2.1, .int .u8 x2.2.1, .int .u8 x2.2.2.1, .sl 5 x2.2.2.2.1, .bool x2.2.2.2.2.1, .flt .f64 x2.2.2.2.2.2.1]).bind fun h3 =>
        ((ldV (.flat (.int .u8)) h3 (.ob (List.length ((h ++ [.row (27 + boxK) [.int .u8 0, .sl 9 .nil, .sl 27 .nil, .sl 5 .nil, .bool false, .flt .f64 0, .str ⟨#[]⟩]]) : VH)) 1)).bind fun x4 =>
          ((remI x4 4).bind fun x5 =>
            (cond ((x5 : Int) == 3)
              ((ldV (.flat (.slice 5)) h3 (.ob (List.length ((h ++ [.row (27 + boxK) [.int .u8 0, .sl 9 .nil, .sl 27 .nil, .sl 5 .nil, .bool false, .flt .f64 0, .str ⟨#[]⟩]]) : VH)) 3)).bind fun x6 =>
                ((strV h3 5 x6).bind fun z7 =>
                  ((catS ⟨#[116]⟩ z7).bind fun z8 =>
                    ((stV h3 (.ob h.length 0) [.int .u8 3, .sl 9 .nil, .sl 27 .nil, .sl 5 .nil, .bool false, .flt .f64 0, .str z8]).bind fun h9 =>
                      (((ldV (.agg [.int .u8, .slice 9, .slice 27, .slice 5, .bool, .flt .f64, .str]) h9 (.ob h.length 0)).bind fun x10 =>
                        some (.agg [.int .u8 x10.1, .sl 9 x10.2.1, .sl 27 x10.2.2.1, .sl 5 x10.2.2.2.1, .bool x10.2.2.2.2.1, .flt .f64 x10.2.2.2.2.2.1, .str x10.2.2.2.2.2.2.1], h9)))))))
              ((ldV (.flat (.int .u8)) h3 (.ob (List.length ((h ++ [.row (27 + boxK) [.int .u8 0, .sl 9 .nil, .sl 27 .nil, .sl 5 .nil, .bool false, .flt .f64 0, .str ⟨#[]⟩]]) : VH)) 1)).bind fun x11 =>
                ((remI x11 4).bind fun x12 =>
                  (cond (decide ((x12 : Int) > 0))
                    ((ldV (.flat (.slice 5)) h3 (.ob (List.length ((h ++ [.row (27 + boxK) [.int .u8 0, .sl 9 .nil, .sl 27 .nil, .sl 5 .nil, .bool false, .flt .f64 0, .str ⟨#[]⟩]]) : VH)) 3)).bind fun x13 =>
                      ((ldV (.flat .bool) h3 (.ob (List.length ((h ++ [.row (27 + boxK) [.int .u8 0, .sl 9 .nil, .sl 27 .nil, .sl 5 .nil, .bool false, .flt .f64 0, .str ⟨#[]⟩]]) : VH)) 4)).bind fun x14 =>
                        ((ldV (.flat (.flt .f64)) h3 (.ob (List.length ((h ++ [.row (27 + boxK) [.int .u8 0, .sl 9 .nil, .sl 27 .nil, .sl 5 .nil, .bool false, .flt .f64 0, .str ⟨#[]⟩]]) : VH)) 5)).bind fun x15 =>
                        ((stV h3 (.ob h.length 0) [.int .u8 2, .sl 9 .nil, .sl 27 .nil, .sl 5 x13, .bool x14, .flt .f64 x15, .str ⟨#[]⟩]).bind fun h16 =>
                        (((ldV (.agg [.int .u8, .slice 9, .slice 27, .slice 5, .bool, .flt .f64, .str]) h16 (.ob h.length 0)).bind fun x17 =>
                        some (.agg [.int .u8 x17.1, .sl 9 x17.2.1, .sl 27 x17.2.2.1, .sl 5 x17.2.2.2.1, .bool x17.2.2.2.2.1, .flt .f64 x17.2.2.2.2.2.1, .str x17.2.2.2.2.2.2.1], h16)))))))
                    (cond (decide ((a2 : Int) ≥ 8))
                      ((ldV (.flat (.slice 5)) h3 (.ob (List.length ((h ++ [.row (27 + boxK) [.int .u8 0, .sl 9 .nil, .sl 27 .nil, .sl 5 .nil, .bool false, .flt .f64 0, .str ⟨#[]⟩]]) : VH)) 3)).bind fun x18 =>
                        ((ldV (.flat .bool) h3 (.ob (List.length ((h ++ [.row (27 + boxK) [.int .u8 0, .sl 9 .nil, .sl 27 .nil, .sl 5 .nil, .bool false, .flt .f64 0, .str ⟨#[]⟩]]) : VH)) 4)).bind fun x19 =>
                        ((ldV (.flat (.flt .f64)) h3 (.ob (List.length ((h ++ [.row (27 + boxK) [.int .u8 0, .sl 9 .nil, .sl 27 .nil, .sl 5 .nil, .bool false, .flt .f64 0, .str ⟨#[]⟩]]) : VH)) 5)).bind fun x20 =>
                        ((stV h3 (.ob h.length 0) [.int .u8 2, .sl 9 .nil, .sl 27 .nil, .sl 5 x18, .bool x19, .flt .f64 x20, .str ⟨#[]⟩]).bind fun h21 =>
                        (((ldV (.agg [.int .u8, .slice 9, .slice 27, .slice 5, .bool, .flt .f64, .str]) h21 (.ob h.length 0)).bind fun x22 =>
                        some (.agg [.int .u8 x22.1, .sl 9 x22.2.1, .sl 27 x22.2.2.1, .sl 5 x22.2.2.2.1, .bool x22.2.2.2.2.1, .flt .f64 x22.2.2.2.2.2.1, .str x22.2.2.2.2.2.2.1], h21)))))))
                      ((stV (h3 ++ [.row (27 + boxK) [.int .u8 0, .sl 9 .nil, .sl 27 .nil, .sl 5 .nil, .bool false, .flt .f64 0, .str ⟨#[]⟩]]) (.ob h3.length 0) [.int .u8 1, .sl 9 .nil, .sl 27 .nil, .sl 5 .nil, .bool false, .flt .f64 0, .str ⟨#[]⟩]).bind fun h23 =>
                        (L37_0 n n a0 a1 a2 h.length h3.length (IntKind.wrap .i64 (a1 + 1)) h23)))))))))))) := by kernel_rfl
/-! godown/real.Same -/
theorem f38_eq (n : Nat) (a0 : Nat) (a1 : Nat) (h : VH) : bodyV P tab (vF P tab n) n 38 [.flt .f64 a0, .flt .f64 a1] h =
  ((callD (vF P tab n) P false (.one (.flat (.int .u64))) 57 [.flt .f64 a0] h).bind fun r1 =>
    ((callD (vF P tab n) P false (.one (.flat (.int .u64))) 57 [.flt .f64 a1] r1.2).bind fun r2 =>
      (some (.bool ((r1.1 : Int) == r2.1), r2.2)))) := by kernel_rfl
/-! bytes.Equal -/
theorem f39_eq (n : Nat) (a0 : VS) (a1 : VS) (h : VH) : bodyV P tab (vF P tab n) n 39 [.sl 5 a0, .sl 5 a1] h =
  ((strV h 5 a0).bind fun z1 =>
    ((strV h 5 a1).bind fun z2 =>
      (some (.bool (strEq z1 z2), h)))) := by kernel_rfl
/-! slices.Equal[[]string,string] -/
noncomputable def L40_0 (n m : Nat) (s0 : VS) (s1 : VS) (s12 : Int) (s13 : Int) (h : VH) : VRes := loopAt P tab 40 [1, 1, 0, 1, 0] n [] m [.sl 9 s0, .sl 9 s1, .undef, .undef, .undef, .undef, .undef, .undef, .undef, .undef, .undef, .undef, .int .i64 s12, .int .i64 s13, .undef, .undef, .undef, .undef, .undef, .undef, .undef, .undef, .undef, .undef, .undef, .undef] h
theorem L40_0_eq (n m : Nat) (s0 : VS) (s1 : VS) (s12 : Int) (s13 : Int) (h : VH) : L40_0 n (m + 1) s0 s1 s12 s13 h =
  (cond (decide ((s13 : Int) < s12))
    ((ixV 1 s0 s13).bind fun p1 =>
      ((ldV (.flat .str) h p1).bind fun x2 =>
        ((ixV 1 s1 s13).bind fun p3 =>
          ((ldV (.flat .str) h p3).bind fun x4 =>
            (cond (!(strEq x2 x4))
              (some (.bool false, h))
              (L40_0 n m s0 s1 s12 (IntKind.wrap .i64 (s13 + 1)) h))))))
    (some (.bool true, h))) := by kernel_rfl
theorem f40_eq (n : Nat) (a0 : VS) (a1 : VS) (h : VH) : bodyV P tab (vF P tab n) n 40 [.sl 9 a0, .sl 9 a1] h =
  (cond ((((VS.len a0 : Nat) : Int) : Int) != ((VS.len a1 : Nat) : Int))
    (some (.bool false, h))
    (L40_0 n n a0 a1 ((VS.len a0 : Nat) : Int) 0 h)) := by kernel_rfl
/-! slices.EqualFunc[[]godown/api.Node,[]godown/api.Node,godown/api.Node,godown/api.Node] -/
noncomputable def L41_0 (n m : Nat) (s1 : VS) (s2 : V) (s15 : VS) (s16 : Int) (s17 : Int) (h : VH) : VRes := loopAt P tab 41 [1, 1, 0, 1, 0] n [] m [.undef, .sl 27 s1, s2, .undef, .undef, .undef, .undef, .undef, .undef, .undef, .undef, .undef, .undef, .undef, .undef, .sl 27 s15, .int .i64 s16, .int .i64 s17, .undef, .undef, .undef, .undef, .undef, .undef, .undef, .undef, .undef, .undef, .undef, .undef, .undef, .undef] h
theorem L41_0_eq (n m : Nat) (s1 : VS) (s2 : V) (s15 : VS) (s16 : Int) (s17 : Int) (h : VH) : L41_0 n (m + 1) s1 s2 s15 s16 s17 h =
  (cond (decide ((s17 : Int) < s16))
    ((ixV 7 s15 s17).bind fun p1 =>
      ((ldV (.agg [.int .u8, .slice 9, .slice 27, .slice 5, .bool, .flt .f64, .str]) h p1).bind fun x2 =>
        ((stV (h ++ [.row (27 + boxK) [.int .u8 0, .sl 9 .nil, .sl 27 .nil, .sl 5 .nil, .bool false, .flt .f64 0, .str ⟨#[]⟩]]) (.ob h.length 0) [.int .u8 x2.1, .sl 9 x2.2.1, .sl 27 x2.2.2.1, .sl 5 x2.2.2.2.1, .bool x2.2.2.2.2.1, .flt .f64 x2.2.2.2.2.2.1, .str x2.2.2.2.2.2.2.1]).bind fun h3 =>
          ((ixV 7 s1 s17).bind fun p4 =>
            ((ldV (.agg [.int .u8, .slice 9, .slice 27, .slice 5, .bool, .flt .f64, .str]) h3 p4).bind fun x5 =>
              ((stV (h3 ++ [.row (27 + boxK) [.int .u8 0, .sl 9 .nil, .sl 27 .nil, .sl 5 .nil, .bool false, .flt .f64 0, .str ⟨#[]⟩]]) (.ob h3.length 0) [.int .u8 x5.1, .sl 9 x5.2.1, .sl 27 x5.2.2.1, .sl 5 x5.2.2.2.1, .bool x5.2.2.2.2.1, .flt .f64 x5.2.2.2.2.2.1, .str x5.2.2.2.2.2.2.1]).bind fun h6 =>
                ((ldV (.agg [.int .u8, .slice 9, .slice 27, .slice 5, .bool, .flt .f64, .str]) h6 (.ob h.length 0)).bind fun x7 =>
                  ((ldV (.agg [.int .u8, .slice 9, .slice 27, .slice 5, .bool, .flt .f64, .str]) h6 (.ob h3.length 0)).bind fun x8 =>
                    ((dynD P (env tab (vF P tab n) 41) 4 (some s2) [.agg [.int .u8 x7.1, .sl 9 x7.2.1, .sl 27 x7.2.2.1, .sl 5 x7.2.2.2.1, .bool x7.2.2.2.2.1, .flt .f64 x7.2.2.2.2.2.1, .str x7.2.2.2.2.2.2.1], .agg [.int .u8 x8.1, .sl 9 x8.2.1, .sl 27 x8.2.2.1, .sl 5 x8.2.2.2.1, .bool x8.2.2.2.2.1, .flt .f64 x8.2.2.2.2.2.1, .str x8.2.2.2.2.2.2.1]] h6).bind fun r9 =>
                      (cond (!r9.1)
                        (some (.bool false, r9.2))
                        (L41_0 n m s1 s2 s15 s16 (IntKind.wrap .i64 (s17 + 1)) r9.2)))))))))))
    (some (.bool true, h))) := by kernel_rfl
theorem f41_eq (n : Nat) (a0 : VS) (a1 : VS) (a2 : V) (h : VH) : bodyV P tab (vF P tab n) n 41 [.sl 27 a0, .sl 27 a1, a2] h =
  (cond ((((VS.len a0 : Nat) : Int) : Int) != ((VS.len a1 : Nat) : Int))
    (some (.bool false, h))
    (L41_0 n n a1 a2 a0 ((VS.len a0 : Nat) : Int) 0 h)) := by kernel_rfl
/-! godown/godownref01.Bytes -/
noncomputable def L42_0 (n m : Nat) (s0 : VS) (s1 : VS) (s5 : Int) (h : VH) : VRes := loopAt P tab 42 [1, 1, 0, 1, 0] n [] m [.sl 5 s0, .sl 5 s1, .undef, .undef, .undef, .int .i64 s5, .undef, .undef, .undef, .undef, .undef, .undef, .undef, .undef, .undef, .undef, .undef, .undef, .undef, .undef, .undef, .undef, .undef, .undef, .undef, .undef] h
theorem L42_0_eq (n m : Nat) (s0 : VS) (s1 : VS) (s5 : Int) (h : VH) : L42_0 n (m + 1) s0 s1 s5 h =
  (cond (decide ((s5 : Int) < ((VS.len s0 : Nat) : Int)))
    ((ixV 1 s0 s5).bind fun p1 =>
      ((ldV (.flat (.int .u8)) h p1).bind fun x2 =>
        ((ixV 1 s1 s5).bind fun p3 =>
          ((ldV (.flat (.int .u8)) h p3).bind fun x4 =>
            (cond ((x2 : Int) != x4)
              (some (.bool false, h))
              (L42_0 n m s0 s1 (IntKind.wrap .i64 (s5 + 1)) h))))))
    (some (.bool true, h))) := by kernel_rfl
theorem f42_eq (n : Nat) (a0 : VS) (a1 : VS) (h : VH) : bodyV P tab (vF P tab n) n 42 [.sl 5 a0, .sl 5 a1] h =
  (cond ((((VS.len a0 : Nat) : Int) : Int) != ((VS.len a1 : Nat) : Int))
    (some (.bool false, h))
    (L42_0 n n a0 a1 0 h)) := by kernel_rfl
/-! godown/godownref01.Texts -/
noncomputable def L43_0 (n m : Nat) (s0 : VS) (s1 : VS) (s5 : Int) (h : VH) : VRes := loopAt P tab 43 [1, 1, 0, 1, 0] n [] m [.sl 9 s0, .sl 9 s1, .undef, .undef, .undef, .int .i64 s5, .undef, .undef, .undef, .undef, .undef, .undef, .undef, .undef, .undef, .undef, .undef, .undef, .undef, .undef, .undef, .undef, .undef, .undef, .undef, .undef] h
theorem L43_0_eq (n m : Nat) (s0 : VS) (s1 : VS) (s5 : Int) (h : VH) : L43_0 n (m + 1) s0 s1 s5 h =
  (cond (decide ((s5 : Int) < ((VS.len s0 : Nat) : Int)))
    ((ixV 1 s0 s5).bind fun p1 =>
      ((ldV (.flat .str) h p1).bind fun x2 =>
        ((ixV 1 s1 s5).bind fun p3 =>
          ((ldV (.flat .str) h p3).bind fun x4 =>
            (cond (!(strEq x2 x4))
              (some (.bool false, h))
              (L43_0 n m s0 s1 (IntKind.wrap .i64 (s5 + 1)) h))))))
    (some (.bool true, h))) := by kernel_rfl
theorem f43_eq (n : Nat) (a0 : VS) (a1 : VS) (h : VH) : bodyV P tab (vF P tab n) n 43 [.sl 9 a0, .sl 9 a1] h =
  (cond ((((VS.len a0 : Nat) : Int) : Int) != ((VS.len a1 : Nat) : Int))
    (some (.bool false, h))
    (L43_0 n n a0 a1 0 h)) := by kernel_rfl
/-! godown/real.Canon -/
theorem f46_eq (n : Nat) (a0 : Nat) (h : VH) : bodyV P tab (vF P tab n) n 46 [.flt .f64 a0] h =
  ((pvD P .bool (binOp .neq 25 (.float .f64 a0) (.float .f64 a0))).bind fun x1 =>
    (cond x1
      ((pvD P (.flt .f64) (ext23 #[.int .u64 9221120237041090561])).bind fun x2 =>
        (some (.flt .f64 x2, h)))
      ((pvD P .bool (binOp .eql 25 (.float .f64 a0) (.float .f64 0))).bind fun x3 =>
        (cond x3
          (some (.flt .f64 0, h))
          (some (.flt .f64 a0, h)))))) := by kernel_rfl
/-! strings.Cut -/
theorem f48_eq (n : Nat) (a0 : ByteArray) (a1 : ByteArray) (h : VH) : bodyV P tab (vF P tab n) n 48 [.str a0, .str a1] h =
  ((callD (vF P tab n) P false (.tup [(.flat .str), (.flat .str), (.flat .bool)]) 58 [.str a0, .str a1] h).bind fun r1 =>
    (some (.tup [.str r1.1.1, .str r1.1.2.1, .bool r1.1.2.2.1], r1.2))) := by kernel_rfl
/-! slices.BinarySearch[[]string,string] -/
noncomputable def L49_0 (n m : Nat) (s0 : VS) (s1 : ByteArray) (s6 : Int) (s7 : Int) (s8 : Int) (h : VH) : VRes := loopAt P tab 49 [1, 1, 1, 0, 0] n [] m [.sl 9 s0, .str s1, .undef, .undef, .undef, .undef, .int .i64 s6, .int .i64 s7, .int .i64 s8, .undef, .undef, .undef, .undef, .undef, .undef, .undef, .undef, .undef, .undef, .undef, .undef, .undef, .undef, .undef, .undef, .undef, .undef, .undef, .undef, .undef, .undef, .undef, .undef, .undef, .undef, .undef, .undef, .undef, .undef, .undef, .undef, .undef, .undef, .undef, .undef, .undef, .undef, .undef, .undef, .undef, .undef, .undef, .undef, .undef] h
theorem L49_0_eq (n m : Nat) (s0 : VS) (s1 : ByteArray) (s6 : Int) (s7 : Int) (s8 : Int) (h : VH) : L49_0 n (m + 1) s0 s1 s6 s7 s8 h =
  (cond (decide ((s7 : Int) < s8))
    ((shrI .u64 (IntKind.wrap .u64 (IntKind.wrap .i64 (s7 + s8))) 1).bind fun x1 =>
      ((ixV 1 s0 (IntKind.wrap .i64 x1)).bind fun p2 =>
        ((ldV (.flat .str) h p2).bind fun x3 =>
          ((callD (vF P tab n) P false (.one (.flat .bool)) 59 [.str x3, .str s1] h).bind fun r4 =>
            (cond r4.1
              (L49_0 n m s0 s1 s6 (IntKind.wrap .i64 ((IntKind.wrap .i64 x1) + 1)) s8 r4.2)
              (L49_0 n m s0 s1 s6 s7 (IntKind.wrap .i64 x1) r4.2))))))
    (cond (decide ((s7 : Int) < s6))
      ((ixV 1 s0 s7).bind fun p5 =>
        ((ldV (.flat .str) h p5).bind fun x6 =>
          (cond (strEq x6 s1)
            (some (.tup [.int .i64 s7, .bool true], h))
            ((ixV 1 s0 s7).bind fun p7 =>
              ((ldV (.flat .str) h p7).bind fun x8 =>
                ((callD (vF P tab n) P false (.one (.flat .bool)) 60 [.str x8] h).bind fun r9 =>
                  (cond r9.1
                    ((callD (vF P tab n) P false (.one (.flat .bool)) 60 [.str s1] r9.2).bind fun r10 =>
                      (some (.tup [.int .i64 s7, .bool r10.1], r10.2)))
                    (some (.tup [.int .i64 s7, .bool false], r9.2)))))))))
      (some (.tup [.int .i64 s7, .bool false], h)))) := by kernel_rfl
theorem f49_eq (n : Nat) (a0 : VS) (a1 : ByteArray) (h : VH) : bodyV P tab (vF P tab n) n 49 [.sl 9 a0, .str a1] h =
  (L49_0 n n a0 a1 ((VS.len a0 : Nat) : Int) 0 ((VS.len a0 : Nat) : Int) h) := by kernel_rfl
/-! slices.ContainsFunc[[]godown/api.Node,godown/api.Node] -/
theorem f50_eq (n : Nat) (a0 : VS) (a1 : V) (h : VH) : bodyV P tab (vF P tab n) n 50 [.sl 27 a0, a1] h =
  ((callD (vF P tab n) P false (.one (.flat (.int .i64))) 61 [.sl 27 a0, a1] h).bind fun r1 =>
    (some (.bool (decide ((r1.1 : Int) ≥ 0)), r1.2))) := by kernel_rfl
/-! godown/tree.every$1 -/
theorem f51_eq (n : Nat) (a0_0 : Int) (a0_1 : VS) (a0_2 : VS) (a0_3 : VS) (a0_4 : Bool) (a0_5 : Nat) (a0_6 : ByteArray) (a1 : VP) (h : VH) : bodyV P tab (vF P tab n) n 51 [.agg [.int .u8 a0_0, .sl 9 a0_1, .sl 27 a0_2, .sl 5 a0_3, .bool a0_4, .flt .f64 a0_5, .str a0_6], .ptr a1] h =
  ((ldV (.agg [.int .u8, .slice 9, .slice 27, .slice 5, .bool, .flt .f64, .str]) (h ++ [.row (27 + boxK) [.int .u8 a0_0, .sl 9 a0_1, .sl 27 a0_2, .sl 5 a0_3, .bool a0_4, .flt .f64 a0_5, .str a0_6]]) (.ob h.length 0)).bind fun x1 =>
    ((ldV (.flat .any) (h ++ [.row (27 + boxK) [.int .u8 a0_0, .sl 9 a0_1, .sl 27 a0_2, .sl 5 a0_3, .bool a0_4, .flt .f64 a0_5, .str a0_6]]) a1).bind fun x2 =>
      ((callD (vF P tab n) P false (.one (.flat .bool)) 31 [.agg [.int .u8 x1.1, .sl 9 x1.2.1, .sl 27 x1.2.2.1, .sl 5 x1.2.2.2.1, .bool x1.2.2.2.2.1, .flt .f64 x1.2.2.2.2.2.1, .str x1.2.2.2.2.2.2.1], x2] (h ++ [.row (27 + boxK) [.int .u8 a0_0, .sl 9 a0_1, .sl 27 a0_2, .sl 5 a0_3, .bool a0_4, .flt .f64 a0_5, .str a0_6]])).bind fun r3 =>
        (some (.bool (!r3.1), r3.2))))) := by kernel_rfl
/-! godown/tree.bare -/
theorem f52_eq (n : Nat) (a0_0 : Int) (a0_1 : VS) (a0_2 : VS) (a0_3 : VS) (a0_4 : Bool) (a0_5 : Nat) (a0_6 : ByteArray) (h : VH) : bodyV P tab (vF P tab n) n 52 [.agg [.int .u8 a0_0, .sl 9 a0_1, .sl 27 a0_2, .sl 5 a0_3, .bool a0_4, .flt .f64 a0_5, .str a0_6]] h =
  ((ldV (.flat (.slice 9)) (h ++ [.row (27 + boxK) [.int .u8 a0_0, .sl 9 a0_1, .sl 27 a0_2, .sl 5 a0_3, .bool a0_4, .flt .f64 a0_5, .str a0_6]]) (.ob h.length 1)).bind fun x1 =>
    (cond (decide ((((VS.len x1 : Nat) : Int) : Int) > 0))
      ((ldV (.flat (.slice 5)) (h ++ [.row (27 + boxK) [.int .u8 a0_0, .sl 9 a0_1, .sl 27 a0_2, .sl 5 a0_3, .bool a0_4, .flt .f64 a0_5, .str a0_6]]) (.ob h.length 3)).bind fun x2 =>
        (cond (decide ((((VS.len x2 : Nat) : Int) : Int) > 0))
          ((ldV (.flat .str) (h ++ [.row (27 + boxK) [.int .u8 a0_0, .sl 9 a0_1, .sl 27 a0_2, .sl 5 a0_3, .bool a0_4, .flt .f64 a0_5, .str a0_6]]) (.ob h.length 6)).bind fun x3 =>
            ((ldV (.flat (.int .u8)) (h ++ [.row (27 + boxK) [.int .u8 a0_0, .sl 9 a0_1, .sl 27 a0_2, .sl 5 a0_3, .bool a0_4, .flt .f64 a0_5, .str a0_6]]) (.ob h.length 0)).bind fun x4 =>
              (cond ((x4 : Int) == 1)
                (some (.bool false, (h ++ [.row (27 + boxK) [.int .u8 a0_0, .sl 9 a0_1, .sl 27 a0_2, .sl 5 a0_3, .bool a0_4, .flt .f64 a0_5, .str a0_6]])))
                (cond ((x4 : Int) == 2)
                  (some (.bool false, (h ++ [.row (27 + boxK) [.int .u8 a0_0, .sl 9 a0_1, .sl 27 a0_2, .sl 5 a0_3, .bool a0_4, .flt .f64 a0_5, .str a0_6]])))
                  (cond ((x4 : Int) == 3)
                    (some (.bool false, (h ++ [.row (27 + boxK) [.int .u8 a0_0, .sl 9 a0_1, .sl 27 a0_2, .sl 5 a0_3, .bool a0_4, .flt .f64 a0_5, .str a0_6]])))
                    (some (.bool false, (h ++ [.row (27 + boxK) [.int .u8 a0_0, .sl 9 a0_1, .sl 27 a0_2, .sl 5 a0_3, .bool a0_4, .flt .f64 a0_5, .str a0_6]]))))))))
          ((ldV (.flat .bool) (h ++ [.row (27 + boxK) [.int .u8 a0_0, .sl 9 a0_1, .sl 27 a0_2, .sl 5 a0_3, .bool a0_4, .flt .f64 a0_5, .str a0_6]]) (.ob h.length 4)).bind fun x5 =>
            (cond x5
              ((ldV (.flat .str) (h ++ [.row (27 + boxK) [.int .u8 a0_0, .sl 9 a0_1, .sl 27 a0_2, .sl 5 a0_3, .bool a0_4, .flt .f64 a0_5, .str a0_6]]) (.ob h.length 6)).bind fun x6 =>
                ((ldV (.flat (.int .u8)) (h ++ [.row (27 + boxK) [.int .u8 a0_0, .sl 9 a0_1, .sl 27 a0_2, .sl 5 a0_3, .bool a0_4, .flt .f64 a0_5, .str a0_6]]) (.ob h.length 0)).bind fun x7 =>
                  (cond ((x7 : Int) == 1)
                    (some (.bool false, (h ++ [.row (27 + boxK) [.int .u8 a0_0, .sl 9 a0_1, .sl 27 a0_2, .sl 5 a0_3, .bool a0_4, .flt .f64 a0_5, .str a0_6]])))
                    (cond ((x7 : Int) == 2)
                      (some (.bool false, (h ++ [.row (27 + boxK) [.int .u8 a0_0, .sl 9 a0_1, .sl 27 a0_2, .sl 5 a0_3, .bool a0_4, .flt .f64 a0_5, .str a0_6]])))
                      (cond ((x7 : Int) == 3)
                        (some (.bool false, (h ++ [.row (27 + boxK) [.int .u8 a0_0, .sl 9 a0_1, .sl 27 a0_2, .sl 5 a0_3, .bool a0_4, .flt .f64 a0_5, .str a0_6]])))
                        (some (.bool false, (h ++ [.row (27 + boxK) [.int .u8 a0_0, .sl 9 a0_1, .sl 27 a0_2, .sl 5 a0_3, .bool a0_4, .flt .f64 a0_5, .str a0_6]]))))))))
              ((ldV (.flat (.flt .f64)) (h ++ [.row (27 + boxK) [.int .u8 a0_0, .sl 9 a0_1, .sl 27 a0_2, .sl 5 a0_3, .bool a0_4, .flt .f64 a0_5, .str a0_6]]) (.ob h.length 5)).bind fun x8 =>
                ((callD (vF P tab n) P false (.one (.flat (.int .u64))) 57 [.flt .f64 x8] (h ++ [.row (27 + boxK) [.int .u8 a0_0, .sl 9 a0_1, .sl 27 a0_2, .sl 5 a0_3, .bool a0_4, .flt .f64 a0_5, .str a0_6]])).bind fun r9 =>
                  ((ldV (.flat .str) r9.2 (.ob h.length 6)).bind fun x10 =>
                    ((ldV (.flat (.int .u8)) r9.2 (.ob h.length 0)).bind fun x11 =>
                      (cond ((x11 : Int) == 1)
                        (cond (!((r9.1 : Int) != 0))
                        (some (.bool (!(!(strEq x10 ⟨#[]⟩))), r9.2))
                        (some (.bool false, r9.2)))
                        (cond ((x11 : Int) == 2)
                        (some (.bool false, r9.2))
                        (cond ((x11 : Int) == 3)
                        (some (.bool false, r9.2))
                        (some (.bool false, r9.2)))))))))))))
      ((ldV (.flat (.slice 27)) (h ++ [.row (27 + boxK) [.int .u8 a0_0, .sl 9 a0_1, .sl 27 a0_2, .sl 5 a0_3, .bool a0_4, .flt .f64 a0_5, .str a0_6]]) (.ob h.length 2)).bind fun x12 =>
        ((ldV (.flat (.slice 5)) (h ++ [.row (27 + boxK) [.int .u8 a0_0, .sl 9 a0_1, .sl 27 a0_2, .sl 5 a0_3, .bool a0_4, .flt .f64 a0_5, .str a0_6]]) (.ob h.length 3)).bind fun x13 =>
          (cond (decide ((((VS.len x13 : Nat) : Int) : Int) > 0))
            ((ldV (.flat .str) (h ++ [.row (27 + boxK) [.int .u8 a0_0, .sl 9 a0_1, .sl 27 a0_2, .sl 5 a0_3, .bool a0_4, .flt .f64 a0_5, .str a0_6]]) (.ob h.length 6)).bind fun x14 =>
              ((ldV (.flat (.int .u8)) (h ++ [.row (27 + boxK) [.int .u8 a0_0, .sl 9 a0_1, .sl 27 a0_2, .sl 5 a0_3, .bool a0_4, .flt .f64 a0_5, .str a0_6]]) (.ob h.length 0)).bind fun x15 =>
                (cond ((x15 : Int) == 1)
                  (some (.bool false, (h ++ [.row (27 + boxK) [.int .u8 a0_0, .sl 9 a0_1, .sl 27 a0_2, .sl 5 a0_3, .bool a0_4, .flt .f64 a0_5, .str a0_6]])))
                  (cond ((x15 : Int) == 2)
                    (cond (!(decide ((((VS.len x12 : Nat) : Int) : Int) > 0)))
                      (some (.bool (!(!(strEq x14 ⟨#[]⟩))), (h ++ [.row (27 + boxK) [.int .u8 a0_0, .sl 9 a0_1, .sl 27 a0_2, .sl 5 a0_3, .bool a0_4, .flt .f64 a0_5, .str a0_6]])))
                      (some (.bool false, (h ++ [.row (27 + boxK) [.int .u8 a0_0, .sl 9 a0_1, .sl 27 a0_2, .sl 5 a0_3, .bool a0_4, .flt .f64 a0_5, .str a0_6]]))))
                    (cond ((x15 : Int) == 3)
                      (cond (!(decide ((((VS.len x12 : Nat) : Int) : Int) > 0)))
                        (some (.bool false, (h ++ [.row (27 + boxK) [.int .u8 a0_0, .sl 9 a0_1, .sl 27 a0_2, .sl 5 a0_3, .bool a0_4, .flt .f64 a0_5, .str a0_6]])))
                        (some (.bool false, (h ++ [.row (27 + boxK) [.int .u8 a0_0, .sl 9 a0_1, .sl 27 a0_2, .sl 5 a0_3, .bool a0_4, .flt .f64 a0_5, .str a0_6]]))))
                      (some (.bool false, (h ++ [.row (27 + boxK) [.int .u8 a0_0, .sl 9 a0_1, .sl 27 a0_2, .sl 5 a0_3, .bool a0_4, .flt .f64 a0_5, .str a0_6]]))))))))
            ((ldV (.flat .bool) (h ++ [.row (27 + boxK) [.int .u8 a0_0, .sl 9 a0_1, .sl 27 a0_2, .sl 5 a0_3, .bool a0_4, .flt .f64 a0_5, .str a0_6]]) (.ob h.length 4)).bind fun x16 =>
              (cond x16
                ((ldV (.flat .str) (h ++ [.row (27 + boxK) [.int .u8 a0_0, .sl 9 a0_1, .sl 27 a0_2, .sl 5 a0_3, .bool a0_4, .flt .f64 a0_5, .str a0_6]]) (.ob h.length 6)).bind fun x17 =>
                  ((ldV (.flat (.int .u8)) (h ++ [.row (27 + boxK) [.int .u8 a0_0, .sl 9 a0_1, .sl 27 a0_2, .sl 5 a0_3, .bool a0_4, .flt .f64 a0_5, .str a0_6]]) (.ob h.length 0)).bind fun x18 =>
                    (cond ((x18 : Int) == 1)
                      (some (.bool false, (h ++ [.row (27 + boxK) [.int .u8 a0_0, .sl 9 a0_1, .sl 27 a0_2, .sl 5 a0_3, .bool a0_4, .flt .f64 a0_5, .str a0_6]])))
                      (cond ((x18 : Int) == 2)
                        (cond (!(decide ((((VS.len x12 : Nat) : Int) : Int) > 0)))
                        (some (.bool (!(!(strEq x17 ⟨#[]⟩))), (h ++ [.row (27 + boxK) [.int .u8 a0_0, .sl 9 a0_1, .sl 27 a0_2, .sl 5 a0_3, .bool a0_4, .flt .f64 a0_5, .str a0_6]])))
                        (some (.bool false, (h ++ [.row (27 + boxK) [.int .u8 a0_0, .sl 9 a0_1, .sl 27 a0_2, .sl 5 a0_3, .bool a0_4, .flt .f64 a0_5, .str a0_6]]))))
                        (cond ((x18 : Int) == 3)
                        (cond (!(decide ((((VS.len x12 : Nat) : Int) : Int) > 0)))
                        (some (.bool false, (h ++ [.row (27 + boxK) [.int .u8 a0_0, .sl 9 a0_1, .sl 27 a0_2, .sl 5 a0_3, .bool a0_4, .flt .f64 a0_5, .str a0_6]])))
                        (some (.bool false, (h ++ [.row (27 + boxK) [.int .u8 a0_0, .sl 9 a0_1, .sl 27 a0_2, .sl 5 a0_3, .bool a0_4, .flt .f64 a0_5, .str a0_6]]))))
                        (some (.bool false, (h ++ [.row (27 + boxK) [.int .u8 a0_0, .sl 9 a0_1, .sl 27 a0_2, .sl 5 a0_3, .bool a0_4, .flt .f64 a0_5, .str a0_6]]))))))))
                ((ldV (.flat (.flt .f64)) (h ++ [.row (27 + boxK) [.int .u8 a0_0, .sl 9 a0_1, .sl 27 a0_2, .sl 5 a0_3, .bool a0_4, .flt .f64 a0_5, .str a0_6]]) (.ob h.length 5)).bind fun x19 =>
                  ((callD (vF P tab n) P false (.one (.flat (.int .u64))) 57 [.flt .f64 x19] (h ++ [.row (27 + boxK) [.int .u8 a0_0, .sl 9 a0_1, .sl 27 a0_2, .sl 5 a0_3, .bool a0_4, .flt .f64 a0_5, .str a0_6]])).bind fun r20 =>
                    ((ldV (.flat .str) r20.2 (.ob h.length 6)).bind fun x21 =>
                      ((ldV (.flat (.int .u8)) r20.2 (.ob h.length 0)).bind fun x22 =>
                        (cond ((x22 : Int) == 1)
                        (cond (!((r20.1 : Int) != 0))
                        (some (.bool (!(!(strEq x21 ⟨#[]⟩))), r20.2))
                        (some (.bool false, r20.2)))
                        (cond ((x22 : Int) == 2)
                        (cond (!(decide ((((VS.len x12 : Nat) : Int) : Int) > 0)))
                        (some (.bool (!(!(strEq x21 ⟨#[]⟩))), r20.2))
                        (some (.bool false, r20.2)))
                        (cond ((x22 : Int) == 3)
                        (cond (!(decide ((((VS.len x12 : Nat) : Int) : Int) > 0)))
                        (some (.bool (!((r20.1 : Int) != 0)), r20.2))
                        (some (.bool false, r20.2)))
                        (some (.bool false, r20.2)))))))))))))))) := by kernel_rfl
/-! godown/tree.rising -/
noncomputable def L53_0 (n m : Nat) (s0 : VS) (s5 : VS) (s6 : Int) (s7 : Int) (h : VH) : VRes := loopAt P tab 53 [1, 0, 1, 0] n [] m [.sl 9 s0, .undef, .undef, .undef, .undef, .sl 9 s5, .int .i64 s6, .int .i64 s7, .undef, .undef, .undef, .undef, .undef, .undef, .undef, .undef, .undef, .undef, .undef, .undef, .undef, .undef, .undef, .undef, .undef, .undef, .undef, .undef, .undef] h
theorem L53_0_eq (n m : Nat) (s0 : VS) (s5 : VS) (s6 : Int) (s7 : Int) (h : VH) : L53_0 n (m + 1) s0 s5 s6 s7 h =
  (cond (decide ((s7 : Int) < s6))
    ((ixV 1 s5 s7).bind fun p1 =>
      ((ldV (.flat .str) h p1).bind fun x2 =>
        ((callD (vF P tab n) P false (.one (.flat .bool)) 62 [.str x2] h).bind fun r3 =>
          (cond (!r3.1)
            (some (.bool false, r3.2))
            (cond (decide ((s7 : Int) > 0))
              ((ixV 1 s0 (IntKind.wrap .i64 (s7 - 1))).bind fun p4 =>
                ((ldV (.flat .str) r3.2 p4).bind fun x5 =>
                  (cond (!(strLt x5 x2))
                    (some (.bool false, r3.2))
                    (L53_0 n m s0 s5 s6 (IntKind.wrap .i64 (s7 + 1)) r3.2))))
              (L53_0 n m s0 s5 s6 (IntKind.wrap .i64 (s7 + 1)) r3.2))))))
    (some (.bool true, h))) := by kernel_rfl
theorem f53_eq (n : Nat) (a0 : VS) (h : VH) : bodyV P tab (vF P tab n) n 53 [.sl 9 a0] h =
  (L53_0 n n a0 a0 ((VS.len a0 : Nat) : Int) 0 h) := by kernel_rfl
/-! godown/tree.walk$1 -/
theorem f55_eq (n : Nat) (a0_0 : Int) (a0_1 : VS) (a0_2 : VS) (a0_3 : VS) (a0_4 : Bool) (a0_5 : Nat) (a0_6 : ByteArray) (a1 : VP) (h : VH) : bodyV P tab (vF P tab n) n 55 [.agg [.int .u8 a0_0, .sl 9 a0_1, .sl 27 a0_2, .sl 5 a0_3, .bool a0_4, .flt .f64 a0_5, .str a0_6], .ptr a1] h =
  ((ldV (.flat .any) (h ++ [.row (27 + boxK) [.int .u8 a0_0, .sl 9 a0_1, .sl 27 a0_2, .sl 5 a0_3, .bool a0_4, .flt .f64 a0_5, .str a0_6]]) a1).bind fun x1 =>
    ((ldV (.agg [.int .u8, .slice 9, .slice 27, .slice 5, .bool, .flt .f64, .str]) (h ++ [.row (27 + boxK) [.int .u8 a0_0, .sl 9 a0_1, .sl 27 a0_2, .sl 5 a0_3, .bool a0_4, .flt .f64 a0_5, .str a0_6]]) (.ob h.length 0)).bind fun x2 =>
      ((dynD P (env tab (vF P tab n) 55) 0 (some x1) [.agg [.int .u8 x2.1, .sl 9 x2.2.1, .sl 27 x2.2.2.1, .sl 5 x2.2.2.2.1, .bool x2.2.2.2.2.1, .flt .f64 x2.2.2.2.2.2.1, .str x2.2.2.2.2.2.2.1]] (h ++ [.row (27 + boxK) [.int .u8 a0_0, .sl 9 a0_1, .sl 27 a0_2, .sl 5 a0_3, .bool a0_4, .flt .f64 a0_5, .str a0_6]])).bind fun r3 =>
        (some (.bool true, r3.2))))) := by kernel_rfl
/-! godown/godownref05.title -/
theorem f56_eq (n : Nat) (a0 : Int) (h : VH) : bodyV P tab (vF P tab n) n 56 [.int .u8 a0] h =
  ((remI a0 26).bind fun x1 =>
    ((quoI .u8 a0 26).bind fun x2 =>
      ((strV h 5 (.fz [[.int .u8 (IntKind.wrap .u8 (97 + x1))], [.int .u8 (IntKind.wrap .u8 (97 + x2))]] (.ex 2))).bind fun z3 =>
        (some (.str z3, h))))) := by kernel_rfl
/-! godown/real.Bits -/
theorem f57_eq (n : Nat) (a0 : Nat) (h : VH) : bodyV P tab (vF P tab n) n 57 [.flt .f64 a0] h =
  ((callD (vF P tab n) P false (.one (.flat (.flt .f64))) 46 [.flt .f64 a0] h).bind fun r1 =>
    ((pvD P (.int .u64) (ext28 #[.float .f64 r1.1])).bind fun x2 =>
      (some (.int .u64 x2, r1.2)))) := by kernel_rfl
/-! internal/stringslite.Cut -/
theorem f58_eq (n : Nat) (a0 : ByteArray) (a1 : ByteArray) (h : VH) : bodyV P tab (vF P tab n) n 58 [.str a0, .str a1] h =
  ((callD (vF P tab n) P false (.one (.flat (.int .i64))) 63 [.str a0, .str a1] h).bind fun r1 =>
    (cond (decide ((r1.1 : Int) ≥ 0))
      ((cutS a0 none (some r1.1)).bind fun z2 =>
        ((cutS a0 (some (IntKind.wrap .i64 (r1.1 + ((a1).size : Int)))) none).bind fun z3 =>
          (some (.tup [.str z2, .str z3, .bool true], r1.2))))
      (some (.tup [.str a0, .str ⟨#[]⟩, .bool false], r1.2)))) := by kernel_rfl
/-! cmp.Less[string] -/
theorem f59_eq (n : Nat) (a0 : ByteArray) (a1 : ByteArray) (h : VH) : bodyV P tab (vF P tab n) n 59 [.str a0, .str a1] h =
  ((callD (vF P tab n) P false (.one (.flat .bool)) 64 [.str a0] h).bind fun r1 =>
    (cond r1.1
      ((callD (vF P tab n) P false (.one (.flat .bool)) 64 [.str a1] r1.2).bind fun r2 =>
        (cond (!r2.1)
          (some (.bool true, r2.2))
          (some (.bool (strLt a0 a1), r2.2))))
      (some (.bool (strLt a0 a1), r1.2)))) := by kernel_rfl
/-! slices.isNaN[string] -/
theorem f60_eq (n : Nat) (a0 : ByteArray) (h : VH) : bodyV P tab (vF P tab n) n 60 [.str a0] h =
  (some (.bool (!(strEq a0 a0)), h)) := by kernel_rfl
/-! slices.IndexFunc[[]godown/api.Node,godown/api.Node] -/
noncomputable def L61_0 (n m : Nat) (s0 : VS) (s1 : V) (s7 : Int) (s8 : Int) (h : VH) : VRes := loopAt P tab 61 [1, 0, 1, 0] n [] m [.sl 27 s0, s1, .undef, .undef, .undef, .undef, .undef, .int .i64 s7, .int .i64 s8, .undef, .undef, .undef, .undef, .undef, .undef, .undef, .undef, .undef, .undef] h
theorem L61_0_eq (n m : Nat) (s0 : VS) (s1 : V) (s7 : Int) (s8 : Int) (h : VH) : L61_0 n (m + 1) s0 s1 s7 s8 h =
  (cond (decide ((s8 : Int) < s7))
    ((ixV 7 s0 s8).bind fun p1 =>
      ((ldV (.agg [.int .u8, .slice 9, .slice 27, .slice 5, .bool, .flt .f64, .str]) h p1).bind fun x2 =>
        ((dynD P (env tab (vF P tab n) 61) 4 (some s1) [.agg [.int .u8 x2.1, .sl 9 x2.2.1, .sl 27 x2.2.2.1, .sl 5 x2.2.2.2.1, .bool x2.2.2.2.2.1, .flt .f64 x2.2.2.2.2.2.1, .str x2.2.2.2.2.2.2.1]] h).bind fun r3 =>
          (cond r3.1
            (some (.int .i64 s8, r3.2))
            (L61_0 n m s0 s1 s7 (IntKind.wrap .i64 (s8 + 1)) r3.2)))))
    (some (.int .i64 (-1), h))) := by kernel_rfl
theorem f61_eq (n : Nat) (a0 : VS) (a1 : V) (h : VH) : bodyV P tab (vF P tab n) n 61 [.sl 27 a0, a1] h =
  (L61_0 n n a0 a1 ((VS.len a0 : Nat) : Int) 0 h) := by kernel_rfl
/-! godown/tree.name -/
theorem f62_eq (n : Nat) (a0 : ByteArray) (h : VH) : bodyV P tab (vF P tab n) n 62 [.str a0] h =
  (cond (decide ((((a0).size : Int) : Int) ≥ 1))
    (cond (decide ((((a0).size : Int) : Int) ≤ 40))
      (cond (!(strEq a0 ⟨#[46]⟩))
        (cond (!(strEq a0 ⟨#[46, 46]⟩))
          ((callD (vF P tab n) P false (.one (.flat .bool)) 65 [.str a0, .str ⟨#[47, 0]⟩] h).bind fun r1 =>
            (some (.bool (!r1.1), r1.2)))
          (some (.bool false, h)))
        (some (.bool false, h)))
      (some (.bool false, h)))
    (some (.bool false, h))) := by kernel_rfl
/-! cmp.isNaN[string] -/
theorem f64_eq (n : Nat) (a0 : ByteArray) (h : VH) : bodyV P tab (vF P tab n) n 64 [.str a0] h =
  (some (.bool (!(strEq a0 a0)), h)) := by kernel_rfl
end Go.Proofs.Ytmpobijkbmljdaa
