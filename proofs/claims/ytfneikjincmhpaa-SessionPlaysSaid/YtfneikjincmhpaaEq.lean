import Derived.Test.YtfneikjincmhpaaVc
import Derived.Test.YtfneikjincmhpaaProg
set_option maxRecDepth 100000
set_option maxHeartbeats 0
set_option linter.unusedVariables false
set_option linter.unusedSimpArgs false
namespace Go.Proofs.Ytfneikjincmhpaa
open Go.Proofs.Ytfneikjincmhpaa.Sh Go.Proofs.Ytfneikjincmhpaa.Sh.V
def notes : List (Nat × Notes) := [(3, ⟨[], [(9, [0, 2, 3, 4, 6, 8, 9, 10, 11, 12, 13, 14, 15, 16, 17, 18, 19, 20, 21, 22, 23, 24, 25, 26, 27, 28, 29, 30, 31, 32, 33, 34, 35, 36, 37, 38, 39, 40, 41, 42, 43, 44, 45, 46, 47, 48, 49, 50, 51, 52, 53, 54, 55, 56, 57, 58, 59, 60, 61, 62, 63, 64, 65, 66, 67, 68, 69, 70, 71, 72, 73, 74, 75, 76, 77, 78, 79, 80])], []⟩),
  (4, ⟨[], [(5, [2, 3, 4, 7, 8, 9, 10, 11, 12, 13, 14, 15, 16, 17, 18, 19, 20, 21, 22, 23, 24, 25, 26, 27, 28, 29, 30, 31, 32, 33, 34, 35, 36, 37, 38, 39, 40, 41, 42, 43, 44, 45, 46, 47, 48, 49, 50, 51, 52, 53, 54, 55, 56, 57, 58, 59, 60, 61, 62, 63, 64, 65, 66, 67, 68, 69, 70, 71, 72, 73, 74, 75, 76, 77, 78, 79, 80, 81, 82, 83, 84, 85, 86, 87, 88, 89, 90, 91, 92, 93, 94, 95, 96, 97, 98, 99, 100, 101, 102, 103, 104, 105, 106, 107, 108, 109, 110, 111, 112, 113, 114, 115]), (13, [1, 2, 3, 4, 6, 10, 11, 12, 13, 14, 15, 16, 17, 18, 19, 20, 21, 22, 23, 24, 25, 26, 27, 28, 29, 30, 31, 32, 33, 34, 35, 36, 37, 38, 39, 40, 41, 42, 43, 44, 45, 46, 47, 48, 49, 50, 51, 52, 53, 54, 55, 56, 57, 58, 59, 60, 61, 62, 63, 64, 65, 66, 67, 68, 69, 70, 71, 72, 73, 74, 75, 76, 77, 78, 79, 80, 81, 82, 83, 84, 85, 86, 87, 88, 89, 90, 91, 92, 93, 94, 95, 96, 97, 98, 99, 100, 101, 102, 103, 104, 105, 106, 107, 108, 109, 110, 111, 112, 113, 114, 115]), (21, [1, 2, 3, 4, 5, 6, 8, 9, 10, 12, 13, 14, 15, 16, 17, 18, 19, 20, 21, 22, 23, 24, 25, 26, 27, 28, 29, 30, 31, 32, 33, 34, 35, 36, 37, 38, 39, 40, 41, 42, 43, 44, 45, 46, 47, 48, 49, 50, 51, 52, 53, 54, 55, 56, 57, 58, 59, 60, 61, 62, 63, 64, 65, 66, 67, 68, 69, 70, 71, 72, 73, 74, 75, 76, 77, 78, 79, 80, 81, 82, 83, 84, 85, 86, 87, 88, 89, 90, 91, 92, 93, 94, 95, 96, 97, 98, 99, 100, 101, 102, 103, 104, 105, 106, 107, 108, 109, 110, 111, 112, 113, 114, 115])], []⟩),
  (5, ⟨[], [(8, [0, 2, 3, 4, 9, 10, 11, 12, 13, 14, 15, 16, 17, 18, 19, 20, 21, 22, 23, 24, 25, 26, 27, 28, 29, 30, 31, 32, 33, 34, 35, 36, 37, 38, 39, 40, 41, 42, 43, 44, 45, 46, 47, 48, 49, 50, 51, 52, 53, 54, 55, 56, 57, 58, 59, 60, 61, 62, 63, 64, 65, 66, 67, 68, 69, 70, 71, 72, 73, 74, 75, 76, 77, 78, 79, 80, 81, 82, 83, 84, 85, 86, 87, 88, 89, 90, 91, 92, 93, 94, 95, 96, 97, 98, 99, 100, 101, 102, 103, 104, 105, 106, 107, 108, 109, 110, 111, 112, 113, 114, 115, 116, 117, 118]), (18, [0, 2, 3, 4, 8, 11, 13, 14, 16, 17, 18, 19, 20, 21, 22, 23, 24, 25, 26, 27, 28, 29, 30, 31, 32, 33, 34, 35, 36, 37, 38, 39, 40, 41, 42, 43, 44, 45, 46, 47, 48, 49, 50, 51, 52, 53, 54, 55, 56, 57, 58, 59, 60, 61, 62, 63, 64, 65, 66, 67, 68, 69, 70, 71, 72, 73, 74, 75, 76, 77, 78, 79, 80, 81, 82, 83, 84, 85, 86, 87, 88, 89, 90, 91, 92, 93, 94, 95, 96, 97, 98, 99, 100, 101, 102, 103, 104, 105, 106, 107, 108, 109, 110, 111, 112, 113, 114, 115, 116, 117, 118]), (25, [0, 2, 3, 4, 8, 11, 12, 13, 14, 15, 16, 17, 19, 20, 21, 22, 23, 24, 25, 26, 27, 28, 29, 30, 31, 32, 33, 34, 35, 36, 37, 38, 39, 40, 41, 42, 43, 44, 45, 46, 47, 48, 49, 50, 51, 52, 53, 54, 55, 56, 57, 58, 59, 60, 61, 62, 63, 64, 65, 66, 67, 68, 69, 70, 71, 72, 73, 74, 75, 76, 77, 78, 79, 80, 81, 82, 83, 84, 85, 86, 87, 88, 89, 90, 91, 92, 93, 94, 95, 96, 97, 98, 99, 100, 101, 102, 103, 104, 105, 106, 107, 108, 109, 110, 111, 112, 113, 114, 115, 116, 117, 118])], []⟩),
  (6, ⟨[(11, .order [(0, true), (1, true), (2, true), (3, true), (4, true), (7, true), (8, true), (9, true), (10, true), (11, true), (5, false), (6, false), (12, false), (13, false), (14, true)]), (23, .order [(0, true), (1, true), (2, true), (3, true), (4, true), (5, true), (6, true), (7, true), (8, true), (9, true), (10, true), (11, true), (12, true), (13, true), (14, false), (15, false)]), (28, .order [(0, true), (3, true), (4, true), (5, true), (6, true), (1, false), (2, true), (7, true), (8, true), (9, true), (11, true), (12, true), (13, true), (14, true), (15, true), (10, false), (16, true), (17, true)])], [(8, [1, 2, 3, 4, 8, 9, 10, 11, 12, 13, 14, 15, 16, 17, 18, 19, 20, 21, 22, 23, 24, 25, 26, 27, 28, 29, 30, 31, 32, 33, 34, 35, 36, 37, 38, 39, 40, 41, 42, 43, 44, 45, 46, 47, 48, 49, 50, 51, 52, 53, 54, 55, 56, 57, 58, 59, 60, 61, 62, 63, 64, 65, 66, 67, 68, 69, 70, 71, 72, 73, 74, 75, 76, 77, 78, 79, 80, 81, 82, 83, 84, 85, 86, 87, 88, 89, 90, 91, 92, 93, 94, 95, 96, 97, 98, 99, 100, 101, 102, 103, 104, 105, 106, 107, 108, 109, 110, 111, 112, 113, 114, 115, 116, 117, 118, 119, 120, 121, 122, 123, 124, 125, 126, 127, 128, 129, 130, 131, 132, 133, 134, 135, 136, 137, 138, 139, 140, 141, 142, 143, 144, 145, 146, 147, 148, 149, 150, 151, 152, 153, 154, 155, 156])], []⟩),
  (7, ⟨[], [(9, [0, 3, 4, 5, 6, 11, 12, 13, 14, 15, 16, 17, 18, 19, 20, 21, 22, 23, 24, 25, 26, 27, 28, 29, 30, 31, 32, 33, 34, 35, 36, 37, 38, 39, 40, 41, 42, 43, 44, 45, 46, 47, 48, 49, 50, 51, 52, 53, 54, 55, 56, 57, 58, 59, 60, 61, 62, 63, 64, 65, 66, 67, 68, 69, 70, 71, 72, 73, 74, 75, 76, 77, 78, 79, 80, 81, 82, 83, 84, 85, 86, 87, 88, 89, 90, 91, 92, 93, 94, 95, 96, 97, 98, 99, 100, 101, 102, 103, 104, 105, 106, 107, 108])], []⟩),
  (10, ⟨[], [(2, [1, 2, 4, 5, 6, 7, 8, 9, 10, 11, 12, 13, 14, 15, 16, 17, 18, 19])], []⟩),
  (12, ⟨[], [(5, [1, 2, 3, 4, 6, 7, 8, 9, 10, 11, 12, 13, 14, 15, 16, 20, 21, 22, 23, 24, 25, 26, 27, 28, 29, 30, 31, 32, 33, 34, 35, 36, 37, 38, 39, 40, 41, 42, 43])], []⟩),
  (17, ⟨[], [(4, [2, 3, 4, 6, 7, 8, 9, 10, 11, 12, 13, 14, 15, 16, 17, 18, 19, 20, 21, 22, 23, 24, 25])], []⟩),
  (19, ⟨[(11, .order [(0, true), (2, true), (3, true), (4, true), (5, true), (6, true), (7, true), (8, true), (1, false), (9, true), (10, true)])], [], []⟩),
  (22, ⟨[], [(2, [1, 2, 3, 4, 6, 7, 8, 9, 10, 11, 12, 13, 14, 15, 16, 17, 18, 19, 20, 21, 22, 23, 24, 25, 26, 27, 28, 29, 30, 31, 32, 33, 34, 35, 36, 37, 38, 39, 40, 41, 42, 43, 44, 45, 46, 47, 48])], []⟩),
  (24, ⟨[(1, .order [(0, true), (1, true), (2, true), (3, false), (4, true), (5, true), (6, true), (7, true), (8, true), (9, false), (10, true), (11, true), (12, true), (13, true), (14, true), (15, true), (16, false), (17, true), (18, true), (19, true), (20, true), (21, true), (23, true), (24, true), (22, false), (25, false), (26, true), (27, true), (28, true), (29, true), (30, true), (31, true), (32, false), (33, false), (34, true), (35, true), (36, true), (37, true), (38, true), (39, false), (40, false), (41, true), (42, true)])], [], []⟩),
  (25, ⟨[], [(6, [1, 2, 3, 4, 6, 9, 10, 11, 12, 13, 14, 15, 16, 17, 18, 19, 20, 21, 22, 23, 24, 25, 26, 27, 28, 29, 30, 31, 32, 33, 34, 35, 36, 37, 38, 39, 40, 41, 42, 43, 44, 45, 46, 47, 48, 49, 50, 51, 52, 53, 54, 55, 56, 57, 58, 59, 60, 61, 62, 63, 64, 65, 66, 67, 68, 69, 70, 71, 72, 73, 74, 75, 76, 77, 78, 79, 80, 81, 82, 83, 84, 85, 86, 87, 88, 89, 90, 91, 92, 93, 94, 95, 96, 97, 98, 99, 100, 101, 102, 103, 104, 105, 106, 107, 108, 109, 110, 111, 112])], []⟩),
  (29, ⟨[(2, .order [(0, true), (1, true), (2, true), (3, true), (4, true), (5, false), (6, false), (7, false), (8, false), (9, true), (10, true), (11, false)])], [], []⟩),
  (30, ⟨[(2, .order [(0, true), (1, true), (2, true), (3, true), (4, true), (5, false), (6, false), (7, false), (8, false), (9, true), (10, true), (11, false)])], [], []⟩),
  (33, ⟨[], [(6, [1, 2, 3, 4, 6, 7, 8, 9, 10, 11, 12, 13, 14, 15, 16, 17, 18, 19, 20, 21, 22, 23, 24, 25, 26, 27, 28, 29, 30, 31, 32, 33, 34, 35])], []⟩),
  (38, ⟨[], [(3, [1, 2, 5, 6, 7, 8, 9, 10, 11, 12, 13, 14, 15, 16, 17, 18])], []⟩),
  (41, ⟨[], [(3, [1, 2, 5, 6, 7, 8, 9, 10, 11, 12, 13, 14, 15, 16, 17, 18, 19, 20, 21, 22])], []⟩),
  (42, ⟨[], [(4, [0, 1, 2, 3, 4, 8, 9, 10, 11, 12, 13, 14, 15, 16, 17, 18, 19, 20, 21, 22, 23, 24, 25])], []⟩),
  (45, ⟨[], [(6, [1, 2, 3, 4, 8, 9, 10, 11, 12, 13, 14, 15, 16, 17, 18, 19, 20, 21, 22, 23, 24, 25, 26, 27, 28, 29, 30, 31, 32, 33, 34, 35, 36, 37, 38, 39, 40, 41])], []⟩),
  (47, ⟨[], [(4, [2, 3, 4, 6, 7, 8, 9, 10, 11, 12, 13, 14, 15, 16, 17, 18, 19, 20, 21, 22, 23, 24, 25])], []⟩),
  (49, ⟨[(5, .order [(0, true), (1, true), (2, true), (3, true), (5, true), (7, true), (8, true), (10, true), (11, true), (14, true), (15, true), (16, true), (18, true), (19, true), (4, false), (6, false), (9, false), (12, false), (13, false), (17, false), (20, false), (21, false), (22, true)])], [], []⟩),
  (59, ⟨[], [(2, [2, 3, 4, 6, 7, 8, 9, 10, 11, 12, 13, 14, 15, 16, 17])], []⟩),
  (61, ⟨[], [(3, [1, 2, 3, 4, 5, 6, 7, 8, 9, 10, 11, 15, 16, 17, 18, 19, 20, 21, 22])], []⟩),
  (66, ⟨[], [(3, [0, 1, 2, 3, 4, 6, 7, 8, 9, 13, 14, 15, 16, 17, 18, 19, 20, 21, 22])], []⟩)]
noncomputable abbrev P : Program := Try.prog
def reach : List Nat := [3, 4, 5, 6, 7, 8, 9, 10, 11, 12, 13, 14, 15, 16, 17, 18, 19, 20, 21, 22, 23, 24, 25, 26, 27, 28, 29, 30, 31, 32, 33, 34, 35, 36, 37, 38, 39, 40, 41, 42, 43, 44, 45, 46, 47, 48, 49, 50, 51, 53, 55, 56, 57, 58, 59, 60, 61, 62, 63, 64, 65, 66, 67, 68, 69]
def noteOf (f : FuncId) : Notes := (find notes f).getD ⟨[], [], []⟩
noncomputable def tab : VTab := mkV P noteOf reach [] (fun f => !among [3, 4, 5, 6, 7, 9, 19] f) (among [9, 10, 13, 14, 15, 17, 19, 22, 23, 24, 37, 38, 39, 40, 41, 43, 47, 48, 49, 60, 65]) (fun f g => among2 [] f g) (fun f => !among [] f)
noncomputable def ext52 : Array Value → Sem Value := (extOf P 52).getD fun _ => .pure undef
noncomputable def ext54 : Array Value → Sem Value := (extOf P 54).getD fun _ => .pure undef
/-! godown/godownlaw18.SessionGreets -/
noncomputable def L3_0 (n m : Nat) (s1 : VS) (s5 : VP) (s7 : Int) (h : VH) : VRes := loopAt P tab 3 [1, 1, 1, 1, 1, 1, 0, 1, 0] n [] m [.undef, .sl 42 s1, .undef, .undef, .undef, .ptr s5, .undef, .int .i64 s7, .undef, .undef, .undef, .undef, .undef, .undef, .undef, .undef, .undef, .undef, .undef, .undef, .undef, .undef, .undef, .undef, .undef, .undef, .undef, .undef, .undef, .undef, .undef, .undef, .undef, .undef, .undef, .undef, .undef, .undef, .undef, .undef, .undef, .undef, .undef, .undef, .undef, .undef, .undef, .undef, .undef, .undef, .undef, .undef, .undef, .undef, .undef, .undef, .undef, .undef, .undef, .undef, .undef, .undef, .undef, .undef, .undef, .undef, .undef, .undef, .undef, .undef, .undef, .undef, .undef, .undef, .undef, .undef, .undef, .undef, .undef, .undef, .undef] h
theorem L3_0_eq (n m : Nat) (s1 : VS) (s5 : VP) (s7 : Int) (h : VH) : L3_0 n (m + 1) s1 s5 s7 h =
  (cond (decide ((s7 : Int) < ((VS.len s1 : Nat) : Int)))
    ((ixV 3 s1 s7).bind fun p1 =>
      ((ldV (.agg [.int .u8, .slice 5, .int .u8]) h p1).bind fun x2 =>
        ((callD (vF P tab n) P false (.one (.flat (.slice 5))) 19 [.agg [.int .u8 x2.1, .sl 5 x2.2.1, .int .u8 x2.2.2.1]] h).bind fun r3 =>
          ((callD (vF P tab n) P false (.one (.flat (.int .i64))) 12 [.ptr s5, .sl 5 r3.1] r3.2).bind fun r4 =>
            (cond ((r4.1 : Int) != 0)
              (some (.bool false, r4.2))
              ((callD (vF P tab n) P false (.one (.flat (.int .i64))) 20 [.ptr s5] r4.2).bind fun r5 =>
                (cond ((r5.1 : Int) != 0)
                  (some (.bool false, r5.2))
                  ((callD (vF P tab n) P false (.one (.flat (.slice 5))) 18 [.ptr s5] r5.2).bind fun r6 =>
                    (cond ((((VS.len r6.1 : Nat) : Int) : Int) != 0)
                      (some (.bool false, r6.2))
                      (L3_0 n m s1 s5 (IntKind.wrap .i64 (s7 + 1)) r6.2))))))))))
    ((callD (vF P tab n) P false (.one (.flat (.int .u8))) 16 [.ptr s5] h).bind fun r7 =>
      (some (.bool ((r7.1 : Int) == 2), r7.2)))) := by kernel_rfl
theorem f3_eq (n : Nat) (a0 : VS) (a1 : VS) (h : VH) : bodyV P tab (vF P tab n) n 3 [.sl 5 a0, .sl 42 a1] h =
  ((callD (vF P tab n) P false (.one (.flat .bool)) 9 [] h).bind fun r1 =>
    (cond (!r1.1)
      ((callD (vF P tab n) P false (.one (.flat .bool)) 9 [] r1.2).bind fun r2 =>
        (some (.bool r2.1, r2.2)))
      (cond (decide ((((VS.len a0 : Nat) : Int) : Int) > 100))
        ((callD (vF P tab n) P false (.one (.flat .bool)) 9 [] r1.2).bind fun r3 =>
          (some (.bool r3.1, r3.2)))
        (cond ((((VS.len a0 : Nat) : Int) : Int) == 0)
          ((callD (vF P tab n) P false (.one (.flat .bool)) 9 [] r1.2).bind fun r4 =>
            (some (.bool r4.1, r4.2)))
          ((strV r1.2 5 a0).bind fun z5 =>
            (cond (strEq z5 ⟨#[104, 101, 108, 108, 111]⟩)
              ((callD (vF P tab n) P false (.one (.flat .bool)) 9 [] r1.2).bind fun r6 =>
                (some (.bool r6.1, r6.2)))
              ((callD (vF P tab n) P false (.one (.flat .bool)) 10 [.sl 42 a1] r1.2).bind fun r7 =>
                (cond (!r7.1)
                  ((callD (vF P tab n) P false (.one (.flat .bool)) 9 [] r7.2).bind fun r8 =>
                    (some (.bool r8.1, r8.2)))
                  ((callD (vF P tab n) P false (.one (.flat .ptr)) 11 [] r7.2).bind fun r9 =>
                    ((callD (vF P tab n) P false (.one (.flat (.slice 5))) 14 [.sl 5 a0] r9.2).bind fun r10 =>
                      (if 22 = 22 ∧ isRowV (r10.2 ++ [.row 5 [.int .u8 104, .int .u8 101, .int .u8 108, .int .u8 108, .int .u8 111]]) r10.2.length 5 = true ∧ 5 < boxK then
                        ((callD (vF P tab n) P false (.one (.flat (.slice 5))) 14 [.sl 5 (.hp r10.2.length 0 5)] (r10.2 ++ [.row 5 [.int .u8 104, .int .u8 101, .int .u8 108, .int .u8 108, .int .u8 111]])).bind fun r11 =>
                        ((callD (vF P tab n) P false (.one (.flat (.slice 5))) 13 [.sl 5 r10.1, .sl 5 r11.1] r11.2).bind fun r12 =>
                        ((callD (vF P tab n) P false (.one (.flat (.int .i64))) 12 [.ptr r9.1, .sl 5 r12.1] r12.2).bind fun r13 =>
                        ((callD (vF P tab n) P false (.one (.flat (.slice 5))) 15 [.agg [.int .i64 10, .bool false, .int .i64 0, .flt .f64 0, .sl 5 .nil, .sl 9 .nil]] r13.2).bind fun r14 =>
                        ((callD (vF P tab n) P false (.one (.flat (.slice 5))) 14 [.sl 5 r14.1] r14.2).bind fun r15 =>
                        ((callD (vF P tab n) P false (.one (.flat (.int .u8))) 16 [.ptr r9.1] r15.2).bind fun r16 =>
                        (cond ((r16.1 : Int) != 2)
                        (some (.bool false, r16.2))
                        ((callD (vF P tab n) P false (.one (.flat (.slice 5))) 18 [.ptr r9.1] r16.2).bind fun r17 =>
                        ((callD (vF P tab n) P false (.one (.flat .bool)) 17 [.sl 5 r17.1, .sl 5 r15.1] r17.2).bind fun r18 =>
                        (cond (!r18.1)
                        (some (.bool false, r18.2))
                        (L3_0 n n a1 r9.1 0 r18.2)))))))))))
                        else none))))))))))) := by kernel_rfl
/-! godown/godownlaw18.SessionOrder -/
noncomputable def L4_0 (n m : Nat) (s0 : VS) (s1 : Int) (s5 : VS) (s6 : Int) (h : VH) : VRes := loopAt P tab 4 [1, 1, 1, 0, 1, 0] n [] m [.sl 22 s0, .int .u8 s1, .undef, .undef, .undef, .sl 5 s5, .int .i64 s6, .undef, .undef, .undef, .undef, .undef, .undef, .undef, .undef, .undef, .undef, .undef, .undef, .undef, .undef, .undef, .undef, .undef, .undef, .undef, .undef, .undef, .undef, .undef, .undef, .undef, .undef, .undef, .undef, .undef, .undef, .undef, .undef, .undef, .undef, .undef, .undef, .undef, .undef, .undef, .undef, .undef, .undef, .undef, .undef, .undef, .undef, .undef, .undef, .undef, .undef, .undef, .undef, .undef, .undef, .undef, .undef, .undef, .undef, .undef, .undef, .undef, .undef, .undef, .undef, .undef, .undef, .undef, .undef, .undef, .undef, .undef, .undef, .undef, .undef, .undef, .undef, .undef, .undef, .undef, .undef, .undef, .undef, .undef, .undef, .undef, .undef, .undef, .undef, .undef, .undef, .undef, .undef, .undef, .undef, .undef, .undef, .undef, .undef, .undef, .undef, .undef, .undef, .undef, .undef, .undef, .undef, .undef, .undef, .undef] h
noncomputable def L4_1 (n m : Nat) (s0 : VS) (s5 : VS) (s7 : VP) (s8 : Int) (s9 : Int) (h : VH) : VRes := loopAt P tab 4 [1, 1, 1, 1, 1, 1, 0, 1, 0] n [] m [.sl 22 s0, .undef, .undef, .undef, .undef, .sl 5 s5, .undef, .ptr s7, .int .i64 s8, .int .i64 s9, .undef, .undef, .undef, .undef, .undef, .undef, .undef, .undef, .undef, .undef, .undef, .undef, .undef, .undef, .undef, .undef, .undef, .undef, .undef, .undef, .undef, .undef, .undef, .undef, .undef, .undef, .undef, .undef, .undef, .undef, .undef, .undef, .undef, .undef, .undef, .undef, .undef, .undef, .undef, .undef, .undef, .undef, .undef, .undef, .undef, .undef, .undef, .undef, .undef, .undef, .undef, .undef, .undef, .undef, .undef, .undef, .undef, .undef, .undef, .undef, .undef, .undef, .undef, .undef, .undef, .undef, .undef, .undef, .undef, .undef, .undef, .undef, .undef, .undef, .undef, .undef, .undef, .undef, .undef, .undef, .undef, .undef, .undef, .undef, .undef, .undef, .undef, .undef, .undef, .undef, .undef, .undef, .undef, .undef, .undef, .undef, .undef, .undef, .undef, .undef, .undef, .undef, .undef, .undef, .undef, .undef] h
noncomputable def L4_2 (n m : Nat) (s0 : VS) (s7 : VP) (s11 : Int) (h : VH) : VRes := loopAt P tab 4 [1, 1, 1, 1, 1, 1, 1, 0, 1, 0] n [] m [.sl 22 s0, .undef, .undef, .undef, .undef, .undef, .undef, .ptr s7, .undef, .undef, .undef, .int .i64 s11, .undef, .undef, .undef, .undef, .undef, .undef, .undef, .undef, .undef, .undef, .undef, .undef, .undef, .undef, .undef, .undef, .undef, .undef, .undef, .undef, .undef, .undef, .undef, .undef, .undef, .undef, .undef, .undef, .undef, .undef, .undef, .undef, .undef, .undef, .undef, .undef, .undef, .undef, .undef, .undef, .undef, .undef, .undef, .undef, .undef, .undef, .undef, .undef, .undef, .undef, .undef, .undef, .undef, .undef, .undef, .undef, .undef, .undef, .undef, .undef, .undef, .undef, .undef, .undef, .undef, .undef, .undef, .undef, .undef, .undef, .undef, .undef, .undef, .undef, .undef, .undef, .undef, .undef, .undef, .undef, .undef, .undef, .undef, .undef, .undef, .undef, .undef, .undef, .undef, .undef, .undef, .undef, .undef, .undef, .undef, .undef, .undef, .undef, .undef, .undef, .undef, .undef, .undef, .undef] h
theorem L4_0_eq (n m : Nat) (s0 : VS) (s1 : Int) (s5 : VS) (s6 : Int) (h : VH) : L4_0 n (m + 1) s0 s1 s5 s6 h =
  (cond (decide ((s6 : Int) < ((VS.len s0 : Nat) : Int)))
    ((ixV 1 s0 s6).bind fun p1 =>
      ((ldV (.flat (.slice 5)) h p1).bind fun x2 =>
        (cond ((((VS.len x2 : Nat) : Int) : Int) == 0)
          (some (.bool true, h))
          ((ixV 1 s0 s6).bind fun p3 =>
            ((ldV (.flat (.slice 5)) h p3).bind fun x4 =>
              (cond (decide ((((VS.len x4 : Nat) : Int) : Int) > 60))
                (some (.bool true, h))
                ((ixV 1 s0 s6).bind fun p5 =>
                  ((ldV (.flat (.slice 5)) h p5).bind fun x6 =>
                    ((callD (vF P tab n) P false (.one (.flat (.slice 5))) 14 [.sl 5 x6] h).bind fun r7 =>
                      ((callD (vF P tab n) P false (.one (.flat (.slice 5))) 13 [.sl 5 s5, .sl 5 r7.1] r7.2).bind fun r8 =>
                        (L4_0 n m s0 s1 r8.1 (IntKind.wrap .i64 (s6 + 1)) r8.2)))))))))))
    ((callD (vF P tab n) P false (.one (.flat .ptr)) 11 [] h).bind fun r9 =>
      ((remI s1 20).bind fun x10 =>
        (L4_1 n n s0 s5 r9.1 (IntKind.wrap .i64 (1 + (IntKind.wrap .i64 x10))) 0 r9.2)))) := by kernel_rfl
theorem L4_1_eq (n m : Nat) (s0 : VS) (s5 : VS) (s7 : VP) (s8 : Int) (s9 : Int) (h : VH) : L4_1 n (m + 1) s0 s5 s7 s8 s9 h =
  (cond (decide ((s9 : Int) < ((VS.len s5 : Nat) : Int)))
    (cond (decide (((IntKind.wrap .i64 (s9 + s8)) : Int) > ((VS.len s5 : Nat) : Int)))
      ((cutD h 5 1 s5 (some s9) (some ((VS.len s5 : Nat) : Int)) none).bind fun z1 =>
        ((callD (vF P tab n) P false (.one (.flat (.int .i64))) 12 [.ptr s7, .sl 5 z1] h).bind fun r2 =>
          (cond ((r2.1 : Int) != 0)
            (some (.bool false, r2.2))
            (L4_1 n m s0 s5 s7 s8 (IntKind.wrap .i64 (s9 + s8)) r2.2))))
      ((cutD h 5 1 s5 (some s9) (some (IntKind.wrap .i64 (s9 + s8))) none).bind fun z3 =>
        ((callD (vF P tab n) P false (.one (.flat (.int .i64))) 12 [.ptr s7, .sl 5 z3] h).bind fun r4 =>
          (cond ((r4.1 : Int) != 0)
            (some (.bool false, r4.2))
            (L4_1 n m s0 s5 s7 s8 (IntKind.wrap .i64 (s9 + s8)) r4.2)))))
    (L4_2 n n s0 s7 0 h)) := by kernel_rfl
theorem L4_2_eq (n m : Nat) (s0 : VS) (s7 : VP) (s11 : Int) (h : VH) : L4_2 n (m + 1) s0 s7 s11 h =
  (cond (decide ((s11 : Int) < ((VS.len s0 : Nat) : Int)))
    ((callD (vF P tab n) P false (.tup [(.flat (.slice 5)), (.flat .bool)]) 21 [.ptr s7] h).bind fun r1 =>
      (cond (!r1.1.2.1)
        (some (.bool false, r1.2))
        ((ixV 1 s0 s11).bind fun p2 =>
          ((ldV (.flat (.slice 5)) r1.2 p2).bind fun x3 =>
            ((callD (vF P tab n) P false (.one (.flat .bool)) 17 [.sl 5 r1.1.1, .sl 5 x3] r1.2).bind fun r4 =>
              (cond (!r4.1)
                (some (.bool false, r4.2))
                (L4_2 n m s0 s7 (IntKind.wrap .i64 (s11 + 1)) r4.2)))))))
    ((callD (vF P tab n) P false (.tup [(.flat (.slice 5)), (.flat .bool)]) 21 [.ptr s7] h).bind fun r5 =>
      (cond (!r5.1.2.1)
        ((callD (vF P tab n) P false (.one (.flat (.int .u8))) 16 [.ptr s7] r5.2).bind fun r6 =>
          (some (.bool ((r6.1 : Int) == 1), r6.2)))
        (some (.bool false, r5.2))))) := by kernel_rfl
theorem f4_eq (n : Nat) (a0 : VS) (a1 : Int) (h : VH) : bodyV P tab (vF P tab n) n 4 [.sl 22 a0, .int .u8 a1] h =
  ((callD (vF P tab n) P false (.one (.flat .bool)) 9 [] h).bind fun r1 =>
    (cond (!r1.1)
      ((callD (vF P tab n) P false (.one (.flat .bool)) 9 [] r1.2).bind fun r2 =>
        (some (.bool r2.1, r2.2)))
      (cond (decide ((((VS.len a0 : Nat) : Int) : Int) > 4))
        ((callD (vF P tab n) P false (.one (.flat .bool)) 9 [] r1.2).bind fun r3 =>
          (some (.bool r3.1, r3.2)))
        (if 22 = 22 ∧ isRowV (r1.2 ++ [.row 5 [.int .u8 104, .int .u8 101, .int .u8 108, .int .u8 108, .int .u8 111]]) r1.2.length 5 = true ∧ 5 < boxK then
          ((callD (vF P tab n) P false (.one (.flat (.slice 5))) 14 [.sl 5 (.hp r1.2.length 0 5)] (r1.2 ++ [.row 5 [.int .u8 104, .int .u8 101, .int .u8 108, .int .u8 108, .int .u8 111]])).bind fun r4 =>
            (L4_0 n n a0 a1 r4.1 0 r4.2))
          else none)))) := by kernel_rfl
/-! godown/godownlaw18.SessionBusy -/
noncomputable def L5_0 (n m : Nat) (s1 : Int) (s5 : VP) (s6 : Int) (s7 : Int) (s8 : Int) (h : VH) : VRes := loopAt P tab 5 [1, 1, 1, 1, 1, 1, 0, 1, 0] n [] m [.undef, .int .u8 s1, .undef, .undef, .undef, .ptr s5, .int .i64 s6, .int .i64 s7, .int .i64 s8, .undef, .undef, .undef, .undef, .undef, .undef, .undef, .undef, .undef, .undef, .undef, .undef, .undef, .undef, .undef, .undef, .undef, .undef, .undef, .undef, .undef, .undef, .undef, .undef, .undef, .undef, .undef, .undef, .undef, .undef, .undef, .undef, .undef, .undef, .undef, .undef, .undef, .undef, .undef, .undef, .undef, .undef, .undef, .undef, .undef, .undef, .undef, .undef, .undef, .undef, .undef, .undef, .undef, .undef, .undef, .undef, .undef, .undef, .undef, .undef, .undef, .undef, .undef, .undef, .undef, .undef, .undef, .undef, .undef, .undef, .undef, .undef, .undef, .undef, .undef, .undef, .undef, .undef, .undef, .undef, .undef, .undef, .undef, .undef, .undef, .undef, .undef, .undef, .undef, .undef, .undef, .undef, .undef, .undef, .undef, .undef, .undef, .undef, .undef, .undef, .undef, .undef, .undef, .undef, .undef, .undef, .undef, .undef, .undef, .undef] h
noncomputable def L5_1 (n m : Nat) (s1 : Int) (s5 : VP) (s6 : Int) (s7 : Int) (s9 : Int) (s10 : Int) (s12 : VS) (s15 : Int) (h : VH) : VRes := loopAt P tab 5 [1, 1, 1, 1, 1, 1, 1, 1, 1, 1, 1, 1, 0, 1, 0] n [] m [.undef, .int .u8 s1, .undef, .undef, .undef, .ptr s5, .int .i64 s6, .int .i64 s7, .undef, .int .i64 s9, .int .i64 s10, .undef, .sl 22 s12, .undef, .undef, .int .i64 s15, .undef, .undef, .undef, .undef, .undef, .undef, .undef, .undef, .undef, .undef, .undef, .undef, .undef, .undef, .undef, .undef, .undef, .undef, .undef, .undef, .undef, .undef, .undef, .undef, .undef, .undef, .undef, .undef, .undef, .undef, .undef, .undef, .undef, .undef, .undef, .undef, .undef, .undef, .undef, .undef, .undef, .undef, .undef, .undef, .undef, .undef, .undef, .undef, .undef, .undef, .undef, .undef, .undef, .undef, .undef, .undef, .undef, .undef, .undef, .undef, .undef, .undef, .undef, .undef, .undef, .undef, .undef, .undef, .undef, .undef, .undef, .undef, .undef, .undef, .undef, .undef, .undef, .undef, .undef, .undef, .undef, .undef, .undef, .undef, .undef, .undef, .undef, .undef, .undef, .undef, .undef, .undef, .undef, .undef, .undef, .undef, .undef, .undef, .undef, .undef, .undef, .undef, .undef] h
noncomputable def L5_2 (n m : Nat) (s1 : Int) (s5 : VP) (s6 : Int) (s7 : Int) (s9 : Int) (s10 : Int) (s18 : Int) (h : VH) : VRes := loopAt P tab 5 [1, 1, 1, 1, 1, 1, 1, 1, 1, 1, 1, 1, 1, 0, 1, 0] n [] m [.undef, .int .u8 s1, .undef, .undef, .undef, .ptr s5, .int .i64 s6, .int .i64 s7, .undef, .int .i64 s9, .int .i64 s10, .undef, .undef, .undef, .undef, .undef, .undef, .undef, .int .i64 s18, .undef, .undef, .undef, .undef, .undef, .undef, .undef, .undef, .undef, .undef, .undef, .undef, .undef, .undef, .undef, .undef, .undef, .undef, .undef, .undef, .undef, .undef, .undef, .undef, .undef, .undef, .undef, .undef, .undef, .undef, .undef, .undef, .undef, .undef, .undef, .undef, .undef, .undef, .undef, .undef, .undef, .undef, .undef, .undef, .undef, .undef, .undef, .undef, .undef, .undef, .undef, .undef, .undef, .undef, .undef, .undef, .undef, .undef, .undef, .undef, .undef, .undef, .undef, .undef, .undef, .undef, .undef, .undef, .undef, .undef, .undef, .undef, .undef, .undef, .undef, .undef, .undef, .undef, .undef, .undef, .undef, .undef, .undef, .undef, .undef, .undef, .undef, .undef, .undef, .undef, .undef, .undef, .undef, .undef, .undef, .undef, .undef, .undef, .undef, .undef] h
theorem L5_0_eq (n m : Nat) (s1 : Int) (s5 : VP) (s6 : Int) (s7 : Int) (s8 : Int) (h : VH) : L5_0 n (m + 1) s1 s5 s6 s7 s8 h =
  (cond (decide ((s8 : Int) < s6))
    ((callD (vF P tab n) P false (.one (.flat (.slice 5))) 14 [.sl 5 (.hp h.length 0 1)] (h ++ [.row 5 [.int .u8 (IntKind.wrap .u8 s8)]])).bind fun r1 =>
      ((callD (vF P tab n) P false (.one (.flat (.int .i64))) 12 [.ptr s5, .sl 5 r1.1] r1.2).bind fun r2 =>
        (L5_0 n m s1 s5 s6 (IntKind.wrap .i64 (s7 + r2.1)) (IntKind.wrap .i64 (s8 + 1)) r2.2)))
    (cond (decide (((IntKind.wrap .i64 (s6 - 4)) : Int) < 0))
      ((callD (vF P tab n) P false (.one (.flat (.slice 5))) 18 [.ptr s5] h).bind fun r3 =>
        ((callD (vF P tab n) P false (.tup [(.flat (.slice 22)), (.flat (.int .i64)), (.flat .bool)]) 22 [.sl 5 r3.1] r3.2).bind fun r4 =>
          (L5_1 n n s1 s5 s6 s7 0 0 r4.1.1 0 r4.2)))
      ((callD (vF P tab n) P false (.one (.flat (.slice 5))) 18 [.ptr s5] h).bind fun r5 =>
        ((callD (vF P tab n) P false (.tup [(.flat (.slice 22)), (.flat (.int .i64)), (.flat .bool)]) 22 [.sl 5 r5.1] r5.2).bind fun r6 =>
          (L5_1 n n s1 s5 s6 s7 (IntKind.wrap .i64 (s6 - 4)) 0 r6.1.1 0 r6.2))))) := by kernel_rfl
theorem L5_1_eq (n m : Nat) (s1 : Int) (s5 : VP) (s6 : Int) (s7 : Int) (s9 : Int) (s10 : Int) (s12 : VS) (s15 : Int) (h : VH) : L5_1 n (m + 1) s1 s5 s6 s7 s9 s10 s12 s15 h =
  (cond (decide ((s15 : Int) < ((VS.len s12 : Nat) : Int)))
    ((ixV 1 s12 s15).bind fun p1 =>
      ((ldV (.flat (.slice 5)) h p1).bind fun x2 =>
        ((callD (vF P tab n) P false (.tup [(.agg [.int .i64, .bool, .int .i64, .flt .f64, .slice 5, .slice 9]), (.flat (.int .i64))]) 23 [.sl 5 x2] h).bind fun r3 =>
          ((stV (r3.2 ++ [.row (36 + boxK) [.int .i64 0, .bool false, .int .i64 0, .flt .f64 0, .sl 5 .nil, .sl 9 .nil]]) (.ob r3.2.length 0) [.int .i64 r3.1.1.1, .bool r3.1.1.2.1, .int .i64 r3.1.1.2.2.1, .flt .f64 r3.1.1.2.2.2.1, .sl 5 r3.1.1.2.2.2.2.1, .sl 9 r3.1.1.2.2.2.2.2.1]).bind fun h4 =>
            (cond ((r3.1.2.1 : Int) != 0)
              (some (.bool false, h4))
              ((ldV (.agg [.int .i64, .bool, .int .i64, .flt .f64, .slice 5, .slice 9]) h4 (.ob r3.2.length 0)).bind fun x5 =>
                ((callD (vF P tab n) P false (.one (.flat .bool)) 24 [.agg [.int .i64 x5.1, .bool x5.2.1, .int .i64 x5.2.2.1, .flt .f64 x5.2.2.2.1, .sl 5 x5.2.2.2.2.1, .sl 9 x5.2.2.2.2.2.1], .agg [.int .i64 8, .bool false, .int .i64 0, .flt .f64 0, .sl 5 .nil, .sl 9 .nil]] h4).bind fun r6 =>
                  (cond (!r6.1)
                    (some (.bool false, r6.2))
                    (L5_1 n m s1 s5 s6 s7 s9 (IntKind.wrap .i64 (s10 + 1)) s12 (IntKind.wrap .i64 (s15 + 1)) r6.2)))))))))
    (L5_2 n n s1 s5 s6 s7 s9 s10 0 h)) := by kernel_rfl
theorem L5_2_eq (n m : Nat) (s1 : Int) (s5 : VP) (s6 : Int) (s7 : Int) (s9 : Int) (s10 : Int) (s18 : Int) (h : VH) : L5_2 n (m + 1) s1 s5 s6 s7 s9 s10 s18 h =
  ((remI s1 6).bind fun x1 =>
    (cond (decide ((s18 : Int) < (IntKind.wrap .i64 x1)))
      ((callD (vF P tab n) P false (.tup [(.flat (.slice 5)), (.flat .bool)]) 21 [.ptr s5] h).bind fun r2 =>
        (cond (!(r2.1.2.1 == (decide ((s18 : Int) < (IntKind.wrap .i64 (s6 - s9))))))
          (some (.bool false, r2.2))
          (cond r2.1.2.1
            ((callD (vF P tab n) P false (.one (.flat .bool)) 17 [.sl 5 r2.1.1, .sl 5 (.hp r2.2.length 0 1)] (r2.2 ++ [.row 5 [.int .u8 (IntKind.wrap .u8 s18)]])).bind fun r3 =>
              (cond (!r3.1)
                (some (.bool false, r3.2))
                (L5_2 n m s1 s5 s6 s7 s9 s10 (IntKind.wrap .i64 (s18 + 1)) r3.2)))
            (L5_2 n m s1 s5 s6 s7 s9 s10 (IntKind.wrap .i64 (s18 + 1)) r2.2))))
      (cond ((s7 : Int) == s9)
        (some (.bool ((s10 : Int) == s9), h))
        (some (.bool false, h))))) := by kernel_rfl
theorem f5_eq (n : Nat) (a0 : Int) (a1 : Int) (h : VH) : bodyV P tab (vF P tab n) n 5 [.int .u8 a0, .int .u8 a1] h =
  ((callD (vF P tab n) P false (.one (.flat .bool)) 9 [] h).bind fun r1 =>
    (cond (!r1.1)
      (some (.bool false, r1.2))
      ((callD (vF P tab n) P false (.one (.flat .ptr)) 11 [] r1.2).bind fun r2 =>
        (if 22 = 22 ∧ isRowV (r2.2 ++ [.row 5 [.int .u8 104, .int .u8 101, .int .u8 108, .int .u8 108, .int .u8 111]]) r2.2.length 5 = true ∧ 5 < boxK then
          ((callD (vF P tab n) P false (.one (.flat (.slice 5))) 14 [.sl 5 (.hp r2.2.length 0 5)] (r2.2 ++ [.row 5 [.int .u8 104, .int .u8 101, .int .u8 108, .int .u8 108, .int .u8 111]])).bind fun r3 =>
            ((callD (vF P tab n) P false (.one (.flat (.int .i64))) 12 [.ptr r2.1, .sl 5 r3.1] r3.2).bind fun r4 =>
              ((remI a0 20).bind fun x5 =>
                (L5_0 n n a1 r2.1 (IntKind.wrap .i64 x5) 0 0 r4.2))))
          else none)))) := by kernel_rfl
/-! godown/godownlaw18.SessionPlays -/
noncomputable def L6_0 (n m : Nat) (s0 : VS) (s5 : VP) (s6 : Nat) (s7 : Int) (h : VH) : VRes := loopAt P tab 6 [1, 1, 1, 1, 0, 1, 0] n [] m [.sl 42 s0, .undef, .undef, .undef, .undef, .ptr s5, .ptr (.ob s6 0), .int .i64 s7, .undef, .undef, .undef, .undef, .undef, .undef, .undef, .undef, .undef, .undef, .undef, .undef, .undef, .undef, .undef, .undef, .undef, .undef, .undef, .undef, .undef, .undef, .undef, .undef, .undef, .undef, .undef, .undef, .undef, .undef, .undef, .undef, .undef, .undef, .undef, .undef, .undef, .undef, .undef, .undef, .undef, .undef, .undef, .undef, .undef, .undef, .undef, .undef, .undef, .undef, .undef, .undef, .undef, .undef, .undef, .undef, .undef, .undef, .undef, .undef, .undef, .undef, .undef, .undef, .undef, .undef, .undef, .undef, .undef, .undef, .undef, .undef, .undef, .undef, .undef, .undef, .undef, .undef, .undef, .undef, .undef, .undef, .undef, .undef, .undef, .undef, .undef, .undef, .undef, .undef, .undef, .undef, .undef, .undef, .undef, .undef, .undef, .undef, .undef, .undef, .undef, .undef, .undef, .undef, .undef, .undef, .undef, .undef, .undef, .undef, .undef, .undef, .undef, .undef, .undef, .undef, .undef, .undef, .undef, .undef, .undef, .undef, .undef, .undef, .undef, .undef, .undef, .undef, .undef, .undef, .undef, .undef, .undef, .undef, .undef, .undef, .undef, .undef, .undef, .undef, .undef, .undef, .undef, .undef, .undef, .undef, .undef, .undef, .undef] h
theorem L6_0_eq (n m : Nat) (s0 : VS) (s5 : VP) (s6 : Nat) (s7 : Int) (h : VH) : L6_0 n (m + 1) s0 s5 s6 s7 h =
  (cond (decide ((s7 : Int) < ((VS.len s0 : Nat) : Int)))
    ((ixV 3 s0 s7).bind fun p1 =>
      ((atO p1 0).bind fun p2 =>
        ((ldV (.flat (.int .u8)) h p2).bind fun x3 =>
          ((remI x3 8).bind fun x4 =>
            (cond ((x4 : Int) == 6)
              ((callD (vF P tab n) P false (.tup [(.flat (.slice 5)), (.flat .bool)]) 21 [.ptr s5] h).bind fun r5 =>
                ((callD (vF P tab n) P false (.tup [(.flat (.slice 5)), (.flat .bool)]) 26 [.ptr (.ob s6 0)] r5.2).bind fun r6 =>
                  (cond (!(r5.1.2.1 == r6.1.2.1))
                    (some (.bool false, r6.2))
                    ((callD (vF P tab n) P false (.one (.flat .bool)) 17 [.sl 5 r5.1.1, .sl 5 r6.1.1] r6.2).bind fun r7 =>
                      (cond (!r7.1)
                        (some (.bool false, r7.2))
                        ((ldV (.flat (.int .i64)) r7.2 (.ob s6 2)).bind fun x8 =>
                        ((callD (vF P tab n) P false (.one (.flat (.int .u8))) 16 [.ptr s5] r7.2).bind fun r9 =>
                        (cond (V.stays r9.2 [(.ob s6 2, .int .i64, .int .i64 x8)])
                        (cond (((IntKind.wrap .i64 r9.1) : Int) != x8)
                        (some (.bool false, r9.2))
                        ((ldV (.flat (.slice 22)) r9.2 (.ob s6 3)).bind fun x10 =>
                        ((callD (vF P tab n) P false (.one (.flat (.int .i64))) 20 [.ptr s5] r9.2).bind fun r11 =>
                        (cond (V.stays r11.2 [(.ob s6 3, .slice 22, .sl 22 x10), (.ob s6 2, .int .i64, .int .i64 x8)])
                        (cond ((r11.1 : Int) != ((VS.len x10 : Nat) : Int))
                        (some (.bool false, r11.2))
                        (L6_0 n m s0 s5 s6 (IntKind.wrap .i64 (s7 + 1)) r11.2))
                        none))))
                        none))))))))
              (cond ((x4 : Int) == 7)
                ((ixV 3 s0 s7).bind fun p12 =>
                  ((atO p12 0).bind fun p13 =>
                    ((ldV (.flat (.int .u8)) h p13).bind fun x14 =>
                      (cond (decide ((x14 : Int) ≥ 248))
                        ((callD (vF P tab n) P false (.tup []) 27 [.ptr s5] h).bind fun r15 =>
                        ((callD (vF P tab n) P false (.tup []) 28 [.ptr (.ob s6 0)] r15.2).bind fun r16 =>
                        ((ldV (.flat (.int .i64)) r16.2 (.ob s6 2)).bind fun x17 =>
                        ((callD (vF P tab n) P false (.one (.flat (.int .u8))) 16 [.ptr s5] r16.2).bind fun r18 =>
                        (cond (V.stays r18.2 [(.ob s6 2, .int .i64, .int .i64 x17)])
                        (cond (((IntKind.wrap .i64 r18.1) : Int) != x17)
                        (some (.bool false, r18.2))
                        ((ldV (.flat (.slice 22)) r18.2 (.ob s6 3)).bind fun x19 =>
                        ((callD (vF P tab n) P false (.one (.flat (.int .i64))) 20 [.ptr s5] r18.2).bind fun r20 =>
                        (cond (V.stays r20.2 [(.ob s6 3, .slice 22, .sl 22 x19), (.ob s6 2, .int .i64, .int .i64 x17)])
                        (cond ((r20.1 : Int) != ((VS.len x19 : Nat) : Int))
                        (some (.bool false, r20.2))
                        (L6_0 n m s0 s5 s6 (IntKind.wrap .i64 (s7 + 1)) r20.2))
                        none))))
                        none)))))
                        ((ixV 3 s0 s7).bind fun p21 =>
                        ((atO p21 0).bind fun p22 =>
                        ((ldV (.flat (.int .u8)) h p22).bind fun x23 =>
                        ((remI x23 16).bind fun x24 =>
                        (cond ((x24 : Int) == 7)
                        ((ixV 3 s0 s7).bind fun p25 =>
                        ((atO p25 2).bind fun p26 =>
                        ((ldV (.flat (.int .u8)) h p26).bind fun x27 =>
                        ((remI x27 11).bind fun x28 =>
                        ((ixV 3 s0 s7).bind fun p29 =>
                        ((atO p29 2).bind fun p30 =>
                        ((ldV (.flat (.int .u8)) h p30).bind fun x31 =>
                        (cond (V.stays (h ++ [.row (36 + boxK) [.int .i64 0, .bool false, .int .i64 0, .flt .f64 0, .sl 5 .nil, .sl 9 .nil]]) (hj (heldOf p30 [.int .u8] [.int .u8 x31]) (hj (heldOf p26 [.int .u8] [.int .u8 x27]) [])))
                        ((stV (h ++ [.row (36 + boxK) [.int .i64 0, .bool false, .int .i64 0, .flt .f64 0, .sl 5 .nil, .sl 9 .nil]]) (.ob h.length 0) [.int .i64 (IntKind.wrap .i64 x28), .bool false, .int .i64 (IntKind.wrap .i64 x31), .flt .f64 0, .sl 5 .nil, .sl 9 .nil]).bind fun h32 =>
                        ((ldV (.agg [.int .i64, .bool, .int .i64, .flt .f64, .slice 5, .slice 9]) h32 (.ob h.length 0)).bind fun x33 =>
                        ((callD (vF P tab n) P false (.tup []) 29 [.ptr s5, .agg [.int .i64 x33.1, .bool x33.2.1, .int .i64 x33.2.2.1, .flt .f64 x33.2.2.2.1, .sl 5 x33.2.2.2.2.1, .sl 9 x33.2.2.2.2.2.1]] h32).bind fun r34 =>
                        ((ldV (.agg [.int .i64, .bool, .int .i64, .flt .f64, .slice 5, .slice 9]) r34.2 (.ob h.length 0)).bind fun x35 =>
                        ((callD (vF P tab n) P false (.tup []) 30 [.ptr (.ob s6 0), .agg [.int .i64 x35.1, .bool x35.2.1, .int .i64 x35.2.2.1, .flt .f64 x35.2.2.2.1, .sl 5 x35.2.2.2.2.1, .sl 9 x35.2.2.2.2.2.1]] r34.2).bind fun r36 =>
                        ((ldV (.flat (.int .i64)) r36.2 (.ob s6 2)).bind fun x37 =>
                        ((callD (vF P tab n) P false (.one (.flat (.int .u8))) 16 [.ptr s5] r36.2).bind fun r38 =>
                        (cond (V.stays r38.2 [(.ob s6 2, .int .i64, .int .i64 x37)])
                        (cond (((IntKind.wrap .i64 r38.1) : Int) != x37)
                        (some (.bool false, r38.2))
                        ((ldV (.flat (.slice 22)) r38.2 (.ob s6 3)).bind fun x39 =>
                        ((callD (vF P tab n) P false (.one (.flat (.int .i64))) 20 [.ptr s5] r38.2).bind fun r40 =>
                        (cond (V.stays r40.2 [(.ob s6 3, .slice 22, .sl 22 x39), (.ob s6 2, .int .i64, .int .i64 x37)])
                        (cond ((r40.1 : Int) != ((VS.len x39 : Nat) : Int))
                        (some (.bool false, r40.2))
                        (L6_0 n m s0 s5 s6 (IntKind.wrap .i64 (s7 + 1)) r40.2))
                        none))))
                        none))))))))
                        none))))))))
                        ((callD (vF P tab n) P false (.one (.flat (.slice 5))) 18 [.ptr s5] h).bind fun r41 =>
                        ((callD (vF P tab n) P false (.one (.flat (.slice 5))) 31 [.ptr (.ob s6 0)] r41.2).bind fun r42 =>
                        ((callD (vF P tab n) P false (.one (.flat .bool)) 17 [.sl 5 r41.1, .sl 5 r42.1] r42.2).bind fun r43 =>
                        (cond (!r43.1)
                        (some (.bool false, r43.2))
                        ((ldV (.flat (.int .i64)) r43.2 (.ob s6 2)).bind fun x44 =>
                        ((callD (vF P tab n) P false (.one (.flat (.int .u8))) 16 [.ptr s5] r43.2).bind fun r45 =>
                        (cond (V.stays r45.2 [(.ob s6 2, .int .i64, .int .i64 x44)])
                        (cond (((IntKind.wrap .i64 r45.1) : Int) != x44)
                        (some (.bool false, r45.2))
                        ((ldV (.flat (.slice 22)) r45.2 (.ob s6 3)).bind fun x46 =>
                        ((callD (vF P tab n) P false (.one (.flat (.int .i64))) 20 [.ptr s5] r45.2).bind fun r47 =>
                        (cond (V.stays r47.2 [(.ob s6 3, .slice 22, .sl 22 x46), (.ob s6 2, .int .i64, .int .i64 x44)])
                        (cond ((r47.1 : Int) != ((VS.len x46 : Nat) : Int))
                        (some (.bool false, r47.2))
                        (L6_0 n m s0 s5 s6 (IntKind.wrap .i64 (s7 + 1)) r47.2))
                        none))))
                        none))))))))))))))))
                ((ixV 3 s0 s7).bind fun p48 =>
                  ((ldV (.agg [.int .u8, .slice 5, .int .u8]) h p48).bind fun x49 =>
                    ((ixV 3 s0 s7).bind fun p50 =>
                      ((ldV (.agg [.int .u8, .slice 5, .int .u8]) h p50).bind fun x51 =>
                        ((callD (vF P tab n) P false (.one (.flat (.slice 5))) 19 [.agg [.int .u8 x49.1, .sl 5 x49.2.1, .int .u8 x49.2.2.1]] h).bind fun r52 =>
                        (cond (V.stays r52.2 (hj (heldOf p50 [.int .u8, .slice 5, .int .u8] [.int .u8 x51.1, .sl 5 x51.2.1, .int .u8 x51.2.2.1]) []))
                        ((callD (vF P tab n) P false (.one (.flat (.int .i64))) 12 [.ptr s5, .sl 5 r52.1] r52.2).bind fun r53 =>
                        (cond (V.stays r53.2 (hj (heldOf p50 [.int .u8, .slice 5, .int .u8] [.int .u8 x51.1, .sl 5 x51.2.1, .int .u8 x51.2.2.1]) (hj (heldOf p48 [.int .u8, .slice 5, .int .u8] [.int .u8 x49.1, .sl 5 x49.2.1, .int .u8 x49.2.2.1]) [])))
                        ((callD (vF P tab n) P false (.one (.flat (.slice 5))) 19 [.agg [.int .u8 x51.1, .sl 5 x51.2.1, .int .u8 x51.2.2.1]] r53.2).bind fun r54 =>
                        (cond (V.stays r54.2 (hj (heldOf p48 [.int .u8, .slice 5, .int .u8] [.int .u8 x49.1, .sl 5 x49.2.1, .int .u8 x49.2.2.1]) []))
                        ((callD (vF P tab n) P false (.one (.flat (.int .i64))) 25 [.ptr (.ob s6 0), .sl 5 r54.1] r54.2).bind fun r55 =>
                        (cond (V.stays r55.2 (hj (heldOf p50 [.int .u8, .slice 5, .int .u8] [.int .u8 x51.1, .sl 5 x51.2.1, .int .u8 x51.2.2.1]) (hj (heldOf p48 [.int .u8, .slice 5, .int .u8] [.int .u8 x49.1, .sl 5 x49.2.1, .int .u8 x49.2.2.1]) [])))
                        (cond ((r53.1 : Int) != r55.1)
                        (some (.bool false, r55.2))
                        ((ldV (.flat (.int .i64)) r55.2 (.ob s6 2)).bind fun x56 =>
                        ((callD (vF P tab n) P false (.one (.flat (.int .u8))) 16 [.ptr s5] r55.2).bind fun r57 =>
                        (cond (V.stays r57.2 [(.ob s6 2, .int .i64, .int .i64 x56)])
                        (cond (((IntKind.wrap .i64 r57.1) : Int) != x56)
                        (some (.bool false, r57.2))
                        ((ldV (.flat (.slice 22)) r57.2 (.ob s6 3)).bind fun x58 =>
                        ((callD (vF P tab n) P false (.one (.flat (.int .i64))) 20 [.ptr s5] r57.2).bind fun r59 =>
                        (cond (V.stays r59.2 [(.ob s6 3, .slice 22, .sl 22 x58), (.ob s6 2, .int .i64, .int .i64 x56)])
                        (cond ((r59.1 : Int) != ((VS.len x58 : Nat) : Int))
                        (some (.bool false, r59.2))
                        (L6_0 n m s0 s5 s6 (IntKind.wrap .i64 (s7 + 1)) r59.2))
                        none))))
                        none))))
                        none))
                        none))
                        none))
                        none))))))))))))
    ((callD (vF P tab n) P false (.one (.flat (.slice 5))) 18 [.ptr s5] h).bind fun r60 =>
      ((callD (vF P tab n) P false (.one (.flat (.slice 5))) 31 [.ptr (.ob s6 0)] r60.2).bind fun r61 =>
        ((callD (vF P tab n) P false (.one (.flat .bool)) 17 [.sl 5 r60.1, .sl 5 r61.1] r61.2).bind fun r62 =>
          (cond r62.1
            ((callD (vF P tab n) P false (.one (.flat (.slice 5))) 18 [.ptr s5] r62.2).bind fun r63 =>
              (some (.bool ((((VS.len r63.1 : Nat) : Int) : Int) == 0), r63.2)))
            (some (.bool false, r62.2))))))) := by kernel_rfl
theorem f6_eq (n : Nat) (a0 : VS) (a1 : Bool) (h : VH) : bodyV P tab (vF P tab n) n 6 [.sl 42 a0, .bool a1] h =
  ((callD (vF P tab n) P false (.one (.flat .bool)) 9 [] h).bind fun r1 =>
    (cond (!r1.1)
      ((callD (vF P tab n) P false (.one (.flat .bool)) 9 [] r1.2).bind fun r2 =>
        (some (.bool r2.1, r2.2)))
      ((callD (vF P tab n) P false (.one (.flat .bool)) 10 [.sl 42 a0] r1.2).bind fun r3 =>
        (cond (!r3.1)
          ((callD (vF P tab n) P false (.one (.flat .bool)) 9 [] r3.2).bind fun r4 =>
            (some (.bool r4.1, r4.2)))
          ((callD (vF P tab n) P false (.one (.flat .ptr)) 11 [] r3.2).bind fun r5 =>
            (cond a1
              (if 22 = 22 ∧ isRowV (List.append (α := VO) (r5.2 ++ [.row (57 + boxK) [.sl 5 .nil, .int .i64 0, .int .i64 0, .sl 22 .nil, .sl 5 .nil]]) [.row 5 [.int .u8 104, .int .u8 101, .int .u8 108, .int .u8 108, .int .u8 111]]) (List.length ((r5.2 ++ [.row (57 + boxK) [.sl 5 .nil, .int .i64 0, .int .i64 0, .sl 22 .nil, .sl 5 .nil]]) : VH)) 5 = true ∧ 5 < boxK then
                ((callD (vF P tab n) P false (.one (.flat (.slice 5))) 14 [.sl 5 (.hp (List.length ((r5.2 ++ [.row (57 + boxK) [.sl 5 .nil, .int .i64 0, .int .i64 0, .sl 22 .nil, .sl 5 .nil]]) : VH)) 0 5)] (List.append (α := VO) (r5.2 ++ [.row (57 + boxK) [.sl 5 .nil, .int .i64 0, .int .i64 0, .sl 22 .nil, .sl 5 .nil]]) [.row 5 [.int .u8 104, .int .u8 101, .int .u8 108, .int .u8 108, .int .u8 111]])).bind fun r6 =>
                  ((callD (vF P tab n) P false (.one (.flat (.int .i64))) 12 [.ptr r5.1, .sl 5 r6.1] r6.2).bind fun r7 =>
                    (if 22 = 22 ∧ isRowV (r7.2 ++ [.row 5 [.int .u8 104, .int .u8 101, .int .u8 108, .int .u8 108, .int .u8 111]]) r7.2.length 5 = true ∧ 5 < boxK then
                      ((callD (vF P tab n) P false (.one (.flat (.slice 5))) 14 [.sl 5 (.hp r7.2.length 0 5)] (r7.2 ++ [.row 5 [.int .u8 104, .int .u8 101, .int .u8 108, .int .u8 108, .int .u8 111]])).bind fun r8 =>
                        ((callD (vF P tab n) P false (.one (.flat (.int .i64))) 25 [.ptr (.ob r5.2.length 0), .sl 5 r8.1] r8.2).bind fun r9 =>
                        (L6_0 n n a0 r5.1 r5.2.length 0 r9.2)))
                      else none)))
                else none)
              (L6_0 n n a0 r5.1 r5.2.length 0 (r5.2 ++ [.row (57 + boxK) [.sl 5 .nil, .int .i64 0, .int .i64 0, .sl 22 .nil, .sl 5 .nil]])))))))) := by kernel_rfl
/-! godown/godownlaw18.SessionBreaks -/
noncomputable def L7_0 (n m : Nat) (s1 : Int) (s2 : Bool) (s7 : VP) (s8 : VS) (s9 : Int) (s10 : Int) (h : VH) : VRes := loopAt P tab 7 [1, 1, 1, 1, 1, 1, 0, 1, 0] n [] m [.undef, .int .u16 s1, .bool s2, .undef, .undef, .undef, .undef, .ptr s7, .sl 5 s8, .int .i64 s9, .int .i64 s10, .undef, .undef, .undef, .undef, .undef, .undef, .undef, .undef, .undef, .undef, .undef, .undef, .undef, .undef, .undef, .undef, .undef, .undef, .undef, .undef, .undef, .undef, .undef, .undef, .undef, .undef, .undef, .undef, .undef, .undef, .undef, .undef, .undef, .undef, .undef, .undef, .undef, .undef, .undef, .undef, .undef, .undef, .undef, .undef, .undef, .undef, .undef, .undef, .undef, .undef, .undef, .undef, .undef, .undef, .undef, .undef, .undef, .undef, .undef, .undef, .undef, .undef, .undef, .undef, .undef, .undef, .undef, .undef, .undef, .undef, .undef, .undef, .undef, .undef, .undef, .undef, .undef, .undef, .undef, .undef, .undef, .undef, .undef, .undef, .undef, .undef, .undef, .undef, .undef, .undef, .undef, .undef, .undef, .undef, .undef, .undef, .undef, .undef] h
theorem L7_0_eq (n m : Nat) (s1 : Int) (s2 : Bool) (s7 : VP) (s8 : VS) (s9 : Int) (s10 : Int) (h : VH) : L7_0 n (m + 1) s1 s2 s7 s8 s9 s10 h =
  (cond (decide ((s10 : Int) < s9))
    ((callD (vF P tab n) P false (.one (.flat (.slice 5))) 14 [.sl 5 (.hp h.length 0 2)] (h ++ [.row 5 [.int .u8 1, .int .u8 (IntKind.wrap .u8 s10)]])).bind fun r1 =>
      ((callD (vF P tab n) P false (.one (.flat (.slice 5))) 13 [.sl 5 s8, .sl 5 r1.1] r1.2).bind fun r2 =>
        (L7_0 n m s1 s2 s7 r2.1 s9 (IntKind.wrap .i64 (s10 + 1)) r2.2)))
    ((shrI .u16 s1 8).bind fun x3 =>
      ((callD (vF P tab n) P false (.one (.flat (.slice 5))) 13 [.sl 5 s8, .sl 5 (.hp h.length 0 2)] (h ++ [.row 5 [.int .u8 (IntKind.wrap .u8 x3), .int .u8 (IntKind.wrap .u8 s1)]])).bind fun r4 =>
        ((callD (vF P tab n) P false (.one (.flat (.int .i64))) 12 [.ptr s7, .sl 5 r4.1] r4.2).bind fun r5 =>
          ((callD (vF P tab n) P false (.one (.flat (.slice 5))) 15 [.agg [.int .i64 3, .bool false, .int .i64 0, .flt .f64 0, .sl 5 .nil, .sl 9 .nil]] r5.2).bind fun r6 =>
            ((callD (vF P tab n) P false (.one (.flat (.slice 5))) 14 [.sl 5 r6.1] r6.2).bind fun r7 =>
              ((callD (vF P tab n) P false (.one (.flat (.int .u8))) 16 [.ptr s7] r7.2).bind fun r8 =>
                (cond ((r8.1 : Int) != 2)
                  (some (.bool false, r8.2))
                  ((callD (vF P tab n) P false (.one (.flat (.int .i64))) 20 [.ptr s7] r8.2).bind fun r9 =>
                    (cond ((r9.1 : Int) != s9)
                      (some (.bool false, r9.2))
                      ((callD (vF P tab n) P false (.one (.flat (.slice 5))) 18 [.ptr s7] r9.2).bind fun r10 =>
                        ((callD (vF P tab n) P false (.one (.flat .bool)) 17 [.sl 5 r10.1, .sl 5 r7.1] r10.2).bind fun r11 =>
                        (cond (!r11.1)
                        (some (.bool false, r11.2))
                        (cond s2
                        ((callD (vF P tab n) P false (.tup []) 27 [.ptr s7] r11.2).bind fun r12 =>
                        ((callD (vF P tab n) P false (.tup []) 29 [.ptr s7, .agg [.int .i64 0, .bool false, .int .i64 0, .flt .f64 0, .sl 5 .nil, .sl 9 .nil]] r12.2).bind fun r13 =>
                        ((callD (vF P tab n) P false (.tup [(.flat (.slice 5)), (.flat .bool)]) 21 [.ptr s7] r13.2).bind fun r14 =>
                        ((callD (vF P tab n) P false (.one (.flat (.int .u8))) 16 [.ptr s7] r14.2).bind fun r15 =>
                        (cond ((r15.1 : Int) == 3)
                        ((callD (vF P tab n) P false (.one (.flat (.int .i64))) 20 [.ptr s7] r15.2).bind fun r16 =>
                        (cond ((r16.1 : Int) == 0)
                        (cond (!r14.1.2.1)
                        ((callD (vF P tab n) P false (.one (.flat (.slice 5))) 18 [.ptr s7] r16.2).bind fun r17 =>
                        (some (.bool ((((VS.len r17.1 : Nat) : Int) : Int) == 0), r17.2)))
                        (some (.bool false, r16.2)))
                        (some (.bool false, r16.2))))
                        (some (.bool false, r15.2)))))))
                        ((callD (vF P tab n) P false (.tup [(.flat (.slice 5)), (.flat .bool)]) 21 [.ptr s7] r11.2).bind fun r18 =>
                        (some (.bool (r18.1.2.1 == (decide ((s9 : Int) > 0))), r18.2))))))))))))))))) := by kernel_rfl
theorem f7_eq (n : Nat) (a0 : Int) (a1 : Int) (a2 : Bool) (h : VH) : bodyV P tab (vF P tab n) n 7 [.int .u8 a0, .int .u16 a1, .bool a2] h =
  ((callD (vF P tab n) P false (.one (.flat .bool)) 9 [] h).bind fun r1 =>
    (cond (!r1.1)
      (some (.bool false, r1.2))
      (cond (decide ((a1 : Int) ≥ 1))
        (cond (decide ((a1 : Int) ≤ 2048))
          ((callD (vF P tab n) P false (.one (.flat .ptr)) 11 [] r1.2).bind fun r2 =>
            (if 22 = 22 ∧ isRowV (r2.2 ++ [.row 5 [.int .u8 104, .int .u8 101, .int .u8 108, .int .u8 108, .int .u8 111]]) r2.2.length 5 = true ∧ 5 < boxK then
              ((callD (vF P tab n) P false (.one (.flat (.slice 5))) 14 [.sl 5 (.hp r2.2.length 0 5)] (r2.2 ++ [.row 5 [.int .u8 104, .int .u8 101, .int .u8 108, .int .u8 108, .int .u8 111]])).bind fun r3 =>
                ((remI a0 5).bind fun x4 =>
                  (L7_0 n n 2049 a2 r2.1 r3.1 (IntKind.wrap .i64 x4) 0 r3.2)))
              else none))
          ((callD (vF P tab n) P false (.one (.flat .ptr)) 11 [] r1.2).bind fun r5 =>
            (if 22 = 22 ∧ isRowV (r5.2 ++ [.row 5 [.int .u8 104, .int .u8 101, .int .u8 108, .int .u8 108, .int .u8 111]]) r5.2.length 5 = true ∧ 5 < boxK then
              ((callD (vF P tab n) P false (.one (.flat (.slice 5))) 14 [.sl 5 (.hp r5.2.length 0 5)] (r5.2 ++ [.row 5 [.int .u8 104, .int .u8 101, .int .u8 108, .int .u8 108, .int .u8 111]])).bind fun r6 =>
                ((remI a0 5).bind fun x7 =>
                  (L7_0 n n a1 a2 r5.1 r6.1 (IntKind.wrap .i64 x7) 0 r6.2)))
              else none)))
        ((callD (vF P tab n) P false (.one (.flat .ptr)) 11 [] r1.2).bind fun r8 =>
          (if 22 = 22 ∧ isRowV (r8.2 ++ [.row 5 [.int .u8 104, .int .u8 101, .int .u8 108, .int .u8 108, .int .u8 111]]) r8.2.length 5 = true ∧ 5 < boxK then
            ((callD (vF P tab n) P false (.one (.flat (.slice 5))) 14 [.sl 5 (.hp r8.2.length 0 5)] (r8.2 ++ [.row 5 [.int .u8 104, .int .u8 101, .int .u8 108, .int .u8 108, .int .u8 111]])).bind fun r9 =>
              ((remI a0 5).bind fun x10 =>
                (L7_0 n n a1 a2 r8.1 r9.1 (IntKind.wrap .i64 x10) 0 r9.2)))
            else none))))) := by kernel_rfl
/-! godown/godownlaw18.SessionNil -/
theorem f8_eq (n : Nat) (a0 : VS) (a1 : Int) (h : VH) : bodyV P tab (vF P tab n) n 8 [.sl 5 a0, .int .u8 a1] h =
  (cond (decide ((((VS.len a0 : Nat) : Int) : Int) > 100))
    ((callD (vF P tab n) P false (.one (.flat .bool)) 9 [] h).bind fun r1 =>
      (some (.bool r1.1, r1.2)))
    ((callD (vF P tab n) P false (.tup []) 29 [.ptr .nil, .agg [.int .i64 (IntKind.wrap .i64 a1), .bool false, .int .i64 0, .flt .f64 0, .sl 5 .nil, .sl 9 .nil]] h).bind fun r2 =>
      ((callD (vF P tab n) P false (.tup []) 27 [.ptr .nil] r2.2).bind fun r3 =>
        ((callD (vF P tab n) P false (.tup [(.flat (.slice 5)), (.flat .bool)]) 21 [.ptr .nil] r3.2).bind fun r4 =>
          ((callD (vF P tab n) P false (.one (.flat .bool)) 9 [] r4.2).bind fun r5 =>
            (cond r5.1
              ((callD (vF P tab n) P false (.one (.flat (.int .i64))) 12 [.ptr .nil, .sl 5 a0] r5.2).bind fun r6 =>
                (cond ((r6.1 : Int) == 0)
                  (cond (!r4.1.2.1)
                    ((callD (vF P tab n) P false (.one (.flat (.slice 5))) 18 [.ptr .nil] r6.2).bind fun r7 =>
                      (cond ((((VS.len r7.1 : Nat) : Int) : Int) == 0)
                        ((callD (vF P tab n) P false (.one (.flat (.int .u8))) 16 [.ptr .nil] r7.2).bind fun r8 =>
                        (cond ((r8.1 : Int) == 3)
                        ((callD (vF P tab n) P false (.one (.flat (.int .i64))) 20 [.ptr .nil] r8.2).bind fun r9 =>
                        (some (.bool ((r9.1 : Int) == 0), r9.2)))
                        (some (.bool false, r8.2))))
                        (some (.bool false, r7.2))))
                    (some (.bool false, r6.2)))
                  (some (.bool false, r6.2))))
              (some (.bool false, r5.2)))))))) := by kernel_rfl
/-! godown/godownlaw18.greets -/
theorem f9_eq (n : Nat)  (h : VH) : bodyV P tab (vF P tab n) n 9 [] h =
  ((callD (vF P tab n) P false (.one (.flat .ptr)) 11 [] h).bind fun r1 =>
    (if 22 = 22 ∧ isRowV (r1.2 ++ [.row 5 [.int .u8 104, .int .u8 101, .int .u8 108, .int .u8 108, .int .u8 111]]) r1.2.length 5 = true ∧ 5 < boxK then
      ((callD (vF P tab n) P false (.one (.flat (.slice 5))) 14 [.sl 5 (.hp r1.2.length 0 5)] (r1.2 ++ [.row 5 [.int .u8 104, .int .u8 101, .int .u8 108, .int .u8 108, .int .u8 111]])).bind fun r2 =>
        ((callD (vF P tab n) P false (.one (.flat (.int .i64))) 12 [.ptr r1.1, .sl 5 r2.1] r2.2).bind fun r3 =>
          (cond ((r3.1 : Int) == 0)
            ((callD (vF P tab n) P false (.one (.flat (.int .u8))) 16 [.ptr r1.1] r3.2).bind fun r4 =>
              (cond ((r4.1 : Int) == 1)
                ((callD (vF P tab n) P false (.one (.flat (.int .i64))) 20 [.ptr r1.1] r4.2).bind fun r5 =>
                  (some (.bool ((r5.1 : Int) == 0), r5.2)))
                (some (.bool false, r4.2))))
            (some (.bool false, r3.2)))))
      else none)) := by kernel_rfl
/-! godown/godownlaw18.small -/
noncomputable def L10_0 (n m : Nat) (s0 : VS) (s3 : Int) (h : VH) : VRes := loopAt P tab 10 [1, 0, 1, 0] n [] m [.sl 42 s0, .undef, .undef, .int .i64 s3, .undef, .undef, .undef, .undef, .undef, .undef, .undef, .undef, .undef, .undef, .undef, .undef, .undef, .undef, .undef, .undef] h
theorem L10_0_eq (n m : Nat) (s0 : VS) (s3 : Int) (h : VH) : L10_0 n (m + 1) s0 s3 h =
  (cond (decide ((s3 : Int) < ((VS.len s0 : Nat) : Int)))
    ((ixV 3 s0 s3).bind fun p1 =>
      ((atO p1 1).bind fun p2 =>
        ((ldV (.flat (.slice 5)) h p2).bind fun x3 =>
          (cond (decide ((((VS.len x3 : Nat) : Int) : Int) > 60))
            (some (.bool false, h))
            (L10_0 n m s0 (IntKind.wrap .i64 (s3 + 1)) h)))))
    (some (.bool (decide ((((VS.len s0 : Nat) : Int) : Int) ≤ 60)), h))) := by kernel_rfl
theorem f10_eq (n : Nat) (a0 : VS) (h : VH) : bodyV P tab (vF P tab n) n 10 [.sl 42 a0] h =
  (L10_0 n n a0 0 h) := by kernel_rfl
/-! godown/session.New -/
theorem f11_eq (n : Nat)  (h : VH) : bodyV P tab (vF P tab n) n 11 [] h =
  ((callD (vF P tab n) P false (.one (.flat .ptr)) 32 [] h).bind fun r1 =>
    (some (.ptr (.ob r1.2.length 0), (r1.2 ++ [.row (72 + boxK) [.int .u8 0, .ptr r1.1, .sl 22 .nil, .sl 5 .nil]])))) := by kernel_rfl
/-! (*godown/session.Session).Deliver -/
noncomputable def L12_0 (n m : Nat) (s0 : VP) (s5 : Int) (s17 : VS) (s18 : Int) (s19 : Int) (h : VH) : VRes := loopAt P tab 12 [1, 1, 1, 0, 1, 0] n [] m [.ptr s0, .undef, .undef, .undef, .undef, .int .i64 s5, .undef, .undef, .undef, .undef, .undef, .undef, .undef, .undef, .undef, .undef, .undef, .sl 22 s17, .int .i64 s18, .int .i64 s19, .undef, .undef, .undef, .undef, .undef, .undef, .undef, .undef, .undef, .undef, .undef, .undef, .undef, .undef, .undef, .undef, .undef, .undef, .undef, .undef, .undef, .undef, .undef, .undef] h
theorem L12_0_eq (n m : Nat) (s0 : VP) (s5 : Int) (s17 : VS) (s18 : Int) (s19 : Int) (h : VH) : L12_0 n (m + 1) s0 s5 s17 s18 s19 h =
  (cond (decide ((s19 : Int) < s18))
    ((ixV 1 s17 s19).bind fun p1 =>
      ((ldV (.flat (.slice 5)) h p1).bind fun x2 =>
        ((callD (vF P tab n) P false (.one (.flat (.int .i64))) 34 [.ptr s0, .sl 5 x2] h).bind fun r3 =>
          (L12_0 n m s0 (IntKind.wrap .i64 (s5 + r3.1)) s17 s18 (IntKind.wrap .i64 (s19 + 1)) r3.2))))
    ((nn s0).bind fun p4 =>
      ((atO p4 1).bind fun p5 =>
        ((ldV (.flat .ptr) h p5).bind fun x6 =>
          ((callD (vF P tab n) P false (.one (.flat .bool)) 35 [.ptr x6] h).bind fun r7 =>
            (cond r7.1
              ((nn s0).bind fun p8 =>
                ((atO p8 0).bind fun p9 =>
                  ((ldV (.flat (.int .u8)) r7.2 p9).bind fun x10 =>
                    (cond (decide ((x10 : Int) < 2))
                      ((callD (vF P tab n) P false (.tup []) 36 [.ptr s0, .int .i64 3] r7.2).bind fun r11 =>
                        (some (.int .i64 s5, r11.2)))
                      (some (.int .i64 s5, r7.2))))))
              (some (.int .i64 s5, r7.2)))))))) := by kernel_rfl
theorem f12_eq (n : Nat) (a0 : VP) (a1 : VS) (h : VH) : bodyV P tab (vF P tab n) n 12 [.ptr a0, .sl 5 a1] h =
  ((callD (vF P tab n) P false (.one (.flat (.int .u8))) 16 [.ptr a0] h).bind fun r1 =>
    (cond (decide ((r1.1 : Int) ≥ 2))
      (some (.int .i64 0, r1.2))
      ((nn a0).bind fun p2 =>
        ((atO p2 1).bind fun p3 =>
          ((ldV (.flat .ptr) r1.2 p3).bind fun x4 =>
            ((callD (vF P tab n) P false (.one (.flat (.slice 22))) 33 [.ptr x4, .sl 5 a1] r1.2).bind fun r5 =>
              (L12_0 n n a0 0 r5.1 ((VS.len r5.1 : Nat) : Int) 0 r5.2))))))) := by kernel_rfl
/-! godown/godownref01.Join -/
theorem f13_eq (n : Nat) (a0 : VS) (a1 : VS) (h : VH) : bodyV P tab (vF P tab n) n 13 [.sl 5 a0, .sl 5 a1] h =
  ((appD true h 1 1 5 .nil a0).bind fun r1 =>
    ((appD true r1.2 1 1 5 r1.1 a1).bind fun r2 =>
      (some (.sl 5 r2.1, r2.2)))) := by kernel_rfl
/-! godown/godownref13.Frame -/
theorem f14_eq (n : Nat) (a0 : VS) (h : VH) : bodyV P tab (vF P tab n) n 14 [.sl 5 a0] h =
  ((quoI .i64 ((VS.len a0 : Nat) : Int) 256).bind fun x1 =>
    ((remI ((VS.len a0 : Nat) : Int) 256).bind fun x2 =>
      ((callD (vF P tab n) P false (.one (.flat (.slice 5))) 13 [.sl 5 (.fz [[.int .u8 (IntKind.wrap .u8 x1)], [.int .u8 (IntKind.wrap .u8 x2)]] (.ex 2)), .sl 5 a0] h).bind fun r3 =>
        (some (.sl 5 r3.1, r3.2))))) := by kernel_rfl
/-! godown/godownref11.EncodeReply -/
theorem f15_eq (n : Nat) (a0_0 : Int) (a0_2 : Int) (h : VH) : bodyV P tab (vF P tab n) n 15 [.agg [.int .i64 a0_0, .bool false, .int .i64 a0_2, .flt .f64 0, .sl 5 .nil, .sl 9 .nil]] h =
  ((ldV (.flat (.int .i64)) (h ++ [.row (36 + boxK) [.int .i64 a0_0, .bool false, .int .i64 a0_2, .flt .f64 0, .sl 5 .nil, .sl 9 .nil]]) (.ob h.length 0)).bind fun x1 =>
    ((ldV (.flat .bool) (h ++ [.row (36 + boxK) [.int .i64 a0_0, .bool false, .int .i64 a0_2, .flt .f64 0, .sl 5 .nil, .sl 9 .nil]]) (.ob h.length 1)).bind fun x2 =>
      (cond x2
        ((ixV 1 (.fz [[.int .u8 (IntKind.wrap .u8 x1)], [.int .u8 0]] (.ex 2)) 1).bind fun p3 =>
          ((stV (h ++ [.row (36 + boxK) [.int .i64 a0_0, .bool false, .int .i64 a0_2, .flt .f64 0, .sl 5 .nil, .sl 9 .nil]]) p3 [.int .u8 1]).bind fun h4 =>
            ((ldV (.flat (.int .i64)) h4 (.ob h.length 2)).bind fun x5 =>
              ((callD (vF P tab n) P false (.one (.flat (.slice 5))) 37 [.int .i64 x5] h4).bind fun r6 =>
                ((appD true r6.2 1 1 5 (.fz [[.int .u8 (IntKind.wrap .u8 x1)], [.int .u8 0]] (.ex 2)) r6.1).bind fun r7 =>
                  ((ldV (.flat (.flt .f64)) r7.2 (.ob h.length 3)).bind fun x8 =>
                    ((callD (vF P tab n) P false (.one (.flat (.int .u64))) 39 [.flt .f64 x8] r7.2).bind fun r9 =>
                      ((callD (vF P tab n) P false (.one (.flat (.slice 5))) 38 [.int .u64 r9.1] r9.2).bind fun r10 =>
                        ((appD true r10.2 1 1 5 r7.1 r10.1).bind fun r11 =>
                        ((ldV (.flat (.slice 5)) r11.2 (.ob h.length 4)).bind fun x12 =>
                        ((strV r11.2 5 x12).bind fun z13 =>
                        ((callD (vF P tab n) P false (.one (.flat (.slice 5))) 40 [.str z13] r11.2).bind fun r14 =>
                        ((appD true r14.2 1 1 5 r11.1 r14.1).bind fun r15 =>
                        ((ldV (.flat (.slice 9)) r15.2 (.ob h.length 5)).bind fun x16 =>
                        ((callD (vF P tab n) P false (.one (.flat (.slice 5))) 41 [.sl 9 x16] r15.2).bind fun r17 =>
                        ((appD true r17.2 1 1 5 r15.1 r17.1).bind fun r18 =>
                        (some (.sl 5 r18.1, r18.2))))))))))))))))))
        ((ldV (.flat (.int .i64)) (h ++ [.row (36 + boxK) [.int .i64 a0_0, .bool false, .int .i64 a0_2, .flt .f64 0, .sl 5 .nil, .sl 9 .nil]]) (.ob h.length 2)).bind fun x19 =>
          ((callD (vF P tab n) P false (.one (.flat (.slice 5))) 37 [.int .i64 x19] (h ++ [.row (36 + boxK) [.int .i64 a0_0, .bool false, .int .i64 a0_2, .flt .f64 0, .sl 5 .nil, .sl 9 .nil]])).bind fun r20 =>
            ((appD true r20.2 1 1 5 (.fz [[.int .u8 (IntKind.wrap .u8 x1)], [.int .u8 0]] (.ex 2)) r20.1).bind fun r21 =>
              ((ldV (.flat (.flt .f64)) r21.2 (.ob h.length 3)).bind fun x22 =>
                ((callD (vF P tab n) P false (.one (.flat (.int .u64))) 39 [.flt .f64 x22] r21.2).bind fun r23 =>
                  ((callD (vF P tab n) P false (.one (.flat (.slice 5))) 38 [.int .u64 r23.1] r23.2).bind fun r24 =>
                    ((appD true r24.2 1 1 5 r21.1 r24.1).bind fun r25 =>
                      ((ldV (.flat (.slice 5)) r25.2 (.ob h.length 4)).bind fun x26 =>
                        ((strV r25.2 5 x26).bind fun z27 =>
                        ((callD (vF P tab n) P false (.one (.flat (.slice 5))) 40 [.str z27] r25.2).bind fun r28 =>
                        ((appD true r28.2 1 1 5 r25.1 r28.1).bind fun r29 =>
                        ((ldV (.flat (.slice 9)) r29.2 (.ob h.length 5)).bind fun x30 =>
                        ((callD (vF P tab n) P false (.one (.flat (.slice 5))) 41 [.sl 9 x30] r29.2).bind fun r31 =>
                        ((appD true r31.2 1 1 5 r29.1 r31.1).bind fun r32 =>
                        (some (.sl 5 r32.1, r32.2))))))))))))))))))) := by kernel_rfl
/-! (*godown/session.Session).State -/
theorem f16_eq (n : Nat) (a0 : VP) (h : VH) : bodyV P tab (vF P tab n) n 16 [.ptr a0] h =
  (cond (VP.isNil a0)
    (some (.int .u8 3, h))
    ((nn a0).bind fun p1 =>
      ((atO p1 0).bind fun p2 =>
        ((ldV (.flat (.int .u8)) h p2).bind fun x3 =>
          (some (.int .u8 x3, h)))))) := by kernel_rfl
/-! godown/godownref01.Bytes -/
noncomputable def L17_0 (n m : Nat) (s0 : VS) (s1 : VS) (s5 : Int) (h : VH) : VRes := loopAt P tab 17 [1, 1, 0, 1, 0] n [] m [.sl 5 s0, .sl 5 s1, .undef, .undef, .undef, .int .i64 s5, .undef, .undef, .undef, .undef, .undef, .undef, .undef, .undef, .undef, .undef, .undef, .undef, .undef, .undef, .undef, .undef, .undef, .undef, .undef, .undef] h
theorem L17_0_eq (n m : Nat) (s0 : VS) (s1 : VS) (s5 : Int) (h : VH) : L17_0 n (m + 1) s0 s1 s5 h =
  (cond (decide ((s5 : Int) < ((VS.len s0 : Nat) : Int)))
    ((ixV 1 s0 s5).bind fun p1 =>
      ((ldV (.flat (.int .u8)) h p1).bind fun x2 =>
        ((ixV 1 s1 s5).bind fun p3 =>
          ((ldV (.flat (.int .u8)) h p3).bind fun x4 =>
            (cond ((x2 : Int) != x4)
              (some (.bool false, h))
              (L17_0 n m s0 s1 (IntKind.wrap .i64 (s5 + 1)) h))))))
    (some (.bool true, h))) := by kernel_rfl
theorem f17_eq (n : Nat) (a0 : VS) (a1 : VS) (h : VH) : bodyV P tab (vF P tab n) n 17 [.sl 5 a0, .sl 5 a1] h =
  (cond ((((VS.len a0 : Nat) : Int) : Int) != ((VS.len a1 : Nat) : Int))
    (some (.bool false, h))
    (L17_0 n n a0 a1 0 h)) := by kernel_rfl
/-! (*godown/session.Session).Take -/
theorem f18_eq (n : Nat) (a0 : VP) (h : VH) : bodyV P tab (vF P tab n) n 18 [.ptr a0] h =
  (cond (VP.isNil a0)
    (some (.sl 5 .nil, h))
    ((nn a0).bind fun p1 =>
      ((atO p1 3).bind fun p2 =>
        ((ldV (.flat (.slice 5)) h p2).bind fun x3 =>
          ((nn a0).bind fun p4 =>
            ((atO p4 3).bind fun p5 =>
              ((stV h p5 [.sl 5 .nil]).bind fun h6 =>
                (some (.sl 5 x3, h6))))))))) := by kernel_rfl
/-! godown/godownlaw18.bytes -/
theorem f19_eq (n : Nat) (a0_0 : Int) (a0_1 : VS) (a0_2 : Int) (h : VH) : bodyV P tab (vF P tab n) n 19 [.agg [.int .u8 a0_0, .sl 5 a0_1, .int .u8 a0_2]] h =
  ((ldV (.flat (.slice 5)) (h ++ [.row (42 + boxK) [.int .u8 a0_0, .sl 5 a0_1, .int .u8 a0_2]]) (.ob h.length 1)).bind fun x1 =>
    (cond ((((VS.len x1 : Nat) : Int) : Int) == 0)
      ((ldV (.flat (.int .u8)) (h ++ [.row (42 + boxK) [.int .u8 a0_0, .sl 5 a0_1, .int .u8 a0_2]]) (.ob h.length 2)).bind fun x2 =>
        ((ldV (.flat (.int .u8)) (List.append (α := VO) (h ++ [.row (42 + boxK) [.int .u8 a0_0, .sl 5 a0_1, .int .u8 a0_2]]) [.row 5 [.int .u8 x2]]) (.ob h.length 0)).bind fun x3 =>
          ((remI x3 16).bind fun x4 =>
            (cond ((x4 : Int) == 0)
              (if 22 = 22 ∧ isRowV (List.append (α := VO) (List.append (α := VO) (h ++ [.row (42 + boxK) [.int .u8 a0_0, .sl 5 a0_1, .int .u8 a0_2]]) [.row 5 [.int .u8 x2]]) [.row 5 [.int .u8 104, .int .u8 101, .int .u8 108, .int .u8 108, .int .u8 111]]) (List.length ((List.append (α := VO) (h ++ [.row (42 + boxK) [.int .u8 a0_0, .sl 5 a0_1, .int .u8 a0_2]]) [.row 5 [.int .u8 x2]]) : VH)) 5 = true ∧ 5 < boxK then
                ((callD (vF P tab n) P false (.one (.flat (.slice 5))) 14 [.sl 5 (.hp (List.length ((List.append (α := VO) (h ++ [.row (42 + boxK) [.int .u8 a0_0, .sl 5 a0_1, .int .u8 a0_2]]) [.row 5 [.int .u8 x2]]) : VH)) 0 5)] (List.append (α := VO) (List.append (α := VO) (h ++ [.row (42 + boxK) [.int .u8 a0_0, .sl 5 a0_1, .int .u8 a0_2]]) [.row 5 [.int .u8 x2]]) [.row 5 [.int .u8 104, .int .u8 101, .int .u8 108, .int .u8 108, .int .u8 111]])).bind fun r5 =>
                  (some (.sl 5 r5.1, r5.2)))
                else none)
              (cond ((x4 : Int) == 1)
                (if 22 = 22 ∧ isRowV (List.append (α := VO) (List.append (α := VO) (h ++ [.row (42 + boxK) [.int .u8 a0_0, .sl 5 a0_1, .int .u8 a0_2]]) [.row 5 [.int .u8 x2]]) [.row 5 [.int .u8 104, .int .u8 101, .int .u8 108, .int .u8 108, .int .u8 111]]) (List.length ((List.append (α := VO) (h ++ [.row (42 + boxK) [.int .u8 a0_0, .sl 5 a0_1, .int .u8 a0_2]]) [.row 5 [.int .u8 x2]]) : VH)) 5 = true ∧ 5 < boxK then
                  ((callD (vF P tab n) P false (.one (.flat (.slice 5))) 14 [.sl 5 (.hp (List.length ((List.append (α := VO) (h ++ [.row (42 + boxK) [.int .u8 a0_0, .sl 5 a0_1, .int .u8 a0_2]]) [.row 5 [.int .u8 x2]]) : VH)) 0 5)] (List.append (α := VO) (List.append (α := VO) (h ++ [.row (42 + boxK) [.int .u8 a0_0, .sl 5 a0_1, .int .u8 a0_2]]) [.row 5 [.int .u8 x2]]) [.row 5 [.int .u8 104, .int .u8 101, .int .u8 108, .int .u8 108, .int .u8 111]])).bind fun r6 =>
                    (some (.sl 5 r6.1, r6.2)))
                  else none)
                (cond ((x4 : Int) == 2)
                  ((ldV (.flat (.slice 5)) (List.append (α := VO) (h ++ [.row (42 + boxK) [.int .u8 a0_0, .sl 5 a0_1, .int .u8 a0_2]]) [.row 5 [.int .u8 x2]]) (.ob h.length 1)).bind fun x7 =>
                    (some (.sl 5 x7, (List.append (α := VO) (h ++ [.row (42 + boxK) [.int .u8 a0_0, .sl 5 a0_1, .int .u8 a0_2]]) [.row 5 [.int .u8 x2]]))))
                  (cond ((x4 : Int) == 3)
                    ((ldV (.flat (.int .u8)) (List.append (α := VO) (h ++ [.row (42 + boxK) [.int .u8 a0_0, .sl 5 a0_1, .int .u8 a0_2]]) [.row 5 [.int .u8 x2]]) (.ob h.length 2)).bind fun x8 =>
                      ((remI (IntKind.wrap .i64 x8) (IntKind.wrap .i64 (((VS.len (.hp (List.length ((h ++ [.row (42 + boxK) [.int .u8 a0_0, .sl 5 a0_1, .int .u8 a0_2]]) : VH)) 0 1) : Nat) : Int) + 2))).bind fun x9 =>
                        ((callD (vF P tab n) P false (.one (.flat (.slice 5))) 14 [.sl 5 (.hp (List.length ((h ++ [.row (42 + boxK) [.int .u8 a0_0, .sl 5 a0_1, .int .u8 a0_2]]) : VH)) 0 1)] (List.append (α := VO) (h ++ [.row (42 + boxK) [.int .u8 a0_0, .sl 5 a0_1, .int .u8 a0_2]]) [.row 5 [.int .u8 x2]])).bind fun r10 =>
                        (cond (V.stays r10.2 [(.ob h.length 2, .int .u8, .int .u8 x8)])
                        ((cutD [] 5 1 r10.1 none (some x9) none).bind fun z11 =>
                        (some (.sl 5 z11, r10.2)))
                        none))))
                    (cond ((x4 : Int) == 4)
                      ((callD (vF P tab n) P false (.one (.flat (.slice 5))) 14 [.sl 5 (.hp (List.length ((h ++ [.row (42 + boxK) [.int .u8 a0_0, .sl 5 a0_1, .int .u8 a0_2]]) : VH)) 0 1)] (List.append (α := VO) (h ++ [.row (42 + boxK) [.int .u8 a0_0, .sl 5 a0_1, .int .u8 a0_2]]) [.row 5 [.int .u8 x2]])).bind fun r12 =>
                        ((callD (vF P tab n) P false (.one (.flat (.slice 5))) 14 [.sl 5 (.hp (List.length ((h ++ [.row (42 + boxK) [.int .u8 a0_0, .sl 5 a0_1, .int .u8 a0_2]]) : VH)) 0 1)] r12.2).bind fun r13 =>
                        ((callD (vF P tab n) P false (.one (.flat (.slice 5))) 13 [.sl 5 r12.1, .sl 5 r13.1] r13.2).bind fun r14 =>
                        (some (.sl 5 r14.1, r14.2)))))
                      ((callD (vF P tab n) P false (.one (.flat (.slice 5))) 14 [.sl 5 (.hp (List.length ((h ++ [.row (42 + boxK) [.int .u8 a0_0, .sl 5 a0_1, .int .u8 a0_2]]) : VH)) 0 1)] (List.append (α := VO) (h ++ [.row (42 + boxK) [.int .u8 a0_0, .sl 5 a0_1, .int .u8 a0_2]]) [.row 5 [.int .u8 x2]])).bind fun r15 =>
                        (some (.sl 5 r15.1, r15.2)))))))))))
      ((ldV (.flat (.int .u8)) (h ++ [.row (42 + boxK) [.int .u8 a0_0, .sl 5 a0_1, .int .u8 a0_2]]) (.ob h.length 0)).bind fun x16 =>
        ((remI x16 16).bind fun x17 =>
          (cond ((x17 : Int) == 0)
            (if 22 = 22 ∧ isRowV (List.append (α := VO) (h ++ [.row (42 + boxK) [.int .u8 a0_0, .sl 5 a0_1, .int .u8 a0_2]]) [.row 5 [.int .u8 104, .int .u8 101, .int .u8 108, .int .u8 108, .int .u8 111]]) (List.length ((h ++ [.row (42 + boxK) [.int .u8 a0_0, .sl 5 a0_1, .int .u8 a0_2]]) : VH)) 5 = true ∧ 5 < boxK then
              ((callD (vF P tab n) P false (.one (.flat (.slice 5))) 14 [.sl 5 (.hp (List.length ((h ++ [.row (42 + boxK) [.int .u8 a0_0, .sl 5 a0_1, .int .u8 a0_2]]) : VH)) 0 5)] (List.append (α := VO) (h ++ [.row (42 + boxK) [.int .u8 a0_0, .sl 5 a0_1, .int .u8 a0_2]]) [.row 5 [.int .u8 104, .int .u8 101, .int .u8 108, .int .u8 108, .int .u8 111]])).bind fun r18 =>
                (some (.sl 5 r18.1, r18.2)))
              else none)
            (cond ((x17 : Int) == 1)
              (if 22 = 22 ∧ isRowV (List.append (α := VO) (h ++ [.row (42 + boxK) [.int .u8 a0_0, .sl 5 a0_1, .int .u8 a0_2]]) [.row 5 [.int .u8 104, .int .u8 101, .int .u8 108, .int .u8 108, .int .u8 111]]) (List.length ((h ++ [.row (42 + boxK) [.int .u8 a0_0, .sl 5 a0_1, .int .u8 a0_2]]) : VH)) 5 = true ∧ 5 < boxK then
                ((callD (vF P tab n) P false (.one (.flat (.slice 5))) 14 [.sl 5 (.hp (List.length ((h ++ [.row (42 + boxK) [.int .u8 a0_0, .sl 5 a0_1, .int .u8 a0_2]]) : VH)) 0 5)] (List.append (α := VO) (h ++ [.row (42 + boxK) [.int .u8 a0_0, .sl 5 a0_1, .int .u8 a0_2]]) [.row 5 [.int .u8 104, .int .u8 101, .int .u8 108, .int .u8 108, .int .u8 111]])).bind fun r19 =>
                  (some (.sl 5 r19.1, r19.2)))
                else none)
              (cond ((x17 : Int) == 2)
                ((ldV (.flat (.slice 5)) (h ++ [.row (42 + boxK) [.int .u8 a0_0, .sl 5 a0_1, .int .u8 a0_2]]) (.ob h.length 1)).bind fun x20 =>
                  (some (.sl 5 x20, (h ++ [.row (42 + boxK) [.int .u8 a0_0, .sl 5 a0_1, .int .u8 a0_2]]))))
                (cond ((x17 : Int) == 3)
                  ((ldV (.flat (.int .u8)) (h ++ [.row (42 + boxK) [.int .u8 a0_0, .sl 5 a0_1, .int .u8 a0_2]]) (.ob h.length 2)).bind fun x21 =>
                    ((remI (IntKind.wrap .i64 x21) (IntKind.wrap .i64 (((VS.len x1 : Nat) : Int) + 2))).bind fun x22 =>
                      ((callD (vF P tab n) P false (.one (.flat (.slice 5))) 14 [.sl 5 x1] (h ++ [.row (42 + boxK) [.int .u8 a0_0, .sl 5 a0_1, .int .u8 a0_2]])).bind fun r23 =>
                        (cond (V.stays r23.2 [(.ob h.length 2, .int .u8, .int .u8 x21)])
                        ((cutD [] 5 1 r23.1 none (some x22) none).bind fun z24 =>
                        (some (.sl 5 z24, r23.2)))
                        none))))
                  (cond ((x17 : Int) == 4)
                    ((callD (vF P tab n) P false (.one (.flat (.slice 5))) 14 [.sl 5 x1] (h ++ [.row (42 + boxK) [.int .u8 a0_0, .sl 5 a0_1, .int .u8 a0_2]])).bind fun r25 =>
                      ((callD (vF P tab n) P false (.one (.flat (.slice 5))) 14 [.sl 5 x1] r25.2).bind fun r26 =>
                        ((callD (vF P tab n) P false (.one (.flat (.slice 5))) 13 [.sl 5 r25.1, .sl 5 r26.1] r26.2).bind fun r27 =>
                        (some (.sl 5 r27.1, r27.2)))))
                    ((callD (vF P tab n) P false (.one (.flat (.slice 5))) 14 [.sl 5 x1] (h ++ [.row (42 + boxK) [.int .u8 a0_0, .sl 5 a0_1, .int .u8 a0_2]])).bind fun r28 =>
                      (some (.sl 5 r28.1, r28.2)))))))))))) := by kernel_rfl
/-! (*godown/session.Session).Queue -/
theorem f20_eq (n : Nat) (a0 : VP) (h : VH) : bodyV P tab (vF P tab n) n 20 [.ptr a0] h =
  (cond (VP.isNil a0)
    (some (.int .i64 0, h))
    ((nn a0).bind fun p1 =>
      ((atO p1 2).bind fun p2 =>
        ((ldV (.flat (.slice 22)) h p2).bind fun x3 =>
          (some (.int .i64 ((VS.len x3 : Nat) : Int), h)))))) := by kernel_rfl
/-! (*godown/session.Session).Next -/
theorem f21_eq (n : Nat) (a0 : VP) (h : VH) : bodyV P tab (vF P tab n) n 21 [.ptr a0] h =
  ((callD (vF P tab n) P false (.one (.flat (.int .i64))) 20 [.ptr a0] h).bind fun r1 =>
    (cond ((r1.1 : Int) == 0)
      (some (.tup [.sl 5 .nil, .bool false], r1.2))
      ((nn a0).bind fun p2 =>
        ((atO p2 2).bind fun p3 =>
          ((ldV (.flat (.slice 22)) r1.2 p3).bind fun x4 =>
            ((ixV 1 x4 0).bind fun p5 =>
              ((ldV (.flat (.slice 5)) r1.2 p5).bind fun x6 =>
                ((nn a0).bind fun p7 =>
                  ((atO p7 2).bind fun p8 =>
                    ((ldV (.flat (.slice 22)) r1.2 p8).bind fun x9 =>
                      ((cutD r1.2 22 1 x9 (some 1) none none).bind fun z10 =>
                        ((nn a0).bind fun p11 =>
                        ((atO p11 2).bind fun p12 =>
                        ((stV r1.2 p12 [.sl 22 z10]).bind fun h13 =>
                        (some (.tup [.sl 5 x6, .bool true], h13)))))))))))))))) := by kernel_rfl
/-! godown/godownref13.All -/
noncomputable def L22_0 (n m : Nat) (s0 : VS) (s5 : VS) (h : VH) : VRes := loopAt P tab 22 [1, 1, 0, 0] n [] m [.sl 5 s0, .undef, .undef, .undef, .undef, .sl 22 s5, .undef, .undef, .undef, .undef, .undef, .undef, .undef, .undef, .undef, .undef, .undef, .undef, .undef, .undef, .undef, .undef, .undef, .undef, .undef, .undef, .undef, .undef, .undef, .undef, .undef, .undef, .undef, .undef, .undef, .undef, .undef, .undef, .undef, .undef, .undef, .undef, .undef, .undef, .undef, .undef, .undef, .undef, .undef] h
theorem L22_0_eq (n m : Nat) (s0 : VS) (s5 : VS) (h : VH) : L22_0 n (m + 1) s0 s5 h =
  (cond (decide ((((VS.len s0 : Nat) : Int) : Int) ≥ 2))
    ((ixV 1 s0 0).bind fun p1 =>
      ((ldV (.flat (.int .u8)) h p1).bind fun x2 =>
        ((ixV 1 s0 1).bind fun p3 =>
          ((ldV (.flat (.int .u8)) h p3).bind fun x4 =>
            (cond (decide (((IntKind.wrap .i64 ((IntKind.wrap .i64 (256 * (IntKind.wrap .i64 x2))) + (IntKind.wrap .i64 x4))) : Int) < 1))
              (some (.tup [.sl 22 s5, .int .i64 0, .bool true], h))
              (cond (decide (((IntKind.wrap .i64 ((IntKind.wrap .i64 (256 * (IntKind.wrap .i64 x2))) + (IntKind.wrap .i64 x4))) : Int) > 2048))
                (some (.tup [.sl 22 s5, .int .i64 0, .bool true], h))
                (cond (decide (((IntKind.wrap .i64 (((VS.len s0 : Nat) : Int) - 2)) : Int) < (IntKind.wrap .i64 ((IntKind.wrap .i64 (256 * (IntKind.wrap .i64 x2))) + (IntKind.wrap .i64 x4)))))
                  (some (.tup [.sl 22 s5, .int .i64 ((VS.len s0 : Nat) : Int), .bool false], h))
                  ((cutD h 5 1 s0 (some 2) (some (IntKind.wrap .i64 (2 + (IntKind.wrap .i64 ((IntKind.wrap .i64 (256 * (IntKind.wrap .i64 x2))) + (IntKind.wrap .i64 x4)))))) none).bind fun z5 =>
                    (if List.all [.sl 5 z5] closed1 = true then
                      ((appD true h 1 24 22 s5 (.fz [[.sl 5 (VS.strip z5)]] (.ex 1))).bind fun r6 =>
                        ((cutD r6.2 5 1 s0 (some (IntKind.wrap .i64 (2 + (IntKind.wrap .i64 ((IntKind.wrap .i64 (256 * (IntKind.wrap .i64 x2))) + (IntKind.wrap .i64 x4)))))) none none).bind fun z7 =>
                        (L22_0 n m z7 r6.1 r6.2)))
                      else none)))))))))
    (some (.tup [.sl 22 s5, .int .i64 ((VS.len s0 : Nat) : Int), .bool false], h))) := by kernel_rfl
theorem f22_eq (n : Nat) (a0 : VS) (h : VH) : bodyV P tab (vF P tab n) n 22 [.sl 5 a0] h =
  (L22_0 n n a0 .nil h) := by kernel_rfl
/-! godown/godownref11.DecodeReply -/
theorem f23_eq (n : Nat) (a0 : VS) (h : VH) : bodyV P tab (vF P tab n) n 23 [.sl 5 a0] h =
  ((callD (vF P tab n) P false (.one (.flat (.int .u64))) 42 [.ptr (.ob (List.length ((h ++ [.row (36 + boxK) [.int .i64 0, .bool false, .int .i64 0, .flt .f64 0, .sl 5 .nil, .sl 9 .nil]]) : VH)) 0), .int .i64 1] (List.append (α := VO) (h ++ [.row (36 + boxK) [.int .i64 0, .bool false, .int .i64 0, .flt .f64 0, .sl 5 .nil, .sl 9 .nil]]) [.row (83 + boxK) [.sl 5 a0, .bool false]])).bind fun r1 =>
    ((stV (r1.2 ++ [.row (36 + boxK) [.int .i64 0, .bool false, .int .i64 0, .flt .f64 0, .sl 5 .nil, .sl 9 .nil]]) (.ob r1.2.length 0) [.int .i64 (IntKind.wrap .i64 r1.1), .bool false, .int .i64 0, .flt .f64 0, .sl 5 .nil, .sl 9 .nil]).bind fun h2 =>
      ((callD (vF P tab n) P false (.one (.flat (.int .u64))) 42 [.ptr (.ob (List.length ((h ++ [.row (36 + boxK) [.int .i64 0, .bool false, .int .i64 0, .flt .f64 0, .sl 5 .nil, .sl 9 .nil]]) : VH)) 0), .int .i64 1] h2).bind fun r3 =>
        ((stV r3.2 (.ob r1.2.length 1) [.bool ((r3.1 : Int) == 1)]).bind fun h4 =>
          ((callD (vF P tab n) P false (.one (.flat (.int .u64))) 42 [.ptr (.ob (List.length ((h ++ [.row (36 + boxK) [.int .i64 0, .bool false, .int .i64 0, .flt .f64 0, .sl 5 .nil, .sl 9 .nil]]) : VH)) 0), .int .i64 2] h4).bind fun r5 =>
            ((stV r5.2 (.ob r1.2.length 2) [.int .i64 (IntKind.wrap .i64 r5.1)]).bind fun h6 =>
              ((callD (vF P tab n) P false (.one (.flat (.int .u64))) 42 [.ptr (.ob (List.length ((h ++ [.row (36 + boxK) [.int .i64 0, .bool false, .int .i64 0, .flt .f64 0, .sl 5 .nil, .sl 9 .nil]]) : VH)) 0), .int .i64 8] h6).bind fun r7 =>
                ((callD (vF P tab n) P false (.tup [(.flat (.flt .f64)), (.flat (.int .i64))]) 43 [.int .u64 r7.1] r7.2).bind fun r8 =>
                  ((stV r8.2 (.ob r1.2.length 3) [.flt .f64 r8.1.1]).bind fun h9 =>
                    ((callD (vF P tab n) P false (.one (.flat .str)) 44 [.ptr (.ob (List.length ((h ++ [.row (36 + boxK) [.int .i64 0, .bool false, .int .i64 0, .flt .f64 0, .sl 5 .nil, .sl 9 .nil]]) : VH)) 0)] h9).bind fun r10 =>
                      ((stV r10.2 (.ob r1.2.length 4) [.sl 5 (.fz (bytesE r10.1) .no)]).bind fun h11 =>
                        ((callD (vF P tab n) P false (.one (.flat (.slice 9))) 45 [.ptr (.ob (List.length ((h ++ [.row (36 + boxK) [.int .i64 0, .bool false, .int .i64 0, .flt .f64 0, .sl 5 .nil, .sl 9 .nil]]) : VH)) 0), .int .i64 255] h11).bind fun r12 =>
                        ((stV r12.2 (.ob r1.2.length 5) [.sl 9 r12.1]).bind fun h13 =>
                        (cond ((r8.1.2.1 : Int) != 0)
                        ((stV h13 (.ob h.length 0) [.int .i64 0, .bool false, .int .i64 0, .flt .f64 0, .sl 5 .nil, .sl 9 .nil]).bind fun h14 =>
                        (((ldV (.agg [.int .i64, .bool, .int .i64, .flt .f64, .slice 5, .slice 9]) h14 (.ob h.length 0)).bind fun x15 =>
                        some (.tup [.agg [.int .i64 x15.1, .bool x15.2.1, .int .i64 x15.2.2.1, .flt .f64 x15.2.2.2.1, .sl 5 x15.2.2.2.2.1, .sl 9 x15.2.2.2.2.2.1], .int .i64 2], h14))))
                        (cond (decide ((r3.1 : Int) > 1))
                        ((stV h13 (.ob h.length 0) [.int .i64 0, .bool false, .int .i64 0, .flt .f64 0, .sl 5 .nil, .sl 9 .nil]).bind fun h16 =>
                        (((ldV (.agg [.int .i64, .bool, .int .i64, .flt .f64, .slice 5, .slice 9]) h16 (.ob h.length 0)).bind fun x17 =>
                        some (.tup [.agg [.int .i64 x17.1, .bool x17.2.1, .int .i64 x17.2.2.1, .flt .f64 x17.2.2.2.1, .sl 5 x17.2.2.2.2.1, .sl 9 x17.2.2.2.2.2.1], .int .i64 2], h16))))
                        ((callD (vF P tab n) P false (.one (.flat .bool)) 46 [.ptr (.ob (List.length ((h ++ [.row (36 + boxK) [.int .i64 0, .bool false, .int .i64 0, .flt .f64 0, .sl 5 .nil, .sl 9 .nil]]) : VH)) 0)] h13).bind fun r18 =>
                        (cond (!r18.1)
                        ((stV r18.2 (.ob h.length 0) [.int .i64 0, .bool false, .int .i64 0, .flt .f64 0, .sl 5 .nil, .sl 9 .nil]).bind fun h19 =>
                        (((ldV (.agg [.int .i64, .bool, .int .i64, .flt .f64, .slice 5, .slice 9]) h19 (.ob h.length 0)).bind fun x20 =>
                        some (.tup [.agg [.int .i64 x20.1, .bool x20.2.1, .int .i64 x20.2.2.1, .flt .f64 x20.2.2.2.1, .sl 5 x20.2.2.2.2.1, .sl 9 x20.2.2.2.2.2.1], .int .i64 2], h19))))
                        ((ldV (.agg [.int .i64, .bool, .int .i64, .flt .f64, .slice 5, .slice 9]) r18.2 (.ob r1.2.length 0)).bind fun x21 =>
                        ((stV r18.2 (.ob h.length 0) [.int .i64 x21.1, .bool x21.2.1, .int .i64 x21.2.2.1, .flt .f64 x21.2.2.2.1, .sl 5 x21.2.2.2.2.1, .sl 9 x21.2.2.2.2.2.1]).bind fun h22 =>
                        (((ldV (.agg [.int .i64, .bool, .int .i64, .flt .f64, .slice 5, .slice 9]) h22 (.ob h.length 0)).bind fun x23 =>
                        some (.tup [.agg [.int .i64 x23.1, .bool x23.2.1, .int .i64 x23.2.2.1, .flt .f64 x23.2.2.2.1, .sl 5 x23.2.2.2.2.1, .sl 9 x23.2.2.2.2.2.1], .int .i64 0], h22)))))))))))))))))))))) := by kernel_rfl
/-! godown/godownref18.Deliver -/
noncomputable def L25_0 (n m : Nat) (s0 : VP) (s5 : VS) (s7 : Bool) (s8 : Int) (h : VH) : VRes := loopAt P tab 25 [1, 1, 1, 1, 1, 0, 0] n [] m [.ptr s0, .undef, .undef, .undef, .undef, .sl 22 s5, .undef, .bool s7, .int .i64 s8, .undef, .undef, .undef, .undef, .undef, .undef, .undef, .undef, .undef, .undef, .undef, .undef, .undef, .undef, .undef, .undef, .undef, .undef, .undef, .undef, .undef, .undef, .undef, .undef, .undef, .undef, .undef, .undef, .undef, .undef, .undef, .undef, .undef, .undef, .undef, .undef, .undef, .undef, .undef, .undef, .undef, .undef, .undef, .undef, .undef, .undef, .undef, .undef, .undef, .undef, .undef, .undef, .undef, .undef, .undef, .undef, .undef, .undef, .undef, .undef, .undef, .undef, .undef, .undef, .undef, .undef, .undef, .undef, .undef, .undef, .undef, .undef, .undef, .undef, .undef, .undef, .undef, .undef, .undef, .undef, .undef, .undef, .undef, .undef, .undef, .undef, .undef, .undef, .undef, .undef, .undef, .undef, .undef, .undef, .undef, .undef, .undef, .undef, .undef, .undef, .undef, .undef, .undef, .undef] h
theorem L25_0_eq (n m : Nat) (s0 : VP) (s5 : VS) (s7 : Bool) (s8 : Int) (h : VH) : L25_0 n (m + 1) s0 s5 s7 s8 h =
  ((nn s0).bind fun p1 =>
    ((atO p1 1).bind fun p2 =>
      ((ldV (.flat (.int .i64)) h p2).bind fun x3 =>
        (cond (decide ((x3 : Int) < ((VS.len s5 : Nat) : Int)))
          ((nn s0).bind fun p4 =>
            ((atO p4 1).bind fun p5 =>
              ((ldV (.flat (.int .i64)) h p5).bind fun x6 =>
                ((ixV 1 s5 x6).bind fun p7 =>
                  ((ldV (.flat (.slice 5)) h p7).bind fun x8 =>
                    ((nn s0).bind fun p9 =>
                      ((atO p9 2).bind fun p10 =>
                        ((ldV (.flat (.int .i64)) h p10).bind fun x11 =>
                        (cond ((x11 : Int) == 2)
                        ((nn s0).bind fun p12 =>
                        ((atO p12 1).bind fun p13 =>
                        ((ldV (.flat (.int .i64)) h p13).bind fun x14 =>
                        ((nn s0).bind fun p15 =>
                        ((atO p15 1).bind fun p16 =>
                        ((stV h p16 [.int .i64 (IntKind.wrap .i64 (x14 + 1))]).bind fun h17 =>
                        (L25_0 n m s0 s5 s7 s8 h17)))))))
                        ((nn s0).bind fun p18 =>
                        ((atO p18 2).bind fun p19 =>
                        ((ldV (.flat (.int .i64)) h p19).bind fun x20 =>
                        (cond ((x20 : Int) == 0)
                        ((nn s0).bind fun p21 =>
                        ((atO p21 2).bind fun p22 =>
                        ((stV h p22 [.int .i64 1]).bind fun h23 =>
                        ((strV h23 5 x8).bind fun z24 =>
                        (cond (!(strEq z24 ⟨#[104, 101, 108, 108, 111]⟩))
                        ((nn s0).bind fun p25 =>
                        ((atO p25 2).bind fun p26 =>
                        ((stV h23 p26 [.int .i64 2]).bind fun h27 =>
                        ((callD (vF P tab n) P false (.tup []) 30 [.ptr s0, .agg [.int .i64 10, .bool false, .int .i64 0, .flt .f64 0, .sl 5 .nil, .sl 9 .nil]] h27).bind fun r28 =>
                        ((nn s0).bind fun p29 =>
                        ((atO p29 1).bind fun p30 =>
                        ((ldV (.flat (.int .i64)) r28.2 p30).bind fun x31 =>
                        ((nn s0).bind fun p32 =>
                        ((atO p32 1).bind fun p33 =>
                        ((stV r28.2 p33 [.int .i64 (IntKind.wrap .i64 (x31 + 1))]).bind fun h34 =>
                        (L25_0 n m s0 s5 s7 s8 h34)))))))))))
                        ((nn s0).bind fun p35 =>
                        ((atO p35 1).bind fun p36 =>
                        ((ldV (.flat (.int .i64)) h23 p36).bind fun x37 =>
                        ((nn s0).bind fun p38 =>
                        ((atO p38 1).bind fun p39 =>
                        ((stV h23 p39 [.int .i64 (IntKind.wrap .i64 (x37 + 1))]).bind fun h40 =>
                        (L25_0 n m s0 s5 s7 s8 h40))))))))))))
                        ((nn s0).bind fun p41 =>
                        ((atO p41 3).bind fun p42 =>
                        ((ldV (.flat (.slice 22)) h p42).bind fun x43 =>
                        (cond (decide ((((VS.len x43 : Nat) : Int) : Int) ≥ 4))
                        ((callD (vF P tab n) P false (.tup []) 30 [.ptr s0, .agg [.int .i64 8, .bool false, .int .i64 0, .flt .f64 0, .sl 5 .nil, .sl 9 .nil]] h).bind fun r44 =>
                        ((nn s0).bind fun p45 =>
                        ((atO p45 1).bind fun p46 =>
                        ((ldV (.flat (.int .i64)) r44.2 p46).bind fun x47 =>
                        ((nn s0).bind fun p48 =>
                        ((atO p48 1).bind fun p49 =>
                        ((stV r44.2 p49 [.int .i64 (IntKind.wrap .i64 (x47 + 1))]).bind fun h50 =>
                        (L25_0 n m s0 s5 s7 (IntKind.wrap .i64 (s8 + 1)) h50))))))))
                        ((nn s0).bind fun p51 =>
                        ((atO p51 3).bind fun p52 =>
                        ((ldV (.flat (.slice 22)) h p52).bind fun x53 =>
                        ((appD true h 1 24 22 .nil x53).bind fun r54 =>
                        (if List.all [.sl 5 x8] closed1 = true then
                        ((appD true r54.2 1 24 22 r54.1 (.fz [[.sl 5 (VS.strip x8)]] (.ex 1))).bind fun r55 =>
                        ((nn s0).bind fun p56 =>
                        ((atO p56 3).bind fun p57 =>
                        ((stV r55.2 p57 [.sl 22 r55.1]).bind fun h58 =>
                        ((nn s0).bind fun p59 =>
                        ((atO p59 1).bind fun p60 =>
                        ((ldV (.flat (.int .i64)) h58 p60).bind fun x61 =>
                        ((nn s0).bind fun p62 =>
                        ((atO p62 1).bind fun p63 =>
                        ((stV h58 p63 [.int .i64 (IntKind.wrap .i64 (x61 + 1))]).bind fun h64 =>
                        (L25_0 n m s0 s5 s7 s8 h64)))))))))))
                        else none))))))))))))))))))))))
          (cond s7
            ((nn s0).bind fun p65 =>
              ((atO p65 2).bind fun p66 =>
                ((ldV (.flat (.int .i64)) h p66).bind fun x67 =>
                  (cond (decide ((x67 : Int) < 2))
                    ((nn s0).bind fun p68 =>
                      ((atO p68 2).bind fun p69 =>
                        ((stV h p69 [.int .i64 2]).bind fun h70 =>
                        ((callD (vF P tab n) P false (.tup []) 30 [.ptr s0, .agg [.int .i64 3, .bool false, .int .i64 0, .flt .f64 0, .sl 5 .nil, .sl 9 .nil]] h70).bind fun r71 =>
                        (some (.int .i64 s8, r71.2))))))
                    (some (.int .i64 s8, h))))))
            (some (.int .i64 s8, h))))))) := by kernel_rfl
theorem f25_eq (n : Nat) (a0 : VP) (a1 : VS) (h : VH) : bodyV P tab (vF P tab n) n 25 [.ptr a0, .sl 5 a1] h =
  ((nn a0).bind fun p1 =>
    ((atO p1 2).bind fun p2 =>
      ((ldV (.flat (.int .i64)) h p2).bind fun x3 =>
        (cond (decide ((x3 : Int) ≥ 2))
          (some (.int .i64 0, h))
          ((nn a0).bind fun p4 =>
            ((atO p4 0).bind fun p5 =>
              ((ldV (.flat (.slice 5)) h p5).bind fun x6 =>
                ((callD (vF P tab n) P false (.one (.flat (.slice 5))) 13 [.sl 5 x6, .sl 5 a1] h).bind fun r7 =>
                  ((nn a0).bind fun p8 =>
                    ((atO p8 0).bind fun p9 =>
                      ((stV r7.2 p9 [.sl 5 r7.1]).bind fun h10 =>
                        ((nn a0).bind fun p11 =>
                        ((atO p11 0).bind fun p12 =>
                        ((ldV (.flat (.slice 5)) h10 p12).bind fun x13 =>
                        ((callD (vF P tab n) P false (.tup [(.flat (.slice 22)), (.flat (.int .i64)), (.flat .bool)]) 22 [.sl 5 x13] h10).bind fun r14 =>
                        (L25_0 n n a0 r14.1.1 r14.1.2.2.1 0 r14.2)))))))))))))))) := by kernel_rfl
/-! godown/godownref18.Next -/
theorem f26_eq (n : Nat) (a0 : VP) (h : VH) : bodyV P tab (vF P tab n) n 26 [.ptr a0] h =
  ((nn a0).bind fun p1 =>
    ((atO p1 3).bind fun p2 =>
      ((ldV (.flat (.slice 22)) h p2).bind fun x3 =>
        (cond ((((VS.len x3 : Nat) : Int) : Int) == 0)
          (some (.tup [.sl 5 .nil, .bool false], h))
          ((nn a0).bind fun p4 =>
            ((atO p4 3).bind fun p5 =>
              ((ldV (.flat (.slice 22)) h p5).bind fun x6 =>
                ((ixV 1 x6 0).bind fun p7 =>
                  ((ldV (.flat (.slice 5)) h p7).bind fun x8 =>
                    ((nn a0).bind fun p9 =>
                      ((atO p9 3).bind fun p10 =>
                        ((ldV (.flat (.slice 22)) h p10).bind fun x11 =>
                        ((cutD h 22 1 x11 (some 1) none none).bind fun z12 =>
                        ((nn a0).bind fun p13 =>
                        ((atO p13 3).bind fun p14 =>
                        ((stV h p14 [.sl 22 z12]).bind fun h15 =>
                        (some (.tup [.sl 5 x8, .bool true], h15)))))))))))))))))) := by kernel_rfl
/-! (*godown/session.Session).Abort -/
theorem f27_eq (n : Nat) (a0 : VP) (h : VH) : bodyV P tab (vF P tab n) n 27 [.ptr a0] h =
  (cond (!VP.isNil a0)
    ((nn a0).bind fun p1 =>
      ((atO p1 0).bind fun p2 =>
        ((stV h p2 [.int .u8 3]).bind fun h3 =>
          ((nn a0).bind fun p4 =>
            ((atO p4 2).bind fun p5 =>
              ((stV h3 p5 [.sl 22 .nil]).bind fun h6 =>
                (some (.tup [], h6))))))))
    (some (.tup [], h))) := by kernel_rfl
/-! godown/godownref18.Abort -/
theorem f28_eq (n : Nat) (a0 : VP) (h : VH) : bodyV P tab (vF P tab n) n 28 [.ptr a0] h =
  ((nn a0).bind fun p1 =>
    ((atO p1 2).bind fun p2 =>
      ((stV h p2 [.int .i64 3]).bind fun h3 =>
        ((nn a0).bind fun p4 =>
          ((atO p4 3).bind fun p5 =>
            ((stV h3 p5 [.sl 22 .nil]).bind fun h6 =>
              (some (.tup [], h6)))))))) := by kernel_rfl
/-! (*godown/session.Session).Answer -/
theorem f29_eq (n : Nat) (a0 : VP) (a1_0 : Int) (a1_1 : Bool) (a1_2 : Int) (a1_3 : Nat) (a1_4 : VS) (a1_5 : VS) (h : VH) : bodyV P tab (vF P tab n) n 29 [.ptr a0, .agg [.int .i64 a1_0, .bool a1_1, .int .i64 a1_2, .flt .f64 a1_3, .sl 5 a1_4, .sl 9 a1_5]] h =
  ((callD (vF P tab n) P false (.one (.flat (.int .u8))) 16 [.ptr a0] (h ++ [.row (36 + boxK) [.int .i64 a1_0, .bool a1_1, .int .i64 a1_2, .flt .f64 a1_3, .sl 5 a1_4, .sl 9 a1_5]])).bind fun r1 =>
    (cond ((r1.1 : Int) != 3)
      ((nn a0).bind fun p2 =>
        ((atO p2 3).bind fun p3 =>
          ((ldV (.flat (.slice 5)) r1.2 p3).bind fun x4 =>
            ((ldV (.agg [.int .i64, .bool, .int .i64, .flt .f64, .slice 5, .slice 9]) r1.2 (.ob h.length 0)).bind fun x5 =>
              (cond (V.stays r1.2 (hj (heldOf p3 [.slice 5] [.sl 5 x4]) []))
                ((callD (vF P tab n) P false (.one (.flat (.slice 5))) 49 [.agg [.int .i64 x5.1, .bool x5.2.1, .int .i64 x5.2.2.1, .flt .f64 x5.2.2.2.1, .sl 5 x5.2.2.2.2.1, .sl 9 x5.2.2.2.2.2.1]] r1.2).bind fun r6 =>
                  (cond (V.stays r6.2 (hj (heldOf p3 [.slice 5] [.sl 5 x4]) []))
                    ((callD (vF P tab n) P false (.one (.flat (.slice 5))) 48 [.sl 5 r6.1] r6.2).bind fun r7 =>
                      (cond (V.stays r7.2 (hj (heldOf p3 [.slice 5] [.sl 5 x4]) []))
                        ((appD true r7.2 1 1 5 x4 r7.1).bind fun r8 =>
                        ((nn a0).bind fun p9 =>
                        ((atO p9 3).bind fun p10 =>
                        ((stV r8.2 p10 [.sl 5 r8.1]).bind fun h11 =>
                        (some (.tup [], h11))))))
                        none))
                    none))
                none)))))
      (some (.tup [], r1.2)))) := by kernel_rfl
/-! godown/godownref18.Answer -/
theorem f30_eq (n : Nat) (a0 : VP) (a1_0 : Int) (a1_1 : Bool) (a1_2 : Int) (a1_3 : Nat) (a1_4 : VS) (a1_5 : VS) (h : VH) : bodyV P tab (vF P tab n) n 30 [.ptr a0, .agg [.int .i64 a1_0, .bool a1_1, .int .i64 a1_2, .flt .f64 a1_3, .sl 5 a1_4, .sl 9 a1_5]] h =
  ((nn a0).bind fun p1 =>
    ((atO p1 2).bind fun p2 =>
      ((ldV (.flat (.int .i64)) (h ++ [.row (36 + boxK) [.int .i64 a1_0, .bool a1_1, .int .i64 a1_2, .flt .f64 a1_3, .sl 5 a1_4, .sl 9 a1_5]]) p2).bind fun x3 =>
        (cond ((x3 : Int) != 3)
          ((nn a0).bind fun p4 =>
            ((atO p4 4).bind fun p5 =>
              ((ldV (.flat (.slice 5)) (h ++ [.row (36 + boxK) [.int .i64 a1_0, .bool a1_1, .int .i64 a1_2, .flt .f64 a1_3, .sl 5 a1_4, .sl 9 a1_5]]) p5).bind fun x6 =>
                ((ldV (.agg [.int .i64, .bool, .int .i64, .flt .f64, .slice 5, .slice 9]) (h ++ [.row (36 + boxK) [.int .i64 a1_0, .bool a1_1, .int .i64 a1_2, .flt .f64 a1_3, .sl 5 a1_4, .sl 9 a1_5]]) (.ob h.length 0)).bind fun x7 =>
                  (cond (V.stays (h ++ [.row (36 + boxK) [.int .i64 a1_0, .bool a1_1, .int .i64 a1_2, .flt .f64 a1_3, .sl 5 a1_4, .sl 9 a1_5]]) (hj (heldOf p5 [.slice 5] [.sl 5 x6]) []))
                    ((callD (vF P tab n) P false (.one (.flat (.slice 5))) 15 [.agg [.int .i64 x7.1, .bool x7.2.1, .int .i64 x7.2.2.1, .flt .f64 x7.2.2.2.1, .sl 5 x7.2.2.2.2.1, .sl 9 x7.2.2.2.2.2.1]] (h ++ [.row (36 + boxK) [.int .i64 a1_0, .bool a1_1, .int .i64 a1_2, .flt .f64 a1_3, .sl 5 a1_4, .sl 9 a1_5]])).bind fun r8 =>
                      (cond (V.stays r8.2 (hj (heldOf p5 [.slice 5] [.sl 5 x6]) []))
                        ((callD (vF P tab n) P false (.one (.flat (.slice 5))) 14 [.sl 5 r8.1] r8.2).bind fun r9 =>
                        (cond (V.stays r9.2 (hj (heldOf p5 [.slice 5] [.sl 5 x6]) []))
                        ((callD (vF P tab n) P false (.one (.flat (.slice 5))) 13 [.sl 5 x6, .sl 5 r9.1] r9.2).bind fun r10 =>
                        ((nn a0).bind fun p11 =>
                        ((atO p11 4).bind fun p12 =>
                        ((stV r10.2 p12 [.sl 5 r10.1]).bind fun h13 =>
                        (some (.tup [], h13))))))
                        none))
                        none))
                    none)))))
          (some (.tup [], (h ++ [.row (36 + boxK) [.int .i64 a1_0, .bool a1_1, .int .i64 a1_2, .flt .f64 a1_3, .sl 5 a1_4, .sl 9 a1_5]]))))))) := by kernel_rfl
/-! godown/godownref18.Take -/
theorem f31_eq (n : Nat) (a0 : VP) (h : VH) : bodyV P tab (vF P tab n) n 31 [.ptr a0] h =
  ((nn a0).bind fun p1 =>
    ((atO p1 4).bind fun p2 =>
      ((ldV (.flat (.slice 5)) h p2).bind fun x3 =>
        ((nn a0).bind fun p4 =>
          ((atO p4 4).bind fun p5 =>
            ((stV h p5 [.sl 5 .nil]).bind fun h6 =>
              (some (.sl 5 x3, h6)))))))) := by kernel_rfl
/-! godown/frame.New -/
theorem f32_eq (n : Nat)  (h : VH) : bodyV P tab (vF P tab n) n 32 [] h =
  (some (.ptr (.ob h.length 0), (h ++ [.row (91 + boxK) [.sl 5 .nil, .bool false]]))) := by kernel_rfl
/-! (*godown/frame.Stream).Feed -/
noncomputable def L33_0 (n m : Nat) (s0 : VP) (s5 : VS) (h : VH) : VRes := loopAt P tab 33 [1, 1, 1, 1, 0, 0] n [] m [.ptr s0, .undef, .undef, .undef, .undef, .sl 22 s5, .undef, .undef, .undef, .undef, .undef, .undef, .undef, .undef, .undef, .undef, .undef, .undef, .undef, .undef, .undef, .undef, .undef, .undef, .undef, .undef, .undef, .undef, .undef, .undef, .undef, .undef, .undef, .undef, .undef, .undef] h
theorem L33_0_eq (n m : Nat) (s0 : VP) (s5 : VS) (h : VH) : L33_0 n (m + 1) s0 s5 h =
  (cond (!VP.isNil s0)
    ((callD (vF P tab n) P false (.tup [(.flat (.slice 5)), (.flat .bool)]) 51 [.ptr s0] h).bind fun r1 =>
      (cond (!r1.1.2.1)
        (some (.sl 22 s5, r1.2))
        (if List.all [.sl 5 r1.1.1] closed1 = true then
          ((appD true r1.2 1 24 22 s5 (.fz [[.sl 5 (VS.strip r1.1.1)]] (.ex 1))).bind fun r2 =>
            (L33_0 n m s0 r2.1 r2.2))
          else none)))
    (some (.sl 22 s5, h))) := by kernel_rfl
theorem f33_eq (n : Nat) (a0 : VP) (a1 : VS) (h : VH) : bodyV P tab (vF P tab n) n 33 [.ptr a0, .sl 5 a1] h =
  ((callD (vF P tab n) P false (.one (.flat .bool)) 35 [.ptr a0] h).bind fun r1 =>
    (cond r1.1
      (some (.sl 22 .nil, r1.2))
      (cond (!VP.isNil a0)
        ((nn a0).bind fun p2 =>
          ((atO p2 0).bind fun p3 =>
            ((ldV (.flat (.slice 5)) r1.2 p3).bind fun x4 =>
              ((callD (vF P tab n) P false (.one (.flat (.slice 5))) 50 [.sl 5 x4] r1.2).bind fun r5 =>
                ((appD true r5.2 1 1 5 r5.1 a1).bind fun r6 =>
                  ((nn a0).bind fun p7 =>
                    ((atO p7 0).bind fun p8 =>
                      ((stV r6.2 p8 [.sl 5 r6.1]).bind fun h9 =>
                        (L33_0 n n a0 .nil h9)))))))))
        (L33_0 n n a0 .nil r1.2)))) := by kernel_rfl
/-! (*godown/session.Session).payload -/
theorem f34_eq (n : Nat) (a0 : VP) (a1 : VS) (h : VH) : bodyV P tab (vF P tab n) n 34 [.ptr a0, .sl 5 a1] h =
  ((nn a0).bind fun p1 =>
    ((atO p1 0).bind fun p2 =>
      ((ldV (.flat (.int .u8)) h p2).bind fun x3 =>
        (cond ((x3 : Int) == 0)
          ((strV h 5 a1).bind fun z4 =>
            (cond (strEq z4 ⟨#[104, 101, 108, 108, 111]⟩)
              ((nn a0).bind fun p5 =>
                ((atO p5 0).bind fun p6 =>
                  ((stV h p6 [.int .u8 1]).bind fun h7 =>
                    (some (.int .i64 0, h7)))))
              ((nn a0).bind fun p8 =>
                ((atO p8 0).bind fun p9 =>
                  ((ldV (.flat (.int .u8)) h p9).bind fun x10 =>
                    (cond ((x10 : Int) == 0)
                      ((callD (vF P tab n) P false (.tup []) 36 [.ptr a0, .int .i64 10] h).bind fun r11 =>
                        (some (.int .i64 0, r11.2)))
                      ((nn a0).bind fun p12 =>
                        ((atO p12 0).bind fun p13 =>
                        ((ldV (.flat (.int .u8)) h p13).bind fun x14 =>
                        (cond ((x14 : Int) == 1)
                        ((nn a0).bind fun p15 =>
                        ((atO p15 2).bind fun p16 =>
                        ((ldV (.flat (.slice 22)) h p16).bind fun x17 =>
                        (cond (decide ((((VS.len x17 : Nat) : Int) : Int) ≥ 4))
                        ((callD (vF P tab n) P false (.tup []) 29 [.ptr a0, .agg [.int .i64 8, .bool false, .int .i64 0, .flt .f64 0, .sl 5 .nil, .sl 9 .nil]] h).bind fun r18 =>
                        (some (.int .i64 1, r18.2)))
                        ((nn a0).bind fun p19 =>
                        ((atO p19 0).bind fun p20 =>
                        ((ldV (.flat (.int .u8)) h p20).bind fun x21 =>
                        (cond ((x21 : Int) == 1)
                        ((nn a0).bind fun p22 =>
                        ((atO p22 2).bind fun p23 =>
                        ((ldV (.flat (.slice 22)) h p23).bind fun x24 =>
                        (if List.all [.sl 5 a1] closed1 = true then
                        ((appD true h 1 24 22 x24 (.fz [[.sl 5 (VS.strip a1)]] (.ex 1))).bind fun r25 =>
                        ((nn a0).bind fun p26 =>
                        ((atO p26 2).bind fun p27 =>
                        ((stV r25.2 p27 [.sl 22 r25.1]).bind fun h28 =>
                        (some (.int .i64 0, h28))))))
                        else none))))
                        (some (.int .i64 0, h))))))))))
                        ((nn a0).bind fun p29 =>
                        ((atO p29 0).bind fun p30 =>
                        ((ldV (.flat (.int .u8)) h p30).bind fun x31 =>
                        (cond ((x31 : Int) == 1)
                        ((nn a0).bind fun p32 =>
                        ((atO p32 2).bind fun p33 =>
                        ((ldV (.flat (.slice 22)) h p33).bind fun x34 =>
                        (if List.all [.sl 5 a1] closed1 = true then
                        ((appD true h 1 24 22 x34 (.fz [[.sl 5 (VS.strip a1)]] (.ex 1))).bind fun r35 =>
                        ((nn a0).bind fun p36 =>
                        ((atO p36 2).bind fun p37 =>
                        ((stV r35.2 p37 [.sl 22 r35.1]).bind fun h38 =>
                        (some (.int .i64 0, h38))))))
                        else none))))
                        (some (.int .i64 0, h))))))))))))))))
          ((nn a0).bind fun p39 =>
            ((atO p39 0).bind fun p40 =>
              ((ldV (.flat (.int .u8)) h p40).bind fun x41 =>
                (cond ((x41 : Int) == 0)
                  ((callD (vF P tab n) P false (.tup []) 36 [.ptr a0, .int .i64 10] h).bind fun r42 =>
                    (some (.int .i64 0, r42.2)))
                  ((nn a0).bind fun p43 =>
                    ((atO p43 0).bind fun p44 =>
                      ((ldV (.flat (.int .u8)) h p44).bind fun x45 =>
                        (cond ((x45 : Int) == 1)
                        ((nn a0).bind fun p46 =>
                        ((atO p46 2).bind fun p47 =>
                        ((ldV (.flat (.slice 22)) h p47).bind fun x48 =>
                        (cond (decide ((((VS.len x48 : Nat) : Int) : Int) ≥ 4))
                        ((callD (vF P tab n) P false (.tup []) 29 [.ptr a0, .agg [.int .i64 8, .bool false, .int .i64 0, .flt .f64 0, .sl 5 .nil, .sl 9 .nil]] h).bind fun r49 =>
                        (some (.int .i64 1, r49.2)))
                        ((nn a0).bind fun p50 =>
                        ((atO p50 0).bind fun p51 =>
                        ((ldV (.flat (.int .u8)) h p51).bind fun x52 =>
                        (cond ((x52 : Int) == 1)
                        ((nn a0).bind fun p53 =>
                        ((atO p53 2).bind fun p54 =>
                        ((ldV (.flat (.slice 22)) h p54).bind fun x55 =>
                        (if List.all [.sl 5 a1] closed1 = true then
                        ((appD true h 1 24 22 x55 (.fz [[.sl 5 (VS.strip a1)]] (.ex 1))).bind fun r56 =>
                        ((nn a0).bind fun p57 =>
                        ((atO p57 2).bind fun p58 =>
                        ((stV r56.2 p58 [.sl 22 r56.1]).bind fun h59 =>
                        (some (.int .i64 0, h59))))))
                        else none))))
                        (some (.int .i64 0, h))))))))))
                        ((nn a0).bind fun p60 =>
                        ((atO p60 0).bind fun p61 =>
                        ((ldV (.flat (.int .u8)) h p61).bind fun x62 =>
                        (cond ((x62 : Int) == 1)
                        ((nn a0).bind fun p63 =>
                        ((atO p63 2).bind fun p64 =>
                        ((ldV (.flat (.slice 22)) h p64).bind fun x65 =>
                        (if List.all [.sl 5 a1] closed1 = true then
                        ((appD true h 1 24 22 x65 (.fz [[.sl 5 (VS.strip a1)]] (.ex 1))).bind fun r66 =>
                        ((nn a0).bind fun p67 =>
                        ((atO p67 2).bind fun p68 =>
                        ((stV r66.2 p68 [.sl 22 r66.1]).bind fun h69 =>
                        (some (.int .i64 0, h69))))))
                        else none))))
                        (some (.int .i64 0, h)))))))))))))))))) := by kernel_rfl
/-! (*godown/frame.Stream).Broken -/
theorem f35_eq (n : Nat) (a0 : VP) (h : VH) : bodyV P tab (vF P tab n) n 35 [.ptr a0] h =
  (cond (!VP.isNil a0)
    ((nn a0).bind fun p1 =>
      ((atO p1 1).bind fun p2 =>
        ((ldV (.flat .bool) h p2).bind fun x3 =>
          (some (.bool x3, h)))))
    (some (.bool false, h))) := by kernel_rfl
/-! (*godown/session.Session).fault -/
theorem f36_eq (n : Nat) (a0 : VP) (a1 : Int) (h : VH) : bodyV P tab (vF P tab n) n 36 [.ptr a0, .int .i64 a1] h =
  ((callD (vF P tab n) P false (.tup []) 29 [.ptr a0, .agg [.int .i64 a1, .bool false, .int .i64 0, .flt .f64 0, .sl 5 .nil, .sl 9 .nil]] h).bind fun r1 =>
    ((nn a0).bind fun p2 =>
      ((atO p2 0).bind fun p3 =>
        ((stV r1.2 p3 [.int .u8 2]).bind fun h4 =>
          (some (.tup [], h4)))))) := by kernel_rfl
/-! godown/godownref04.Num -/
theorem f37_eq (n : Nat) (a0 : Int) (h : VH) : bodyV P tab (vF P tab n) n 37 [.int .i64 a0] h =
  ((remI (IntKind.wrap .u64 a0) 65536).bind fun x1 =>
    ((quoI .u64 x1 256).bind fun x2 =>
      ((remI x1 256).bind fun x3 =>
        (some (.sl 5 (.fz [[.int .u8 (IntKind.wrap .u8 x2)], [.int .u8 (IntKind.wrap .u8 x3)]] (.ex 2)), h))))) := by kernel_rfl
/-! godown/godownref04.Wide -/
noncomputable def L38_0 (n m : Nat) (s0 : Int) (s3 : VS) (s4 : Int) (h : VH) : VRes := loopAt P tab 38 [1, 1, 0, 1, 0] n [] m [.int .u64 s0, .undef, .undef, .sl 5 s3, .int .i64 s4, .undef, .undef, .undef, .undef, .undef, .undef, .undef, .undef, .undef, .undef, .undef, .undef, .undef, .undef] h
theorem L38_0_eq (n m : Nat) (s0 : Int) (s3 : VS) (s4 : Int) (h : VH) : L38_0 n (m + 1) s0 s3 s4 h =
  (cond (decide ((s4 : Int) < 8))
    ((shrI .u64 s0 (IntKind.wrap .i64 (56 - (IntKind.wrap .i64 (8 * s4))))).bind fun x1 =>
      ((appD true h 1 1 5 s3 (.fz [[.int .u8 (IntKind.wrap .u8 x1)]] (.ex 1))).bind fun r2 =>
        (L38_0 n m s0 r2.1 (IntKind.wrap .i64 (s4 + 1)) r2.2)))
    (some (.sl 5 s3, h))) := by kernel_rfl
theorem f38_eq (n : Nat) (a0 : Int) (h : VH) : bodyV P tab (vF P tab n) n 38 [.int .u64 a0] h =
  (L38_0 n n a0 .nil 0 h) := by kernel_rfl
/-! godown/godownref04.Text -/
theorem f40_eq (n : Nat) (a0 : ByteArray) (h : VH) : bodyV P tab (vF P tab n) n 40 [.str a0] h =
  ((callD (vF P tab n) P false (.one (.flat (.slice 5))) 37 [.int .i64 ((a0).size : Int)] h).bind fun r1 =>
    ((appD true r1.2 1 1 5 r1.1 (.fz (bytesE a0) .no)).bind fun r2 =>
      (some (.sl 5 r2.1, r2.2)))) := by kernel_rfl
/-! godown/godownref04.Texts -/
noncomputable def L41_0 (n m : Nat) (s0 : VS) (s3 : VS) (s4 : Int) (h : VH) : VRes := loopAt P tab 41 [1, 1, 0, 1, 0] n [] m [.sl 9 s0, .undef, .undef, .sl 5 s3, .int .i64 s4, .undef, .undef, .undef, .undef, .undef, .undef, .undef, .undef, .undef, .undef, .undef, .undef, .undef, .undef, .undef, .undef, .undef, .undef] h
theorem L41_0_eq (n m : Nat) (s0 : VS) (s3 : VS) (s4 : Int) (h : VH) : L41_0 n (m + 1) s0 s3 s4 h =
  (cond (decide ((s4 : Int) < ((VS.len s0 : Nat) : Int)))
    ((ixV 1 s0 s4).bind fun p1 =>
      ((ldV (.flat .str) h p1).bind fun x2 =>
        ((callD (vF P tab n) P false (.one (.flat (.slice 5))) 40 [.str x2] h).bind fun r3 =>
          ((appD true r3.2 1 1 5 s3 r3.1).bind fun r4 =>
            (L41_0 n m s0 r4.1 (IntKind.wrap .i64 (s4 + 1)) r4.2)))))
    (some (.sl 5 s3, h))) := by kernel_rfl
theorem f41_eq (n : Nat) (a0 : VS) (h : VH) : bodyV P tab (vF P tab n) n 41 [.sl 9 a0] h =
  (L41_0 n n a0 (.fz [[.int .u8 (IntKind.wrap .u8 ((VS.len a0 : Nat) : Int))]] (.ex 1)) 0 h) := by kernel_rfl
/-! (*godown/godownref04.In).Wide -/
noncomputable def L42_0 (n m : Nat) (s5 : VS) (s6 : Int) (s7 : Int) (h : VH) : VRes := loopAt P tab 42 [1, 1, 1, 0, 1, 0] n [] m [.undef, .undef, .undef, .undef, .undef, .sl 5 s5, .int .u64 s6, .int .i64 s7, .undef, .undef, .undef, .undef, .undef, .undef, .undef, .undef, .undef, .undef, .undef, .undef, .undef, .undef, .undef, .undef, .undef, .undef] h
theorem L42_0_eq (n m : Nat) (s5 : VS) (s6 : Int) (s7 : Int) (h : VH) : L42_0 n (m + 1) s5 s6 s7 h =
  (cond (decide ((s7 : Int) < ((VS.len s5 : Nat) : Int)))
    ((ixV 1 s5 s7).bind fun p1 =>
      ((ldV (.flat (.int .u8)) h p1).bind fun x2 =>
        (L42_0 n m s5 (IntKind.wrap .u64 ((IntKind.wrap .u64 (s6 * 256)) + (IntKind.wrap .u64 x2))) (IntKind.wrap .i64 (s7 + 1)) h)))
    (some (.int .u64 s6, h))) := by kernel_rfl
theorem f42_eq (n : Nat) (a0 : VP) (a1 : Int) (h : VH) : bodyV P tab (vF P tab n) n 42 [.ptr a0, .int .i64 a1] h =
  ((callD (vF P tab n) P false (.one (.flat (.slice 5))) 53 [.ptr a0, .int .i64 a1] h).bind fun r1 =>
    (L42_0 n n r1.1 0 0 r1.2)) := by kernel_rfl
/-! (*godown/godownref04.In).Text -/
theorem f44_eq (n : Nat) (a0 : VP) (h : VH) : bodyV P tab (vF P tab n) n 44 [.ptr a0] h =
  ((callD (vF P tab n) P false (.one (.flat (.int .u64))) 42 [.ptr a0, .int .i64 2] h).bind fun r1 =>
    ((nn a0).bind fun p2 =>
      ((atO p2 1).bind fun p3 =>
        ((ldV (.flat .bool) r1.2 p3).bind fun x4 =>
          (cond x4
            (some (.str ⟨#[]⟩, r1.2))
            ((callD (vF P tab n) P false (.one (.flat (.slice 5))) 53 [.ptr a0, .int .i64 (IntKind.wrap .i64 r1.1)] r1.2).bind fun r5 =>
              ((strV r5.2 5 r5.1).bind fun z6 =>
                (some (.str z6, r5.2))))))))) := by kernel_rfl
/-! (*godown/godownref04.In).Texts -/
noncomputable def L45_0 (n m : Nat) (s0 : VP) (s5 : Int) (s6 : VS) (s7 : Int) (h : VH) : VRes := loopAt P tab 45 [1, 1, 1, 1, 0, 1, 0] n [] m [.ptr s0, .undef, .undef, .undef, .undef, .int .i64 s5, .sl 9 s6, .int .i64 s7, .undef, .undef, .undef, .undef, .undef, .undef, .undef, .undef, .undef, .undef, .undef, .undef, .undef, .undef, .undef, .undef, .undef, .undef, .undef, .undef, .undef, .undef, .undef, .undef, .undef, .undef, .undef, .undef, .undef, .undef, .undef, .undef, .undef, .undef] h
theorem L45_0_eq (n m : Nat) (s0 : VP) (s5 : Int) (s6 : VS) (s7 : Int) (h : VH) : L45_0 n (m + 1) s0 s5 s6 s7 h =
  (cond (decide ((s7 : Int) < s5))
    ((nn s0).bind fun p1 =>
      ((atO p1 1).bind fun p2 =>
        ((ldV (.flat .bool) h p2).bind fun x3 =>
          (cond (!x3)
            ((callD (vF P tab n) P false (.one (.flat .str)) 44 [.ptr s0] h).bind fun r4 =>
              ((appD true r4.2 1 16 9 s6 (.fz [[.str r4.1]] (.ex 1))).bind fun r5 =>
                (L45_0 n m s0 s5 r5.1 (IntKind.wrap .i64 (s7 + 1)) r5.2)))
            ((nn s0).bind fun p6 =>
              ((atO p6 1).bind fun p7 =>
                ((ldV (.flat .bool) h p7).bind fun x8 =>
                  (cond x8
                    (some (.sl 9 .nil, h))
                    (some (.sl 9 s6, h))))))))))
    ((nn s0).bind fun p9 =>
      ((atO p9 1).bind fun p10 =>
        ((ldV (.flat .bool) h p10).bind fun x11 =>
          (cond x11
            (some (.sl 9 .nil, h))
            (some (.sl 9 s6, h))))))) := by kernel_rfl
theorem f45_eq (n : Nat) (a0 : VP) (a1 : Int) (h : VH) : bodyV P tab (vF P tab n) n 45 [.ptr a0, .int .i64 a1] h =
  ((callD (vF P tab n) P false (.one (.flat (.int .u64))) 42 [.ptr a0, .int .i64 1] h).bind fun r1 =>
    (cond (decide (((IntKind.wrap .i64 r1.1) : Int) > a1))
      ((nn a0).bind fun p2 =>
        ((atO p2 0).bind fun p3 =>
          ((stV r1.2 p3 [.sl 5 .nil]).bind fun h4 =>
            ((nn a0).bind fun p5 =>
              ((atO p5 1).bind fun p6 =>
                ((stV h4 p6 [.bool true]).bind fun h7 =>
                  (L45_0 n n a0 (IntKind.wrap .i64 r1.1) .nil 0 h7)))))))
      (L45_0 n n a0 (IntKind.wrap .i64 r1.1) .nil 0 r1.2))) := by kernel_rfl
/-! (*godown/godownref04.In).Whole -/
theorem f46_eq (n : Nat) (a0 : VP) (h : VH) : bodyV P tab (vF P tab n) n 46 [.ptr a0] h =
  ((nn a0).bind fun p1 =>
    ((atO p1 1).bind fun p2 =>
      ((ldV (.flat .bool) h p2).bind fun x3 =>
        (cond (!x3)
          ((nn a0).bind fun p4 =>
            ((atO p4 0).bind fun p5 =>
              ((ldV (.flat (.slice 5)) h p5).bind fun x6 =>
                (some (.bool ((((VS.len x6 : Nat) : Int) : Int) == 0), h)))))
          (some (.bool false, h)))))) := by kernel_rfl
/-! godown/godownref01.Texts -/
noncomputable def L47_0 (n m : Nat) (s0 : VS) (s1 : VS) (s5 : Int) (h : VH) : VRes := loopAt P tab 47 [1, 1, 0, 1, 0] n [] m [.sl 9 s0, .sl 9 s1, .undef, .undef, .undef, .int .i64 s5, .undef, .undef, .undef, .undef, .undef, .undef, .undef, .undef, .undef, .undef, .undef, .undef, .undef, .undef, .undef, .undef, .undef, .undef, .undef, .undef] h
theorem L47_0_eq (n m : Nat) (s0 : VS) (s1 : VS) (s5 : Int) (h : VH) : L47_0 n (m + 1) s0 s1 s5 h =
  (cond (decide ((s5 : Int) < ((VS.len s0 : Nat) : Int)))
    ((ixV 1 s0 s5).bind fun p1 =>
      ((ldV (.flat .str) h p1).bind fun x2 =>
        ((ixV 1 s1 s5).bind fun p3 =>
          ((ldV (.flat .str) h p3).bind fun x4 =>
            (cond (!(strEq x2 x4))
              (some (.bool false, h))
              (L47_0 n m s0 s1 (IntKind.wrap .i64 (s5 + 1)) h))))))
    (some (.bool true, h))) := by kernel_rfl
theorem f47_eq (n : Nat) (a0 : VS) (a1 : VS) (h : VH) : bodyV P tab (vF P tab n) n 47 [.sl 9 a0, .sl 9 a1] h =
  (cond ((((VS.len a0 : Nat) : Int) : Int) != ((VS.len a1 : Nat) : Int))
    (some (.bool false, h))
    (L47_0 n n a0 a1 0 h)) := by kernel_rfl
/-! godown/frame.Frame -/
theorem f48_eq (n : Nat) (a0 : VS) (h : VH) : bodyV P tab (vF P tab n) n 48 [.sl 5 a0] h =
  ((strV (h ++ [.row (95 + boxK) [.sl 5 .nil]]) 5 a0).bind fun z1 =>
    ((callD (vF P tab n) P false (.one (.flat .ptr)) 55 [.ptr (.ob h.length 0), .str z1] (h ++ [.row (95 + boxK) [.sl 5 .nil]])).bind fun r2 =>
      ((callD (vF P tab n) P false (.one (.flat (.slice 5))) 56 [.ptr r2.1] r2.2).bind fun r3 =>
        (some (.sl 5 r3.1, r3.2))))) := by kernel_rfl
/-! godown/request.EncodeReply -/
theorem f49_eq (n : Nat) (a0_0 : Int) (a0_2 : Int) (h : VH) : bodyV P tab (vF P tab n) n 49 [.agg [.int .i64 a0_0, .bool false, .int .i64 a0_2, .flt .f64 0, .sl 5 .nil, .sl 9 .nil]] h =
  ((ldV (.flat .bool) (h ++ [.row (36 + boxK) [.int .i64 a0_0, .bool false, .int .i64 a0_2, .flt .f64 0, .sl 5 .nil, .sl 9 .nil]]) (.ob h.length 1)).bind fun x1 =>
    (cond x1
      ((ldV (.flat (.int .i64)) (List.append (α := VO) (h ++ [.row (36 + boxK) [.int .i64 a0_0, .bool false, .int .i64 a0_2, .flt .f64 0, .sl 5 .nil, .sl 9 .nil]]) [.row (95 + boxK) [.sl 5 .nil]]) (.ob h.length 0)).bind fun x2 =>
        ((ldV (.flat (.int .i64)) (List.append (α := VO) (h ++ [.row (36 + boxK) [.int .i64 a0_0, .bool false, .int .i64 a0_2, .flt .f64 0, .sl 5 .nil, .sl 9 .nil]]) [.row (95 + boxK) [.sl 5 .nil]]) (.ob h.length 2)).bind fun x3 =>
          ((ldV (.flat (.flt .f64)) (List.append (α := VO) (h ++ [.row (36 + boxK) [.int .i64 a0_0, .bool false, .int .i64 a0_2, .flt .f64 0, .sl 5 .nil, .sl 9 .nil]]) [.row (95 + boxK) [.sl 5 .nil]]) (.ob h.length 3)).bind fun x4 =>
            ((ldV (.flat (.slice 5)) (List.append (α := VO) (h ++ [.row (36 + boxK) [.int .i64 a0_0, .bool false, .int .i64 a0_2, .flt .f64 0, .sl 5 .nil, .sl 9 .nil]]) [.row (95 + boxK) [.sl 5 .nil]]) (.ob h.length 4)).bind fun x5 =>
              ((strV (List.append (α := VO) (h ++ [.row (36 + boxK) [.int .i64 a0_0, .bool false, .int .i64 a0_2, .flt .f64 0, .sl 5 .nil, .sl 9 .nil]]) [.row (95 + boxK) [.sl 5 .nil]]) 5 x5).bind fun z6 =>
                ((ldV (.flat (.slice 9)) (List.append (α := VO) (h ++ [.row (36 + boxK) [.int .i64 a0_0, .bool false, .int .i64 a0_2, .flt .f64 0, .sl 5 .nil, .sl 9 .nil]]) [.row (95 + boxK) [.sl 5 .nil]]) (.ob h.length 5)).bind fun x7 =>
                  ((callD (vF P tab n) P false (.one (.flat .ptr)) 57 [.ptr (.ob (List.length ((h ++ [.row (36 + boxK) [.int .i64 a0_0, .bool false, .int .i64 a0_2, .flt .f64 0, .sl 5 .nil, .sl 9 .nil]]) : VH)) 0), .int .u8 (IntKind.wrap .u8 x2)] (List.append (α := VO) (h ++ [.row (36 + boxK) [.int .i64 a0_0, .bool false, .int .i64 a0_2, .flt .f64 0, .sl 5 .nil, .sl 9 .nil]]) [.row (95 + boxK) [.sl 5 .nil]])).bind fun r8 =>
                    (cond (V.stays r8.2 (hj [(.ob h.length 5, .slice 9, .sl 9 x7)] (hj (heldStr (List.append (α := VO) (h ++ [.row (36 + boxK) [.int .i64 a0_0, .bool false, .int .i64 a0_2, .flt .f64 0, .sl 5 .nil, .sl 9 .nil]]) [.row (95 + boxK) [.sl 5 .nil]]) x5) [(.ob h.length 4, .slice 5, .sl 5 x5), (.ob h.length 3, .flt .f64, .flt .f64 x4), (.ob h.length 2, .int .i64, .int .i64 x3), (.ob h.length 0, .int .i64, .int .i64 x2)])))
                      ((callD (vF P tab n) P false (.one (.flat .ptr)) 57 [.ptr r8.1, .int .u8 1] r8.2).bind fun r9 =>
                        (cond (V.stays r9.2 (hj [(.ob h.length 5, .slice 9, .sl 9 x7)] (hj (heldStr (List.append (α := VO) (h ++ [.row (36 + boxK) [.int .i64 a0_0, .bool false, .int .i64 a0_2, .flt .f64 0, .sl 5 .nil, .sl 9 .nil]]) [.row (95 + boxK) [.sl 5 .nil]]) x5) [(.ob h.length 4, .slice 5, .sl 5 x5), (.ob h.length 3, .flt .f64, .flt .f64 x4), (.ob h.length 2, .int .i64, .int .i64 x3), (.ob h.length 0, .int .i64, .int .i64 x2)])))
                        ((callD (vF P tab n) P false (.one (.flat .ptr)) 58 [.ptr r9.1, .int .i64 x3] r9.2).bind fun r10 =>
                        (cond (V.stays r10.2 (hj [(.ob h.length 5, .slice 9, .sl 9 x7)] (hj (heldStr (List.append (α := VO) (h ++ [.row (36 + boxK) [.int .i64 a0_0, .bool false, .int .i64 a0_2, .flt .f64 0, .sl 5 .nil, .sl 9 .nil]]) [.row (95 + boxK) [.sl 5 .nil]]) x5) [(.ob h.length 4, .slice 5, .sl 5 x5), (.ob h.length 3, .flt .f64, .flt .f64 x4), (.ob h.length 0, .int .i64, .int .i64 x2)])))
                        ((callD (vF P tab n) P false (.one (.flat (.int .u64))) 60 [.flt .f64 x4] r10.2).bind fun r11 =>
                        (cond (V.stays r11.2 (hj [(.ob h.length 5, .slice 9, .sl 9 x7)] (hj (heldStr (List.append (α := VO) (h ++ [.row (36 + boxK) [.int .i64 a0_0, .bool false, .int .i64 a0_2, .flt .f64 0, .sl 5 .nil, .sl 9 .nil]]) [.row (95 + boxK) [.sl 5 .nil]]) x5) [(.ob h.length 4, .slice 5, .sl 5 x5), (.ob h.length 2, .int .i64, .int .i64 x3), (.ob h.length 0, .int .i64, .int .i64 x2)])))
                        ((callD (vF P tab n) P false (.one (.flat .ptr)) 59 [.ptr r10.1, .int .u64 r11.1] r11.2).bind fun r12 =>
                        (cond (V.stays r12.2 (hj [(.ob h.length 5, .slice 9, .sl 9 x7)] (hj (heldStr (List.append (α := VO) (h ++ [.row (36 + boxK) [.int .i64 a0_0, .bool false, .int .i64 a0_2, .flt .f64 0, .sl 5 .nil, .sl 9 .nil]]) [.row (95 + boxK) [.sl 5 .nil]]) x5) [(.ob h.length 4, .slice 5, .sl 5 x5), (.ob h.length 3, .flt .f64, .flt .f64 x4), (.ob h.length 2, .int .i64, .int .i64 x3), (.ob h.length 0, .int .i64, .int .i64 x2)])))
                        ((callD (vF P tab n) P false (.one (.flat .ptr)) 55 [.ptr r12.1, .str z6] r12.2).bind fun r13 =>
                        (cond (V.stays r13.2 [(.ob h.length 5, .slice 9, .sl 9 x7), (.ob h.length 4, .slice 5, .sl 5 x5), (.ob h.length 3, .flt .f64, .flt .f64 x4), (.ob h.length 2, .int .i64, .int .i64 x3), (.ob h.length 0, .int .i64, .int .i64 x2)])
                        ((callD (vF P tab n) P false (.one (.flat .ptr)) 61 [.ptr r13.1, .sl 9 x7] r13.2).bind fun r14 =>
                        (cond (V.stays r14.2 (hj (heldStr (List.append (α := VO) (h ++ [.row (36 + boxK) [.int .i64 a0_0, .bool false, .int .i64 a0_2, .flt .f64 0, .sl 5 .nil, .sl 9 .nil]]) [.row (95 + boxK) [.sl 5 .nil]]) x5) [(.ob h.length 4, .slice 5, .sl 5 x5), (.ob h.length 3, .flt .f64, .flt .f64 x4), (.ob h.length 2, .int .i64, .int .i64 x3), (.ob h.length 0, .int .i64, .int .i64 x2)]))
                        ((callD (vF P tab n) P false (.one (.flat (.slice 5))) 56 [.ptr r14.1] r14.2).bind fun r15 =>
                        (cond (V.stays r15.2 (hj [(.ob h.length 5, .slice 9, .sl 9 x7)] (hj (heldStr (List.append (α := VO) (h ++ [.row (36 + boxK) [.int .i64 a0_0, .bool false, .int .i64 a0_2, .flt .f64 0, .sl 5 .nil, .sl 9 .nil]]) [.row (95 + boxK) [.sl 5 .nil]]) x5) [(.ob h.length 4, .slice 5, .sl 5 x5), (.ob h.length 3, .flt .f64, .flt .f64 x4), (.ob h.length 2, .int .i64, .int .i64 x3), (.ob h.length 0, .int .i64, .int .i64 x2)])))
                        (some (.sl 5 r15.1, r15.2))
                        none))
                        none))
                        none))
                        none))
                        none))
                        none))
                        none))
                      none))))))))
      ((ldV (.flat (.int .i64)) (List.append (α := VO) (h ++ [.row (36 + boxK) [.int .i64 a0_0, .bool false, .int .i64 a0_2, .flt .f64 0, .sl 5 .nil, .sl 9 .nil]]) [.row (95 + boxK) [.sl 5 .nil]]) (.ob h.length 0)).bind fun x16 =>
        ((ldV (.flat (.int .i64)) (List.append (α := VO) (h ++ [.row (36 + boxK) [.int .i64 a0_0, .bool false, .int .i64 a0_2, .flt .f64 0, .sl 5 .nil, .sl 9 .nil]]) [.row (95 + boxK) [.sl 5 .nil]]) (.ob h.length 2)).bind fun x17 =>
          ((ldV (.flat (.flt .f64)) (List.append (α := VO) (h ++ [.row (36 + boxK) [.int .i64 a0_0, .bool false, .int .i64 a0_2, .flt .f64 0, .sl 5 .nil, .sl 9 .nil]]) [.row (95 + boxK) [.sl 5 .nil]]) (.ob h.length 3)).bind fun x18 =>
            ((ldV (.flat (.slice 5)) (List.append (α := VO) (h ++ [.row (36 + boxK) [.int .i64 a0_0, .bool false, .int .i64 a0_2, .flt .f64 0, .sl 5 .nil, .sl 9 .nil]]) [.row (95 + boxK) [.sl 5 .nil]]) (.ob h.length 4)).bind fun x19 =>
              ((strV (List.append (α := VO) (h ++ [.row (36 + boxK) [.int .i64 a0_0, .bool false, .int .i64 a0_2, .flt .f64 0, .sl 5 .nil, .sl 9 .nil]]) [.row (95 + boxK) [.sl 5 .nil]]) 5 x19).bind fun z20 =>
                ((ldV (.flat (.slice 9)) (List.append (α := VO) (h ++ [.row (36 + boxK) [.int .i64 a0_0, .bool false, .int .i64 a0_2, .flt .f64 0, .sl 5 .nil, .sl 9 .nil]]) [.row (95 + boxK) [.sl 5 .nil]]) (.ob h.length 5)).bind fun x21 =>
                  ((callD (vF P tab n) P false (.one (.flat .ptr)) 57 [.ptr (.ob (List.length ((h ++ [.row (36 + boxK) [.int .i64 a0_0, .bool false, .int .i64 a0_2, .flt .f64 0, .sl 5 .nil, .sl 9 .nil]]) : VH)) 0), .int .u8 (IntKind.wrap .u8 x16)] (List.append (α := VO) (h ++ [.row (36 + boxK) [.int .i64 a0_0, .bool false, .int .i64 a0_2, .flt .f64 0, .sl 5 .nil, .sl 9 .nil]]) [.row (95 + boxK) [.sl 5 .nil]])).bind fun r22 =>
                    (cond (V.stays r22.2 (hj [(.ob h.length 5, .slice 9, .sl 9 x21)] (hj (heldStr (List.append (α := VO) (h ++ [.row (36 + boxK) [.int .i64 a0_0, .bool false, .int .i64 a0_2, .flt .f64 0, .sl 5 .nil, .sl 9 .nil]]) [.row (95 + boxK) [.sl 5 .nil]]) x19) [(.ob h.length 4, .slice 5, .sl 5 x19), (.ob h.length 3, .flt .f64, .flt .f64 x18), (.ob h.length 2, .int .i64, .int .i64 x17), (.ob h.length 0, .int .i64, .int .i64 x16)])))
                      ((callD (vF P tab n) P false (.one (.flat .ptr)) 57 [.ptr r22.1, .int .u8 0] r22.2).bind fun r23 =>
                        (cond (V.stays r23.2 (hj [(.ob h.length 5, .slice 9, .sl 9 x21)] (hj (heldStr (List.append (α := VO) (h ++ [.row (36 + boxK) [.int .i64 a0_0, .bool false, .int .i64 a0_2, .flt .f64 0, .sl 5 .nil, .sl 9 .nil]]) [.row (95 + boxK) [.sl 5 .nil]]) x19) [(.ob h.length 4, .slice 5, .sl 5 x19), (.ob h.length 3, .flt .f64, .flt .f64 x18), (.ob h.length 2, .int .i64, .int .i64 x17), (.ob h.length 0, .int .i64, .int .i64 x16)])))
                        ((callD (vF P tab n) P false (.one (.flat .ptr)) 58 [.ptr r23.1, .int .i64 x17] r23.2).bind fun r24 =>
                        (cond (V.stays r24.2 (hj [(.ob h.length 5, .slice 9, .sl 9 x21)] (hj (heldStr (List.append (α := VO) (h ++ [.row (36 + boxK) [.int .i64 a0_0, .bool false, .int .i64 a0_2, .flt .f64 0, .sl 5 .nil, .sl 9 .nil]]) [.row (95 + boxK) [.sl 5 .nil]]) x19) [(.ob h.length 4, .slice 5, .sl 5 x19), (.ob h.length 3, .flt .f64, .flt .f64 x18), (.ob h.length 0, .int .i64, .int .i64 x16)])))
                        ((callD (vF P tab n) P false (.one (.flat (.int .u64))) 60 [.flt .f64 x18] r24.2).bind fun r25 =>
                        (cond (V.stays r25.2 (hj [(.ob h.length 5, .slice 9, .sl 9 x21)] (hj (heldStr (List.append (α := VO) (h ++ [.row (36 + boxK) [.int .i64 a0_0, .bool false, .int .i64 a0_2, .flt .f64 0, .sl 5 .nil, .sl 9 .nil]]) [.row (95 + boxK) [.sl 5 .nil]]) x19) [(.ob h.length 4, .slice 5, .sl 5 x19), (.ob h.length 2, .int .i64, .int .i64 x17), (.ob h.length 0, .int .i64, .int .i64 x16)])))
                        ((callD (vF P tab n) P false (.one (.flat .ptr)) 59 [.ptr r24.1, .int .u64 r25.1] r25.2).bind fun r26 =>
                        (cond (V.stays r26.2 (hj [(.ob h.length 5, .slice 9, .sl 9 x21)] (hj (heldStr (List.append (α := VO) (h ++ [.row (36 + boxK) [.int .i64 a0_0, .bool false, .int .i64 a0_2, .flt .f64 0, .sl 5 .nil, .sl 9 .nil]]) [.row (95 + boxK) [.sl 5 .nil]]) x19) [(.ob h.length 4, .slice 5, .sl 5 x19), (.ob h.length 3, .flt .f64, .flt .f64 x18), (.ob h.length 2, .int .i64, .int .i64 x17), (.ob h.length 0, .int .i64, .int .i64 x16)])))
                        ((callD (vF P tab n) P false (.one (.flat .ptr)) 55 [.ptr r26.1, .str z20] r26.2).bind fun r27 =>
                        (cond (V.stays r27.2 [(.ob h.length 5, .slice 9, .sl 9 x21), (.ob h.length 4, .slice 5, .sl 5 x19), (.ob h.length 3, .flt .f64, .flt .f64 x18), (.ob h.length 2, .int .i64, .int .i64 x17), (.ob h.length 0, .int .i64, .int .i64 x16)])
                        ((callD (vF P tab n) P false (.one (.flat .ptr)) 61 [.ptr r27.1, .sl 9 x21] r27.2).bind fun r28 =>
                        (cond (V.stays r28.2 (hj (heldStr (List.append (α := VO) (h ++ [.row (36 + boxK) [.int .i64 a0_0, .bool false, .int .i64 a0_2, .flt .f64 0, .sl 5 .nil, .sl 9 .nil]]) [.row (95 + boxK) [.sl 5 .nil]]) x19) [(.ob h.length 4, .slice 5, .sl 5 x19), (.ob h.length 3, .flt .f64, .flt .f64 x18), (.ob h.length 2, .int .i64, .int .i64 x17), (.ob h.length 0, .int .i64, .int .i64 x16)]))
                        ((callD (vF P tab n) P false (.one (.flat (.slice 5))) 56 [.ptr r28.1] r28.2).bind fun r29 =>
                        (cond (V.stays r29.2 (hj [(.ob h.length 5, .slice 9, .sl 9 x21)] (hj (heldStr (List.append (α := VO) (h ++ [.row (36 + boxK) [.int .i64 a0_0, .bool false, .int .i64 a0_2, .flt .f64 0, .sl 5 .nil, .sl 9 .nil]]) [.row (95 + boxK) [.sl 5 .nil]]) x19) [(.ob h.length 4, .slice 5, .sl 5 x19), (.ob h.length 3, .flt .f64, .flt .f64 x18), (.ob h.length 2, .int .i64, .int .i64 x17), (.ob h.length 0, .int .i64, .int .i64 x16)])))
                        (some (.sl 5 r29.1, r29.2))
                        none))
                        none))
                        none))
                        none))
                        none))
                        none))
                        none))
                      none)))))))))) := by kernel_rfl
/-! bytes.Clone -/
theorem f50_eq (n : Nat) (a0 : VS) (h : VH) : bodyV P tab (vF P tab n) n 50 [.sl 5 a0] h =
  (cond (VS.isNil a0)
    (some (.sl 5 .nil, h))
    ((appD true h 1 1 5 (.fz [] (.ex 0)) a0).bind fun r1 =>
      (some (.sl 5 r1.1, r1.2)))) := by kernel_rfl
/-! (*godown/frame.Stream).next -/
theorem f51_eq (n : Nat) (a0 : VP) (h : VH) : bodyV P tab (vF P tab n) n 51 [.ptr a0] h =
  ((nn a0).bind fun p1 =>
    ((atO p1 0).bind fun p2 =>
      ((ldV (.flat (.slice 5)) h p2).bind fun x3 =>
        (cond (decide ((((VS.len x3 : Nat) : Int) : Int) < 2))
          (some (.tup [.sl 5 .nil, .bool false], h))
          ((nn a0).bind fun p4 =>
            ((atO p4 0).bind fun p5 =>
              ((ldV (.flat (.slice 5)) h p5).bind fun x6 =>
                ((cutD h 5 1 x6 none (some 2) none).bind fun z7 =>
                  ((callD (vF P tab n) P false (.one (.flat .ptr)) 62 [.sl 5 z7] h).bind fun r8 =>
                    ((callD (vF P tab n) P false (.one (.flat (.int .i64))) 63 [.ptr r8.1] r8.2).bind fun r9 =>
                      (cond ((r9.1 : Int) == 0)
                        ((nn a0).bind fun p10 =>
                        ((atO p10 0).bind fun p11 =>
                        ((stV r9.2 p11 [.sl 5 .nil]).bind fun h12 =>
                        ((nn a0).bind fun p13 =>
                        ((atO p13 1).bind fun p14 =>
                        ((stV h12 p14 [.bool true]).bind fun h15 =>
                        (some (.tup [.sl 5 .nil, .bool false], h15))))))))
                        (cond (decide ((r9.1 : Int) > 2048))
                        ((nn a0).bind fun p16 =>
                        ((atO p16 0).bind fun p17 =>
                        ((stV r9.2 p17 [.sl 5 .nil]).bind fun h18 =>
                        ((nn a0).bind fun p19 =>
                        ((atO p19 1).bind fun p20 =>
                        ((stV h18 p20 [.bool true]).bind fun h21 =>
                        (some (.tup [.sl 5 .nil, .bool false], h21))))))))
                        ((nn a0).bind fun p22 =>
                        ((atO p22 0).bind fun p23 =>
                        ((ldV (.flat (.slice 5)) r9.2 p23).bind fun x24 =>
                        (cond (decide ((((VS.len x24 : Nat) : Int) : Int) < (IntKind.wrap .i64 (2 + r9.1))))
                        (some (.tup [.sl 5 .nil, .bool false], r9.2))
                        ((nn a0).bind fun p25 =>
                        ((atO p25 0).bind fun p26 =>
                        ((ldV (.flat (.slice 5)) r9.2 p26).bind fun x27 =>
                        ((cutD r9.2 5 1 x27 (some 2) (some (IntKind.wrap .i64 (2 + r9.1))) none).bind fun z28 =>
                        ((callD (vF P tab n) P false (.one (.flat (.slice 5))) 50 [.sl 5 z28] r9.2).bind fun r29 =>
                        ((nn a0).bind fun p30 =>
                        ((atO p30 0).bind fun p31 =>
                        ((ldV (.flat (.slice 5)) r29.2 p31).bind fun x32 =>
                        ((cutD r29.2 5 1 x32 (some (IntKind.wrap .i64 (2 + r9.1))) none none).bind fun z33 =>
                        ((nn a0).bind fun p34 =>
                        ((atO p34 0).bind fun p35 =>
                        ((stV r29.2 p35 [.sl 5 z33]).bind fun h36 =>
                        (some (.tup [.sl 5 r29.1, .bool true], h36)))))))))))))))))))))))))))))) := by kernel_rfl
/-! (*godown/godownref04.In).take -/
theorem f53_eq (n : Nat) (a0 : VP) (a1 : Int) (h : VH) : bodyV P tab (vF P tab n) n 53 [.ptr a0, .int .i64 a1] h =
  ((nn a0).bind fun p1 =>
    ((atO p1 1).bind fun p2 =>
      ((ldV (.flat .bool) h p2).bind fun x3 =>
        (cond x3
          ((nn a0).bind fun p4 =>
            ((atO p4 0).bind fun p5 =>
              ((stV h p5 [.sl 5 .nil]).bind fun h6 =>
                ((nn a0).bind fun p7 =>
                  ((atO p7 1).bind fun p8 =>
                    ((stV h6 p8 [.bool true]).bind fun h9 =>
                      (some (.sl 5 .nil, h9))))))))
          ((nn a0).bind fun p10 =>
            ((atO p10 0).bind fun p11 =>
              ((ldV (.flat (.slice 5)) h p11).bind fun x12 =>
                (cond (decide ((a1 : Int) > ((VS.len x12 : Nat) : Int)))
                  ((nn a0).bind fun p13 =>
                    ((atO p13 0).bind fun p14 =>
                      ((stV h p14 [.sl 5 .nil]).bind fun h15 =>
                        ((nn a0).bind fun p16 =>
                        ((atO p16 1).bind fun p17 =>
                        ((stV h15 p17 [.bool true]).bind fun h18 =>
                        (some (.sl 5 .nil, h18))))))))
                  ((nn a0).bind fun p19 =>
                    ((atO p19 0).bind fun p20 =>
                      ((ldV (.flat (.slice 5)) h p20).bind fun x21 =>
                        ((cutD h 5 1 x21 none (some a1) none).bind fun z22 =>
                        ((nn a0).bind fun p23 =>
                        ((atO p23 0).bind fun p24 =>
                        ((ldV (.flat (.slice 5)) h p24).bind fun x25 =>
                        ((cutD h 5 1 x25 (some a1) none none).bind fun z26 =>
                        ((nn a0).bind fun p27 =>
                        ((atO p27 0).bind fun p28 =>
                        ((stV h p28 [.sl 5 z26]).bind fun h29 =>
                        (some (.sl 5 z22, h29))))))))))))))))))))) := by kernel_rfl
/-! (*godown/wire.Writer).Text -/
theorem f55_eq (n : Nat) (a0 : VP) (a1 : ByteArray) (h : VH) : bodyV P tab (vF P tab n) n 55 [.ptr a0, .str a1] h =
  ((callD (vF P tab n) P false (.one (.flat .ptr)) 58 [.ptr a0, .int .i64 ((a1).size : Int)] h).bind fun r1 =>
    ((callD (vF P tab n) P false (.one (.flat .ptr)) 64 [.ptr r1.1, .sl 5 (.fz (bytesE a1) .no)] r1.2).bind fun r2 =>
      (some (.ptr r2.1, r2.2)))) := by kernel_rfl
/-! (*godown/wire.Writer).Bytes -/
theorem f56_eq (n : Nat) (a0 : VP) (h : VH) : bodyV P tab (vF P tab n) n 56 [.ptr a0] h =
  (cond (VP.isNil a0)
    (some (.sl 5 .nil, h))
    ((nn a0).bind fun p1 =>
      ((atO p1 0).bind fun p2 =>
        ((ldV (.flat (.slice 5)) h p2).bind fun x3 =>
          ((callD (vF P tab n) P false (.one (.flat (.slice 5))) 50 [.sl 5 x3] h).bind fun r4 =>
            (some (.sl 5 r4.1, r4.2))))))) := by kernel_rfl
/-! (*godown/wire.Writer).Byte -/
theorem f57_eq (n : Nat) (a0 : VP) (a1 : Int) (h : VH) : bodyV P tab (vF P tab n) n 57 [.ptr a0, .int .u8 a1] h =
  ((callD (vF P tab n) P false (.one (.flat .ptr)) 64 [.ptr a0, .sl 5 (.fz [[.int .u8 a1]] (.ex 1))] h).bind fun r1 =>
    (some (.ptr r1.1, r1.2))) := by kernel_rfl
/-! (*godown/wire.Writer).Num -/
theorem f58_eq (n : Nat) (a0 : VP) (a1 : Int) (h : VH) : bodyV P tab (vF P tab n) n 58 [.ptr a0, .int .i64 a1] h =
  ((shrI .i64 a1 8).bind fun x1 =>
    ((callD (vF P tab n) P false (.one (.flat .ptr)) 64 [.ptr a0, .sl 5 (.fz [[.int .u8 (IntKind.wrap .u8 x1)], [.int .u8 (IntKind.wrap .u8 a1)]] (.ex 2))] h).bind fun r2 =>
      (some (.ptr r2.1, r2.2)))) := by kernel_rfl
/-! (*godown/wire.Writer).Wide -/
noncomputable def L59_0 (n m : Nat) (s0 : VP) (s1 : Int) (s5 : Int) (h : VH) : VRes := loopAt P tab 59 [1, 0, 1, 0] n [] m [.ptr s0, .int .u64 s1, .undef, .undef, .undef, .int .i64 s5, .undef, .undef, .undef, .undef, .undef, .undef, .undef, .undef, .undef, .undef, .undef, .undef] h
theorem L59_0_eq (n m : Nat) (s0 : VP) (s1 : Int) (s5 : Int) (h : VH) : L59_0 n (m + 1) s0 s1 s5 h =
  (cond (decide ((s5 : Int) ≥ 0))
    ((shrI .u64 s1 s5).bind fun x1 =>
      ((callD (vF P tab n) P false (.one (.flat .ptr)) 64 [.ptr s0, .sl 5 (.fz [[.int .u8 (IntKind.wrap .u8 x1)]] (.ex 1))] h).bind fun r2 =>
        (L59_0 n m s0 s1 (IntKind.wrap .i64 (s5 - 8)) r2.2)))
    (some (.ptr s0, h))) := by kernel_rfl
theorem f59_eq (n : Nat) (a0 : VP) (a1 : Int) (h : VH) : bodyV P tab (vF P tab n) n 59 [.ptr a0, .int .u64 a1] h =
  (L59_0 n n a0 a1 56 h) := by kernel_rfl
/-! (*godown/wire.Writer).Texts -/
noncomputable def L61_0 (n m : Nat) (s0 : VP) (s12 : VS) (s13 : Int) (s14 : Int) (h : VH) : VRes := loopAt P tab 61 [1, 1, 0, 1, 0] n [] m [.ptr s0, .undef, .undef, .undef, .undef, .undef, .undef, .undef, .undef, .undef, .undef, .undef, .sl 9 s12, .int .i64 s13, .int .i64 s14, .undef, .undef, .undef, .undef, .undef, .undef, .undef, .undef] h
theorem L61_0_eq (n m : Nat) (s0 : VP) (s12 : VS) (s13 : Int) (s14 : Int) (h : VH) : L61_0 n (m + 1) s0 s12 s13 s14 h =
  (cond (decide ((s14 : Int) < s13))
    ((ixV 1 s12 s14).bind fun p1 =>
      ((ldV (.flat .str) h p1).bind fun x2 =>
        ((callD (vF P tab n) P false (.one (.flat .ptr)) 55 [.ptr s0, .str x2] h).bind fun r3 =>
          (L61_0 n m s0 s12 s13 (IntKind.wrap .i64 (s14 + 1)) r3.2))))
    (some (.ptr s0, h))) := by kernel_rfl
theorem f61_eq (n : Nat) (a0 : VP) (a1 : VS) (h : VH) : bodyV P tab (vF P tab n) n 61 [.ptr a0, .sl 9 a1] h =
  ((callD (vF P tab n) P false (.one (.flat .ptr)) 57 [.ptr a0, .int .u8 (IntKind.wrap .u8 ((VS.len a1 : Nat) : Int))] h).bind fun r1 =>
    (L61_0 n n a0 a1 ((VS.len a1 : Nat) : Int) 0 r1.2)) := by kernel_rfl
/-! godown/wire.NewReader -/
theorem f62_eq (n : Nat) (a0 : VS) (h : VH) : bodyV P tab (vF P tab n) n 62 [.sl 5 a0] h =
  ((callD (vF P tab n) P false (.one (.flat (.slice 5))) 50 [.sl 5 a0] h).bind fun r1 =>
    (some (.ptr (.ob r1.2.length 0), (r1.2 ++ [.row (106 + boxK) [.sl 5 r1.1, .bool false]])))) := by kernel_rfl
/-! (*godown/wire.Reader).Num -/
theorem f63_eq (n : Nat) (a0 : VP) (h : VH) : bodyV P tab (vF P tab n) n 63 [.ptr a0] h =
  ((callD (vF P tab n) P false (.one (.flat (.int .u64))) 66 [.ptr a0, .int .i64 2] h).bind fun r1 =>
    (some (.int .i64 (IntKind.wrap .i64 r1.1), r1.2))) := by kernel_rfl
/-! (*godown/wire.Writer).lay -/
theorem f64_eq (n : Nat) (a0 : VP) (a1 : VS) (h : VH) : bodyV P tab (vF P tab n) n 64 [.ptr a0, .sl 5 a1] h =
  (cond (!VP.isNil a0)
    ((nn a0).bind fun p1 =>
      ((atO p1 0).bind fun p2 =>
        ((ldV (.flat (.slice 5)) h p2).bind fun x3 =>
          ((appD true h 1 1 5 x3 a1).bind fun r4 =>
            ((nn a0).bind fun p5 =>
              ((atO p5 0).bind fun p6 =>
                ((stV r4.2 p6 [.sl 5 r4.1]).bind fun h7 =>
                  (some (.ptr a0, h7)))))))))
    (some (.ptr a0, h))) := by kernel_rfl
/-! (*godown/wire.Reader).number -/
noncomputable def L66_0 (n m : Nat) (s5 : Int) (s10 : VS) (s11 : Int) (s12 : Int) (h : VH) : VRes := loopAt P tab 66 [1, 1, 0, 1, 0] n [] m [.undef, .undef, .undef, .undef, .undef, .int .u64 s5, .undef, .undef, .undef, .undef, .sl 5 s10, .int .i64 s11, .int .i64 s12, .undef, .undef, .undef, .undef, .undef, .undef, .undef, .undef, .undef, .undef] h
theorem L66_0_eq (n m : Nat) (s5 : Int) (s10 : VS) (s11 : Int) (s12 : Int) (h : VH) : L66_0 n (m + 1) s5 s10 s11 s12 h =
  (cond (decide ((s12 : Int) < s11))
    ((ixV 1 s10 s12).bind fun p1 =>
      ((ldV (.flat (.int .u8)) h p1).bind fun x2 =>
        ((shlI .u64 s5 8).bind fun x3 =>
          (L66_0 n m (bitI .or .u64 x3 (IntKind.wrap .u64 x2)) s10 s11 (IntKind.wrap .i64 (s12 + 1)) h))))
    (some (.int .u64 s5, h))) := by kernel_rfl
theorem f66_eq (n : Nat) (a0 : VP) (a1 : Int) (h : VH) : bodyV P tab (vF P tab n) n 66 [.ptr a0, .int .i64 a1] h =
  ((callD (vF P tab n) P false (.one (.flat (.slice 5))) 67 [.ptr a0, .int .i64 a1] h).bind fun r1 =>
    (L66_0 n n 0 r1.1 ((VS.len r1.1 : Nat) : Int) 0 r1.2)) := by kernel_rfl
/-! (*godown/wire.Reader).take -/
theorem f67_eq (n : Nat) (a0 : VP) (a1 : Int) (h : VH) : bodyV P tab (vF P tab n) n 67 [.ptr a0, .int .i64 a1] h =
  ((callD (vF P tab n) P false (.one (.flat .bool)) 68 [.ptr a0] h).bind fun r1 =>
    (cond (!r1.1)
      (some (.sl 5 .nil, r1.2))
      ((nn a0).bind fun p2 =>
        ((atO p2 0).bind fun p3 =>
          ((ldV (.flat (.slice 5)) r1.2 p3).bind fun x4 =>
            (cond (decide ((a1 : Int) > ((VS.len x4 : Nat) : Int)))
              ((callD (vF P tab n) P false (.tup []) 69 [.ptr a0] r1.2).bind fun r5 =>
                (some (.sl 5 .nil, r5.2)))
              ((nn a0).bind fun p6 =>
                ((atO p6 0).bind fun p7 =>
                  ((ldV (.flat (.slice 5)) r1.2 p7).bind fun x8 =>
                    ((cutD r1.2 5 1 x8 none (some a1) (some a1)).bind fun z9 =>
                      ((nn a0).bind fun p10 =>
                        ((atO p10 0).bind fun p11 =>
                        ((ldV (.flat (.slice 5)) r1.2 p11).bind fun x12 =>
                        ((cutD r1.2 5 1 x12 (some a1) none none).bind fun z13 =>
                        ((nn a0).bind fun p14 =>
                        ((atO p14 0).bind fun p15 =>
                        ((stV r1.2 p15 [.sl 5 z13]).bind fun h16 =>
                        (some (.sl 5 z9, h16))))))))))))))))))) := by kernel_rfl
/-! (*godown/wire.Reader).OK -/
theorem f68_eq (n : Nat) (a0 : VP) (h : VH) : bodyV P tab (vF P tab n) n 68 [.ptr a0] h =
  (cond (!VP.isNil a0)
    ((nn a0).bind fun p1 =>
      ((atO p1 1).bind fun p2 =>
        ((ldV (.flat .bool) h p2).bind fun x3 =>
          (some (.bool (!x3), h)))))
    (some (.bool false, h))) := by kernel_rfl
/-! (*godown/wire.Reader).give -/
theorem f69_eq (n : Nat) (a0 : VP) (h : VH) : bodyV P tab (vF P tab n) n 69 [.ptr a0] h =
  ((nn a0).bind fun p1 =>
    ((atO p1 0).bind fun p2 =>
      ((stV h p2 [.sl 5 .nil]).bind fun h3 =>
        ((nn a0).bind fun p4 =>
          ((atO p4 1).bind fun p5 =>
            ((stV h3 p5 [.bool true]).bind fun h6 =>
              (some (.tup [], h6)))))))) := by kernel_rfl
end Go.Proofs.Ytfneikjincmhpaa
