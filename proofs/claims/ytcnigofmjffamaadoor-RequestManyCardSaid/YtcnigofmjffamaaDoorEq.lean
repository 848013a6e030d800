import Derived.Test.YtcnigofmjffamaaDoorB11k
set_option maxRecDepth 100000
set_option maxHeartbeats 0
set_option linter.unusedVariables false
set_option linter.unusedSimpArgs false
namespace Go.Proofs.YtcnigofmjffamaaDoor
open Go.Proofs.YtcnigofmjffamaaDoor.Sh Go.Proofs.YtcnigofmjffamaaDoor.Sh.V
def notes : List (Nat × Notes) := [(4, ⟨[], [(5, [4, 5, 6, 7, 8, 11, 12, 13, 14, 15, 16, 17, 18, 19, 20, 21, 22, 23, 24, 25, 26, 27, 28, 29, 30, 31, 32, 33, 34, 35, 36, 37, 38, 39, 40, 41, 42, 43, 44, 45, 46, 47, 48, 49, 50, 51, 52, 53, 54, 55, 56, 57, 58, 59, 60, 61, 62, 63, 64, 65, 66, 67, 68, 69, 70, 71, 72, 73, 74, 75, 76, 77, 78, 79, 80, 81, 82, 83, 84, 85, 86, 87, 88, 89, 90, 91, 92, 93, 94, 95, 96, 97, 98, 99, 100, 101, 102, 103, 104, 105, 106, 107, 108, 109, 110, 111]), (9, [4, 5, 6, 7, 8, 13, 14, 15, 16, 17, 18, 19, 20, 21, 22, 23, 24, 25, 26, 27, 28, 29, 30, 31, 32, 33, 34, 35, 36, 37, 38, 39, 40, 41, 42, 43, 44, 45, 46, 47, 48, 49, 50, 51, 52, 53, 54, 55, 56, 57, 58, 59, 60, 61, 62, 63, 64, 65, 66, 67, 68, 69, 70, 71, 72, 73, 74, 75, 76, 77, 78, 79, 80, 81, 82, 83, 84, 85, 86, 87, 88, 89, 90, 91, 92, 93, 94, 95, 96, 97, 98, 99, 100, 101, 102, 103, 104, 105, 106, 107, 108, 109, 110, 111]), (13, [4, 5, 6, 7, 8, 12, 14, 15, 16, 17, 18, 19, 20, 21, 22, 23, 24, 25, 26, 27, 28, 29, 30, 31, 32, 33, 34, 35, 36, 37, 38, 39, 40, 41, 42, 43, 44, 45, 46, 47, 48, 49, 50, 51, 52, 53, 54, 55, 56, 57, 58, 59, 60, 61, 62, 63, 64, 65, 66, 67, 68, 69, 70, 71, 72, 73, 74, 75, 76, 77, 78, 79, 80, 81, 82, 83, 84, 85, 86, 87, 88, 89, 90, 91, 92, 93, 94, 95, 96, 97, 98, 99, 100, 101, 102, 103, 104, 105, 106, 107, 108, 109, 110, 111]), (21, [0, 2, 3, 4, 5, 6, 7, 8, 10, 11, 12, 13, 16, 17, 18, 19, 20, 21, 22, 23, 24, 25, 26, 27, 28, 29, 30, 31, 32, 33, 34, 35, 36, 37, 38, 39, 40, 41, 42, 43, 44, 45, 46, 47, 48, 49, 50, 51, 52, 53, 54, 55, 56, 57, 58, 59, 60, 61, 62, 63, 64, 65, 66, 67, 68, 69, 70, 71, 72, 73, 74, 75, 76, 77, 78, 79, 80, 81, 82, 83, 84, 85, 86, 87, 88, 89, 90, 91, 92, 93, 94, 95, 96, 97, 98, 99, 100, 101, 102, 103, 104, 105, 106, 107, 108, 109, 110, 111])], []⟩),
  (5, ⟨[(5, .order [(0, false), (1, true), (2, true), (4, true), (3, false), (5, true), (6, true), (7, true), (8, true), (9, true), (11, true), (12, true), (13, true), (14, true), (15, true), (10, false), (16, true), (17, true), (18, true)])], [], []⟩),
  (9, ⟨[(15, .order [(0, true), (1, true), (2, true), (3, true), (4, true), (5, false), (6, false), (7, true), (8, true), (9, true), (10, true), (12, true), (13, true), (11, false), (14, false), (15, true), (16, true), (17, true)])], [(4, [7, 8, 9, 10, 11, 12, 13, 14, 16, 17, 18, 19, 20, 21, 22, 23, 24, 25, 26, 27, 28, 29, 30, 31, 32, 33, 34, 35, 36, 37, 38, 39, 40, 41, 42, 43, 44, 45, 46, 47, 48, 49, 50, 51, 52, 53, 54, 55, 56, 57, 58, 59, 60, 61, 62, 63, 64, 65, 66, 67, 68, 69, 70, 71, 72, 73, 74, 75, 76, 77, 78, 79, 80, 81, 82, 83, 84, 85, 86, 87, 88, 89, 90, 91, 92, 93, 94, 95, 96, 97, 98, 99, 100, 101, 102, 103, 104, 105, 106, 107, 108, 109, 110, 111, 112, 113, 114, 115, 116, 117, 118])], []⟩),
  (15, ⟨[], [(11, [0, 2, 5, 6, 7, 8, 9, 10, 11, 12, 13, 14, 15, 16, 17, 18, 19, 20, 21, 22, 23, 24, 25, 26, 27, 28, 29, 30, 31, 32, 33, 34, 35, 36, 37, 38, 39, 40, 41, 42, 43, 44, 45, 46, 47, 48, 49, 50, 51, 52, 53, 54, 55, 56, 57, 58, 59, 60, 61, 62, 63, 64, 65, 66, 67, 68, 69, 70, 71, 72, 73, 74, 75, 76, 77, 78, 79, 80, 81, 82, 83, 84, 85, 86, 87, 88, 89, 90, 91, 92, 93, 94, 95, 96, 97, 98]), (19, [0, 2, 7, 8, 9, 10, 11, 12, 13, 14, 15, 16, 17, 18, 19, 20, 21, 22, 23, 24, 25, 26, 27, 28, 29, 30, 31, 32, 33, 34, 35, 36, 37, 38, 39, 40, 41, 42, 43, 44, 45, 46, 47, 48, 49, 50, 51, 52, 53, 54, 55, 56, 57, 58, 59, 60, 61, 62, 63, 64, 65, 66, 67, 68, 69, 70, 71, 72, 73, 74, 75, 76, 77, 78, 79, 80, 81, 82, 83, 84, 85, 86, 87, 88, 89, 90, 91, 92, 93, 94, 95, 96, 97, 98])], []⟩),
  (17, ⟨[(4, .order [(0, true), (1, true), (2, true), (4, true), (5, true), (6, true), (8, true), (9, true), (3, false), (7, false), (10, false)]), (12, .order [(0, true), (1, true), (2, true), (4, true), (5, true), (6, true), (8, true), (9, true), (11, true), (12, true), (13, true), (14, true), (3, false), (7, false), (10, false), (15, false)])], [(10, [0, 1, 2, 4, 5, 6, 7, 8, 9, 10, 11, 12, 13, 14, 15, 16, 17, 18, 19, 20, 21, 22, 23, 24, 25, 26, 27, 28, 29, 30, 31, 32, 33, 34, 35, 36, 37, 38, 39, 40, 41, 42, 43, 44, 45, 46, 47, 51, 52, 53, 54, 55, 56, 57, 58, 59, 60, 61, 62, 63, 64, 65, 66, 67, 68, 69, 70, 71, 72, 73, 74, 75, 76, 77, 78, 79, 80, 81, 82, 83, 84]), (14, [0, 1, 2, 4, 5, 6, 7, 8, 9, 10, 11, 12, 13, 14, 15, 16, 17, 18, 19, 20, 21, 22, 23, 24, 25, 26, 27, 28, 29, 30, 31, 32, 33, 34, 35, 36, 37, 38, 39, 40, 41, 42, 43, 44, 45, 46, 47, 51, 52, 53, 54, 55, 56, 57, 58, 59, 60, 61, 62, 63, 64, 65, 66, 67, 68, 69, 70, 74, 75, 76, 77, 78, 79, 80, 81, 82, 83, 84])], []⟩),
  (18, ⟨[], [(4, [2, 3, 4, 6, 7, 8, 9, 10, 11, 12, 13, 14, 15, 16, 17, 18, 19, 20, 21, 22, 23, 24, 25])], []⟩),
  (23, ⟨[(6, .order [(0, true), (1, true), (2, true), (3, true), (4, true), (5, true), (6, true), (7, true), (8, true), (9, true), (10, true), (11, true), (12, false), (13, false)])], [(4, [0, 1, 4, 6, 7, 8, 9, 10, 11, 12, 13, 14, 15, 16, 17, 18, 19, 20, 21, 22, 23, 24, 25, 26, 27, 28, 29, 30, 31, 32, 33, 34, 35, 36, 37, 38, 39, 40, 41, 42, 43, 44, 45, 46, 47, 48, 49, 50, 51, 52, 53, 54, 55, 56, 57, 58, 59, 60, 61, 62, 63, 64, 65, 66, 67, 68, 69, 70, 71, 72, 73, 74, 75, 76, 77, 78, 79, 80, 81, 82, 83, 84, 85, 86, 87, 88, 89, 90, 91, 92, 93, 94, 95, 96, 97])], []⟩),
  (25, ⟨[(5, .order [(0, true), (1, true), (2, true), (3, true), (5, true), (7, true), (8, true), (10, true), (11, true), (14, true), (15, true), (16, true), (18, true), (19, true), (4, false), (6, false), (9, false), (12, false), (13, false), (17, false), (20, false), (21, false), (22, true)])], [], []⟩),
  (29, ⟨[(1, .order [(0, true), (1, true), (2, true), (3, false), (4, true), (5, true), (6, true), (7, true), (8, true), (9, false), (10, true), (11, true), (12, true), (13, true), (14, true), (15, true), (16, false), (17, true), (18, true), (19, true), (20, true), (21, true), (23, true), (24, true), (22, false), (25, false), (26, true), (27, true), (28, true), (29, true), (30, true), (31, true), (32, false), (33, false), (34, true), (35, true), (36, true), (37, true), (38, true), (39, false), (40, false), (41, true), (42, true)])], [], []⟩),
  (31, ⟨[], [(18, [0, 1, 3, 8, 9, 10, 11, 12, 13, 14, 15, 16, 17, 18, 19, 20, 21, 22, 23, 24, 25, 26, 27, 28, 29, 30, 31, 32, 33, 34, 35, 36, 37, 38, 39, 40, 41, 42, 43, 44, 45, 46, 47, 48, 49, 50, 51, 52, 53, 54, 55, 56, 57, 58, 59, 60, 61, 62, 63, 64, 65, 66, 67, 68, 69, 70, 71, 72, 73, 74, 75, 76, 77, 78, 79, 80, 81, 82, 83, 84, 85, 86, 87, 88, 89, 90, 91, 92, 93, 94, 95, 96, 97, 98, 99, 100, 101, 102, 103, 104, 105, 106, 107, 108, 109, 110, 111, 112, 113]), (28, [0, 1, 3, 11, 12, 13, 14, 15, 16, 17, 18, 19, 20, 21, 22, 23, 24, 25, 26, 27, 28, 29, 30, 31, 32, 33, 34, 35, 36, 37, 38, 39, 40, 41, 42, 43, 44, 45, 46, 47, 48, 49, 50, 51, 52, 53, 54, 55, 56, 57, 58, 59, 60, 61, 62, 63, 64, 65, 66, 67, 68, 69, 70, 71, 72, 73, 74, 75, 76, 77, 78, 79, 80, 81, 82, 83, 84, 85, 86, 87, 88, 89, 90, 91, 92, 93, 94, 95, 96, 97, 98, 99, 100, 101, 102, 103, 104, 105, 106, 107, 108, 109, 110, 111, 112, 113])], []⟩),
  (37, ⟨[], [(6, [1, 2, 3, 4, 5, 7, 8, 9, 10, 11, 12, 13, 14, 15, 16, 17, 18, 19, 22, 23, 24, 25, 26, 27, 28, 29, 30, 31, 32, 33])], []⟩),
  (39, ⟨[], [(6, [1, 2, 3, 4, 6, 7, 8, 9, 10, 11, 12, 13, 14, 15, 16, 17, 20, 21, 22, 23, 24, 25, 26, 27, 28, 29, 30, 31, 32, 33, 34, 35])], []⟩),
  (41, ⟨[], [(3, [1, 2, 5, 6, 7, 8, 9, 10, 11, 12, 13, 14, 15, 16, 17, 18, 19, 20, 21, 22])], []⟩),
  (45, ⟨[], [(3, [1, 2, 3, 4, 5, 6, 7, 8, 9, 10, 11, 15, 16, 17, 18, 19, 20, 21, 22])], []⟩),
  (55, ⟨[], [(4, [2, 3, 4, 6, 7, 8, 9, 10, 11, 12, 13, 14, 15, 16, 17, 18, 19, 20, 21, 22, 23, 24, 25])], []⟩),
  (56, ⟨[], [(4, [2, 3, 4, 6, 7, 8, 9, 10, 11, 12, 13, 14, 15, 16, 17, 18, 19, 20, 21, 22, 23, 24, 25])], []⟩),
  (58, ⟨[], [(2, [2, 3, 4, 6, 7, 8, 9, 10, 11, 12, 13, 14, 15, 16, 17])], []⟩),
  (63, ⟨[], [(3, [1, 2, 5, 6, 7, 8, 9, 10, 11, 12, 13, 14, 15, 16, 17, 18])], []⟩),
  (67, ⟨[], [(4, [2, 3, 4, 5, 6, 7, 8, 9, 10, 11, 14, 15, 16, 17, 18, 19, 20, 21, 22, 23, 24, 25])], []⟩),
  (68, ⟨[], [(4, [0, 1, 2, 3, 4, 8, 9, 10, 11, 12, 13, 14, 15, 16, 17, 18, 19, 20, 21, 22, 23, 24, 25])], []⟩),
  (71, ⟨[], [(6, [1, 2, 3, 4, 8, 9, 10, 11, 12, 13, 14, 15, 16, 17, 18, 19, 20, 21, 22, 23, 24, 25, 26, 27, 28, 29, 30, 31, 32, 33, 34, 35, 36, 37, 38, 39, 40, 41])], []⟩),
  (74, ⟨[], [(3, [0, 1, 2, 3, 4, 6, 7, 8, 9, 13, 14, 15, 16, 17, 18, 19, 20, 21, 22])], []⟩),
  (78, ⟨[(7, .order [(0, true), (1, true), (2, true), (3, false), (4, true), (5, false), (6, false), (7, true), (8, false)]), (9, .order [(0, true), (1, true), (2, true), (3, true), (4, false), (5, true), (6, false), (7, true)])], [(6, [1, 2, 5, 7, 8, 9, 10, 11, 12, 13, 14, 15, 16, 17, 18, 19, 20, 23, 24, 25, 26, 27, 28, 29, 30, 31, 32, 33, 34, 35, 36, 37, 38])], []⟩),
  (104, ⟨[], [(2, [2, 3, 4, 5, 6, 9, 10, 11, 12, 13, 14, 15, 16, 17, 18])], []⟩)]
noncomputable abbrev P : Program := Tryd.prog
def reach : List Nat := [3, 4, 5, 6, 9, 10, 11, 12, 13, 14, 15, 17, 18, 23, 25, 26, 27, 28, 29, 30, 31, 32, 33, 34, 35, 36, 37, 38, 39, 40, 41, 42, 43, 44, 45, 46, 55, 56, 57, 58, 59, 60, 61, 62, 63, 64, 65, 66, 67, 68, 69, 70, 71, 72, 73, 74, 75, 76, 77, 78, 79, 80, 91, 92, 93, 94, 104]
def noteOf (f : FuncId) : Notes := (find notes f).getD ⟨[], [], []⟩
noncomputable def prims : List (FuncId × (List V → VH → VRes)) := [(16, kindP)]
noncomputable def tab : VTab := mkVp (mkV P noteOf reach [] (fun f => !among [4, 27] f) (among [10, 11, 12, 13, 14, 15, 16, 17, 18, 23, 25, 26, 28, 29, 30, 31, 32, 38, 41, 42, 55, 56, 59, 61, 63, 64, 65, 66, 67, 69, 91]) (fun f g => among2 [(9, 27)] f g) (fun f => !among [] f)) prims
noncomputable def ext24 : Array Value → Sem Value := (extOf P 24).getD fun _ => .pure undef
noncomputable def ext90 : Array Value → Sem Value := (extOf P 90).getD fun _ => .pure undef
/-! godown/godownlaw11.RequestReads -/
theorem f3_eq (n : Nat) (a0 : VS) (a1 : Int) (h : VH) : bodyV P tab (vF P tab n) n 3 [.sl 5 a0, .int .u8 a1] h =
  ((callD (vF P tab n) P false (.one (.flat .bool)) 10 [] h).bind fun r1 =>
    (cond (!r1.1)
      ((callD (vF P tab n) P false (.one (.flat .bool)) 10 [] r1.2).bind fun r2 =>
        (some (.bool r2.1, r2.2)))
      (cond (decide ((((VS.len a0 : Nat) : Int) : Int) > 300))
        ((callD (vF P tab n) P false (.one (.flat .bool)) 10 [] r1.2).bind fun r3 =>
          (some (.bool r3.1, r3.2)))
        ((callD (vF P tab n) P false (.one (.flat .bool)) 11 [.sl 5 a0] r1.2).bind fun r4 =>
          (cond r4.1
            ((remI a1 14).bind fun x5 =>
              ((callD (vF P tab n) P false (.one (.flat (.slice 5))) 12 [.sl 5 (.fz [[.int .u8 x5]] (.ex 1)), .sl 5 a0] r4.2).bind fun r6 =>
                ((callD (vF P tab n) P false (.one (.flat .bool)) 11 [.sl 5 r6.1] r6.2).bind fun r7 =>
                  (cond r7.1
                    ((remI a1 9).bind fun x8 =>
                      ((strV r7.2 5 a0).bind fun z9 =>
                        ((callD (vF P tab n) P false (.one (.flat (.slice 5))) 13 [.str z9] r7.2).bind fun r10 =>
                        ((callD (vF P tab n) P false (.one (.flat (.slice 5))) 12 [.sl 5 (.fz [[.int .u8 (IntKind.wrap .u8 (2 + x8))]] (.ex 1)), .sl 5 r10.1] r10.2).bind fun r11 =>
                        ((callD (vF P tab n) P false (.one (.flat .bool)) 11 [.sl 5 r11.1] r11.2).bind fun r12 =>
                        (some (.bool r12.1, r12.2)))))))
                    (some (.bool false, r7.2))))))
            (some (.bool false, r4.2))))))) := by kernel_rfl
/-! godown/godownlaw11.RequestMany -/
noncomputable def L4_0 (n m : Nat) (s0 : Int) (s1 : Int) (s2 : Int) (s3 : Int) (s9 : Nat) (s10 : Int) (h : VH) : VRes := loopAt P tab 4 [1, 1, 1, 0, 1, 0] n [] m [.int .u8 s0, .int .u8 s1, .int .u8 s2, .int .u8 s3, .undef, .undef, .undef, .undef, .undef, .ptr (.ob s9 0), .int .i64 s10, .undef, .undef, .undef, .undef, .undef, .undef, .undef, .undef, .undef, .undef, .undef, .undef, .undef, .undef, .undef, .undef, .undef, .undef, .undef, .undef, .undef, .undef, .undef, .undef, .undef, .undef, .undef, .undef, .undef, .undef, .undef, .undef, .undef, .undef, .undef, .undef, .undef, .undef, .undef, .undef, .undef, .undef, .undef, .undef, .undef, .undef, .undef, .undef, .undef, .undef, .undef, .undef, .undef, .undef, .undef, .undef, .undef, .undef, .undef, .undef, .undef, .undef, .undef, .undef, .undef, .undef, .undef, .undef, .undef, .undef, .undef, .undef, .undef, .undef, .undef, .undef, .undef, .undef, .undef, .undef, .undef, .undef, .undef, .undef, .undef, .undef, .undef, .undef, .undef, .undef, .undef, .undef, .undef, .undef, .undef, .undef, .undef, .undef, .undef, .undef, .undef] h
noncomputable def L4_1 (n m0 m : Nat) (s0 : Int) (s1 : Int) (s2 : Int) (s3 : Int) (s9 : Nat) (s10 : Int) (s11 : Nat) (s12 : Int) (h : VH) : VRes := loopAt P tab 4 [1, 1, 1, 0, 1, 0, 0, 1, 0, 0, 1, 0, 1, 0] n [m0] m [.int .u8 s0, .int .u8 s1, .int .u8 s2, .int .u8 s3, .undef, .undef, .undef, .undef, .undef, .ptr (.ob s9 0), .int .i64 s10, .ptr (.ob s11 0), .int .i64 s12, .undef, .undef, .undef, .undef, .undef, .undef, .undef, .undef, .undef, .undef, .undef, .undef, .undef, .undef, .undef, .undef, .undef, .undef, .undef, .undef, .undef, .undef, .undef, .undef, .undef, .undef, .undef, .undef, .undef, .undef, .undef, .undef, .undef, .undef, .undef, .undef, .undef, .undef, .undef, .undef, .undef, .undef, .undef, .undef, .undef, .undef, .undef, .undef, .undef, .undef, .undef, .undef, .undef, .undef, .undef, .undef, .undef, .undef, .undef, .undef, .undef, .undef, .undef, .undef, .undef, .undef, .undef, .undef, .undef, .undef, .undef, .undef, .undef, .undef, .undef, .undef, .undef, .undef, .undef, .undef, .undef, .undef, .undef, .undef, .undef, .undef, .undef, .undef, .undef, .undef, .undef, .undef, .undef, .undef, .undef, .undef, .undef, .undef, .undef] h
noncomputable def L4_2 (n m : Nat) (s1 : Int) (s9 : Nat) (s14 : Nat) (s15 : Int) (h : VH) : VRes := loopAt P tab 4 [1, 1, 1, 1, 1, 0, 1, 0] n [] m [.undef, .int .u8 s1, .undef, .undef, .undef, .undef, .undef, .undef, .undef, .ptr (.ob s9 0), .undef, .undef, .undef, .undef, .ptr (.ob s14 0), .int .i64 s15, .undef, .undef, .undef, .undef, .undef, .undef, .undef, .undef, .undef, .undef, .undef, .undef, .undef, .undef, .undef, .undef, .undef, .undef, .undef, .undef, .undef, .undef, .undef, .undef, .undef, .undef, .undef, .undef, .undef, .undef, .undef, .undef, .undef, .undef, .undef, .undef, .undef, .undef, .undef, .undef, .undef, .undef, .undef, .undef, .undef, .undef, .undef, .undef, .undef, .undef, .undef, .undef, .undef, .undef, .undef, .undef, .undef, .undef, .undef, .undef, .undef, .undef, .undef, .undef, .undef, .undef, .undef, .undef, .undef, .undef, .undef, .undef, .undef, .undef, .undef, .undef, .undef, .undef, .undef, .undef, .undef, .undef, .undef, .undef, .undef, .undef, .undef, .undef, .undef, .undef, .undef, .undef, .undef, .undef, .undef, .undef] h
noncomputable def L4_3 (n m0 m : Nat) (s0 : Int) (s1 : Int) (s2 : Int) (s3 : Int) (s9 : Nat) (s10 : Int) (s11 : Nat) (s13 : Int) (h : VH) : VRes := loopAt P tab 4 [1, 1, 1, 0, 1, 0, 0, 1, 0, 0, 1, 1, 0, 1, 0] n [m0] m [.int .u8 s0, .int .u8 s1, .int .u8 s2, .int .u8 s3, .undef, .undef, .undef, .undef, .undef, .ptr (.ob s9 0), .int .i64 s10, .ptr (.ob s11 0), .undef, .int .i64 s13, .undef, .undef, .undef, .undef, .undef, .undef, .undef, .undef, .undef, .undef, .undef, .undef, .undef, .undef, .undef, .undef, .undef, .undef, .undef, .undef, .undef, .undef, .undef, .undef, .undef, .undef, .undef, .undef, .undef, .undef, .undef, .undef, .undef, .undef, .undef, .undef, .undef, .undef, .undef, .undef, .undef, .undef, .undef, .undef, .undef, .undef, .undef, .undef, .undef, .undef, .undef, .undef, .undef, .undef, .undef, .undef, .undef, .undef, .undef, .undef, .undef, .undef, .undef, .undef, .undef, .undef, .undef, .undef, .undef, .undef, .undef, .undef, .undef, .undef, .undef, .undef, .undef, .undef, .undef, .undef, .undef, .undef, .undef, .undef, .undef, .undef, .undef, .undef, .undef, .undef, .undef, .undef, .undef, .undef, .undef, .undef, .undef, .undef] h
theorem L4_0_eq (n m : Nat) (s0 : Int) (s1 : Int) (s2 : Int) (s3 : Int) (s9 : Nat) (s10 : Int) (h : VH) : L4_0 n (m + 1) s0 s1 s2 s3 s9 s10 h =
  ((remI s0 7).bind fun x1 =>
    (cond (decide ((s10 : Int) < (IntKind.wrap .i64 x1)))
      ((stV (h ++ [.row (34 + boxK) [.str ⟨#[]⟩, .sl 5 .nil, .sl 9 .nil, .sl 3 .nil]]) (.ob h.length 0) [.str ⟨#[110]⟩, .sl 5 .nil, .sl 9 .nil, .sl 3 .nil]).bind fun h2 =>
        (L4_1 n m n s0 s1 s2 s3 s9 s10 h.length 0 h2))
      ((stV (h ++ [.row (31 + boxK) [.int .u8 0, .str ⟨#[]⟩, .str ⟨#[]⟩, .sl 5 .nil, .sl 9 .nil, .sl 34 .nil]]) (.ob h.length 0) [.int .u8 1, .str ⟨#[110]⟩, .str ⟨#[]⟩, .sl 5 .nil, .sl 9 .nil, .sl 34 .nil]).bind fun h3 =>
        (L4_2 n n s1 s9 h.length 0 h3)))) := by kernel_rfl
theorem L4_1_eq (n m0 m : Nat) (s0 : Int) (s1 : Int) (s2 : Int) (s3 : Int) (s9 : Nat) (s10 : Int) (s11 : Nat) (s12 : Int) (h : VH) : L4_1 n m0 (m + 1) s0 s1 s2 s3 s9 s10 s11 s12 h =
  ((remI s1 20).bind fun x1 =>
    (cond (decide ((s12 : Int) < (IntKind.wrap .i64 x1)))
      ((ldV (.flat (.slice 9)) h (.ob s11 2)).bind fun x2 =>
        ((appD false (h ++ [.row 9 [.str ⟨#[114]⟩]]) 1 16 9 x2 (.hp h.length 0 1)).bind fun r3 =>
          ((stV r3.2 (.ob s11 2) [.sl 9 r3.1]).bind fun h4 =>
            (L4_1 n m0 m s0 s1 s2 s3 s9 s10 s11 (IntKind.wrap .i64 (s12 + 1)) h4))))
      (L4_3 n m0 n s0 s1 s2 s3 s9 s10 s11 0 h))) := by kernel_rfl
theorem L4_2_eq (n m : Nat) (s1 : Int) (s9 : Nat) (s14 : Nat) (s15 : Int) (h : VH) : L4_2 n (m + 1) s1 s9 s14 s15 h =
  ((remI s1 20).bind fun x1 =>
    (cond (decide ((s15 : Int) < (IntKind.wrap .i64 x1)))
      ((ldV (.flat (.slice 9)) h (.ob s14 4)).bind fun x2 =>
        ((appD false (h ++ [.row 9 [.str ⟨#[114]⟩]]) 1 16 9 x2 (.hp h.length 0 1)).bind fun r3 =>
          ((stV r3.2 (.ob s14 4) [.sl 9 r3.1]).bind fun h4 =>
            (L4_2 n m s1 s9 s14 (IntKind.wrap .i64 (s15 + 1)) h4))))
      ((ldV (.agg [.int .u8, .str, .str, .slice 5, .slice 9, .slice 34]) h (.ob s14 0)).bind fun x5 =>
        ((callD (vF P tab n) P false (.one (.flat (.slice 5))) 15 [.agg [.int .u8 x5.1, .str x5.2.1, .str x5.2.2.1, .sl 5 x5.2.2.2.1, .sl 9 x5.2.2.2.2.1, .sl 34 x5.2.2.2.2.2.1]] h).bind fun r6 =>
          ((callD (vF P tab n) P false (.tup [(.agg [.int .u8, .str, .str, .slice 5, .slice 9, .slice 34]), (.flat (.int .i64))]) 14 [.sl 5 r6.1] r6.2).bind fun r7 =>
            ((stV (r7.2 ++ [.row (31 + boxK) [.int .u8 0, .str ⟨#[]⟩, .str ⟨#[]⟩, .sl 5 .nil, .sl 9 .nil, .sl 34 .nil]]) (.ob r7.2.length 0) [.int .u8 r7.1.1.1, .str r7.1.1.2.1, .str r7.1.1.2.2.1, .sl 5 r7.1.1.2.2.2.1, .sl 9 r7.1.1.2.2.2.2.1, .sl 34 r7.1.1.2.2.2.2.2.1]).bind fun h8 =>
              ((ldV (.agg [.int .u8, .str, .str, .slice 5, .slice 9, .slice 34]) h8 (.ob s9 0)).bind fun x9 =>
                ((callD (vF P tab n) P false (.one (.flat (.slice 5))) 15 [.agg [.int .u8 x9.1, .str x9.2.1, .str x9.2.2.1, .sl 5 x9.2.2.2.1, .sl 9 x9.2.2.2.2.1, .sl 34 x9.2.2.2.2.2.1]] h8).bind fun r10 =>
                  ((callD (vF P tab n) P false (.one (.flat .bool)) 11 [.sl 5 r10.1] r10.2).bind fun r11 =>
                    (cond r11.1
                      ((remI s1 20).bind fun x12 =>
                        (some (.bool (((r7.1.2.1 : Int) == 0) == (decide (((IntKind.wrap .i64 x12) : Int) ≤ 16))), r11.2)))
                      (some (.bool false, r11.2)))))))))))) := by kernel_rfl
theorem L4_3_eq (n m0 m : Nat) (s0 : Int) (s1 : Int) (s2 : Int) (s3 : Int) (s9 : Nat) (s10 : Int) (s11 : Nat) (s13 : Int) (h : VH) : L4_3 n m0 (m + 1) s0 s1 s2 s3 s9 s10 s11 s13 h =
  ((remI s2 6).bind fun x1 =>
    (cond (decide ((s13 : Int) < (IntKind.wrap .i64 x1)))
      (cond (decide ((s10 : Int) > 0))
        ((ldV (.flat (.slice 3)) h (.ob s11 3)).bind fun x2 =>
          ((remI s3 3).bind fun x3 =>
            ((quoI .i64 (IntKind.wrap .i64 x3) 2).bind fun x4 =>
              ((remI (IntKind.wrap .i64 (s10 + (IntKind.wrap .i64 (x4 * s13)))) 256).bind fun x5 =>
                ((appD false (h ++ [.row 3 [.int .i64 x5]]) 1 8 3 x2 (.hp h.length 0 1)).bind fun r6 =>
                  ((stV r6.2 (.ob s11 3) [.sl 3 r6.1]).bind fun h7 =>
                    ((remI s3 3).bind fun x8 =>
                      (cond ((x8 : Int) == 0)
                        ((ldV (.flat (.slice 3)) h7 (.ob s11 3)).bind fun x9 =>
                        ((ixV 1 x9 s13).bind fun p10 =>
                        ((stV h7 p10 [.int .i64 (IntKind.wrap .i64 (s10 - 1))]).bind fun h11 =>
                        (L4_3 n m0 m s0 s1 s2 s3 s9 s10 s11 (IntKind.wrap .i64 (s13 + 1)) h11))))
                        (L4_3 n m0 m s0 s1 s2 s3 s9 s10 s11 (IntKind.wrap .i64 (s13 + 1)) h7)))))))))
        ((ldV (.flat (.slice 34)) h (.ob s9 5)).bind fun x12 =>
          ((ldV (.agg [.str, .slice 5, .slice 9, .slice 3]) h (.ob s11 0)).bind fun x13 =>
            ((appD false (h ++ [.row 34 [.str x13.1, .sl 5 x13.2.1, .sl 9 x13.2.2.1, .sl 3 x13.2.2.2.1]]) 4 88 34 x12 (.hp h.length 0 1)).bind fun r14 =>
              ((stV r14.2 (.ob s9 5) [.sl 34 r14.1]).bind fun h15 =>
                (L4_0 n m0 s0 s1 s2 s3 s9 (IntKind.wrap .i64 (s10 + 1)) h15))))))
      ((ldV (.flat (.slice 34)) h (.ob s9 5)).bind fun x16 =>
        ((ldV (.agg [.str, .slice 5, .slice 9, .slice 3]) h (.ob s11 0)).bind fun x17 =>
          ((appD false (h ++ [.row 34 [.str x17.1, .sl 5 x17.2.1, .sl 9 x17.2.2.1, .sl 3 x17.2.2.2.1]]) 4 88 34 x16 (.hp h.length 0 1)).bind fun r18 =>
            ((stV r18.2 (.ob s9 5) [.sl 34 r18.1]).bind fun h19 =>
              (L4_0 n m0 s0 s1 s2 s3 s9 (IntKind.wrap .i64 (s10 + 1)) h19))))))) := by kernel_rfl
theorem f4_eq (n : Nat) (a0 : Int) (a1 : Int) (a2 : Int) (a3 : Int) (h : VH) : bodyV P tab (vF P tab n) n 4 [.int .u8 a0, .int .u8 a1, .int .u8 a2, .int .u8 a3] h =
  ((callD (vF P tab n) P false (.one (.flat .bool)) 10 [] h).bind fun r1 =>
    (cond (!r1.1)
      (some (.bool false, r1.2))
      ((stV (r1.2 ++ [.row (31 + boxK) [.int .u8 0, .str ⟨#[]⟩, .str ⟨#[]⟩, .sl 5 .nil, .sl 9 .nil, .sl 34 .nil]]) (.ob r1.2.length 0) [.int .u8 7, .str ⟨#[]⟩, .str ⟨#[]⟩, .sl 5 .nil, .sl 9 .nil, .sl 34 .nil]).bind fun h2 =>
        (L4_0 n n a0 a1 a2 a3 r1.2.length 0 h2)))) := by kernel_rfl
/-! godown/godownlaw11.RequestKinds -/
theorem f5_eq (n : Nat) (a0 : Int) (h : VH) : bodyV P tab (vF P tab n) n 5 [.int .u8 a0] h =
  (cond (decide (((IntKind.wrap .i64 a0) : Int) < ((VS.len (.fz [[.str ⟨#[]⟩], [.str ⟨#[97, 100, 100]⟩], [.str ⟨#[118, 97, 108, 105, 100]⟩], [.str ⟨#[105, 110, 102, 111]⟩], [.str ⟨#[114, 101, 102, 115]⟩], [.str ⟨#[114, 101, 102, 101, 114, 114, 101, 114, 115]⟩], [.str ⟨#[99, 108, 111, 115, 117, 114, 101]⟩], [.str ⟨#[114, 101, 103, 105, 115, 116, 101, 114]⟩], [.str ⟨#[114, 111, 111, 116]⟩], [.str ⟨#[117, 110, 114, 111, 111, 116]⟩], [.str ⟨#[100, 101, 108, 101, 116, 101]⟩], [.str ⟨#[99, 111, 108, 108, 101, 99, 116]⟩], [.str ⟨#[118, 101, 114, 105, 102, 121]⟩]] (.ex 13)) : Nat) : Int)))
    ((ixV 1 (.fz [[.str ⟨#[]⟩], [.str ⟨#[97, 100, 100]⟩], [.str ⟨#[118, 97, 108, 105, 100]⟩], [.str ⟨#[105, 110, 102, 111]⟩], [.str ⟨#[114, 101, 102, 115]⟩], [.str ⟨#[114, 101, 102, 101, 114, 114, 101, 114, 115]⟩], [.str ⟨#[99, 108, 111, 115, 117, 114, 101]⟩], [.str ⟨#[114, 101, 103, 105, 115, 116, 101, 114]⟩], [.str ⟨#[114, 111, 111, 116]⟩], [.str ⟨#[117, 110, 114, 111, 111, 116]⟩], [.str ⟨#[100, 101, 108, 101, 116, 101]⟩], [.str ⟨#[99, 111, 108, 108, 101, 99, 116]⟩], [.str ⟨#[118, 101, 114, 105, 102, 121]⟩]] (.ex 13)) a0).bind fun p1 =>
      ((ldV (.flat .str) h p1).bind fun x2 =>
        ((callD (vF P tab n) P false (.one (.flat .bool)) 10 [] h).bind fun r3 =>
          (cond r3.1
            ((callD (vF P tab n) P false (.one (.flat .str)) 16 [.int .u8 a0] r3.2).bind fun r4 =>
              (cond (strEq r4.1 x2)
                ((remI a0 13).bind fun x5 =>
                  ((remI a0 13).bind fun x6 =>
                    ((ixV 1 (.fz [[.str ⟨#[]⟩], [.str ⟨#[97, 100, 100]⟩], [.str ⟨#[118, 97, 108, 105, 100]⟩], [.str ⟨#[105, 110, 102, 111]⟩], [.str ⟨#[114, 101, 102, 115]⟩], [.str ⟨#[114, 101, 102, 101, 114, 114, 101, 114, 115]⟩], [.str ⟨#[99, 108, 111, 115, 117, 114, 101]⟩], [.str ⟨#[114, 101, 103, 105, 115, 116, 101, 114]⟩], [.str ⟨#[114, 111, 111, 116]⟩], [.str ⟨#[117, 110, 114, 111, 111, 116]⟩], [.str ⟨#[100, 101, 108, 101, 116, 101]⟩], [.str ⟨#[99, 111, 108, 108, 101, 99, 116]⟩], [.str ⟨#[118, 101, 114, 105, 102, 121]⟩]] (.ex 13)) x6).bind fun p7 =>
                      ((ldV (.flat .str) r4.2 p7).bind fun x8 =>
                        ((callD (vF P tab n) P false (.one (.flat .str)) 16 [.int .u8 x5] r4.2).bind fun r9 =>
                        (cond (V.stays r9.2 (hj (heldOf p7 [.str] [.str x8]) []))
                        (some (.bool (strEq r9.1 x8), r9.2))
                        none))))))
                (some (.bool false, r4.2))))
            (some (.bool false, r3.2))))))
    ((callD (vF P tab n) P false (.one (.flat .bool)) 10 [] h).bind fun r10 =>
      (cond r10.1
        ((callD (vF P tab n) P false (.one (.flat .str)) 16 [.int .u8 a0] r10.2).bind fun r11 =>
          (cond (strEq r11.1 ⟨#[]⟩)
            ((remI a0 13).bind fun x12 =>
              ((remI a0 13).bind fun x13 =>
                ((ixV 1 (.fz [[.str ⟨#[]⟩], [.str ⟨#[97, 100, 100]⟩], [.str ⟨#[118, 97, 108, 105, 100]⟩], [.str ⟨#[105, 110, 102, 111]⟩], [.str ⟨#[114, 101, 102, 115]⟩], [.str ⟨#[114, 101, 102, 101, 114, 114, 101, 114, 115]⟩], [.str ⟨#[99, 108, 111, 115, 117, 114, 101]⟩], [.str ⟨#[114, 101, 103, 105, 115, 116, 101, 114]⟩], [.str ⟨#[114, 111, 111, 116]⟩], [.str ⟨#[117, 110, 114, 111, 111, 116]⟩], [.str ⟨#[100, 101, 108, 101, 116, 101]⟩], [.str ⟨#[99, 111, 108, 108, 101, 99, 116]⟩], [.str ⟨#[118, 101, 114, 105, 102, 121]⟩]] (.ex 13)) x13).bind fun p14 =>
                  ((ldV (.flat .str) r11.2 p14).bind fun x15 =>
                    ((callD (vF P tab n) P false (.one (.flat .str)) 16 [.int .u8 x12] r11.2).bind fun r16 =>
                      (cond (V.stays r16.2 (hj (heldOf p14 [.str] [.str x15]) []))
                        (some (.bool (strEq r16.1 x15), r16.2))
                        none))))))
            (some (.bool false, r11.2))))
        (some (.bool false, r10.2))))) := by kernel_rfl
/-! godown/godownlaw11.RequestFields -/
theorem f6_eq (n : Nat) (a0 : Int) (a1 : ByteArray) (a2 : ByteArray) (a3 : VS) (h : VH) : bodyV P tab (vF P tab n) n 6 [.int .u8 a0, .str a1, .str a2, .sl 5 a3] h =
  ((callD (vF P tab n) P false (.one (.flat .bool)) 10 [] h).bind fun r1 =>
    (cond (!r1.1)
      ((callD (vF P tab n) P false (.one (.flat .bool)) 10 [] r1.2).bind fun r2 =>
        (some (.bool r2.1, r2.2)))
      (cond (decide ((((a1).size : Int) : Int) > 60))
        ((callD (vF P tab n) P false (.one (.flat .bool)) 10 [] r1.2).bind fun r3 =>
          (some (.bool r3.1, r3.2)))
        (cond (decide ((((a2).size : Int) : Int) > 60))
          ((callD (vF P tab n) P false (.one (.flat .bool)) 10 [] r1.2).bind fun r4 =>
            (some (.bool r4.1, r4.2)))
          (cond (decide ((((VS.len a3 : Nat) : Int) : Int) > 100))
            ((callD (vF P tab n) P false (.one (.flat .bool)) 10 [] r1.2).bind fun r5 =>
              (some (.bool r5.1, r5.2)))
            ((remI a0 12).bind fun x6 =>
              (if List.all [.str a2, .sl 5 a3, .sl 9 .nil, .sl 3 .nil] closed1 = true then
                ((stV (r1.2 ++ [.row (31 + boxK) [.int .u8 0, .str ⟨#[]⟩, .str ⟨#[]⟩, .sl 5 .nil, .sl 9 .nil, .sl 34 .nil]]) (.ob r1.2.length 0) [.int .u8 (IntKind.wrap .u8 (1 + x6)), .str a2, .str a1, .sl 5 a3, .sl 9 (.fz [[.str a1]] (.ex 1)), .sl 34 (.fz [[.str a2, .sl 5 (VS.strip a3), .sl 9 .nil, .sl 3 .nil]] (.ex 1))]).bind fun h7 =>
                  ((ldV (.agg [.int .u8, .str, .str, .slice 5, .slice 9, .slice 34]) h7 (.ob r1.2.length 0)).bind fun x8 =>
                    ((callD (vF P tab n) P false (.one (.flat (.slice 5))) 17 [.agg [.int .u8 x8.1, .str x8.2.1, .str x8.2.2.1, .sl 5 x8.2.2.2.1, .sl 9 x8.2.2.2.2.1, .sl 34 x8.2.2.2.2.2.1]] h7).bind fun r9 =>
                      ((callD (vF P tab n) P false (.tup [(.agg [.int .u8, .str, .str, .slice 5, .slice 9, .slice 34]), (.flat (.int .i64))]) 14 [.sl 5 r9.1] r9.2).bind fun r10 =>
                        ((stV (r10.2 ++ [.row (31 + boxK) [.int .u8 0, .str ⟨#[]⟩, .str ⟨#[]⟩, .sl 5 .nil, .sl 9 .nil, .sl 34 .nil]]) (.ob r10.2.length 0) [.int .u8 r10.1.1.1, .str r10.1.1.2.1, .str r10.1.1.2.2.1, .sl 5 r10.1.1.2.2.2.1, .sl 9 r10.1.1.2.2.2.2.1, .sl 34 r10.1.1.2.2.2.2.2.1]).bind fun h11 =>
                        (cond ((r10.1.2.1 : Int) != 0)
                        (some (.bool false, h11))
                        ((ldV (.agg [.int .u8, .str, .str, .slice 5, .slice 9, .slice 34]) h11 (.ob r1.2.length 0)).bind fun x12 =>
                        ((callD (vF P tab n) P false (.one (.flat (.slice 5))) 15 [.agg [.int .u8 x12.1, .str x12.2.1, .str x12.2.2.1, .sl 5 x12.2.2.2.1, .sl 9 x12.2.2.2.2.1, .sl 34 x12.2.2.2.2.2.1]] h11).bind fun r13 =>
                        ((callD (vF P tab n) P false (.one (.flat .bool)) 18 [.sl 5 r9.1, .sl 5 r13.1] r13.2).bind fun r14 =>
                        (cond (!r14.1)
                        (some (.bool false, r14.2))
                        ((ldV (.flat (.int .u8)) r14.2 (.ob r10.2.length 0)).bind fun x15 =>
                        ((ldV (.flat (.int .u8)) r14.2 (.ob r1.2.length 0)).bind fun x16 =>
                        (cond ((x15 : Int) != x16)
                        (some (.bool false, r14.2))
                        ((ldV (.flat (.int .u8)) r14.2 (.ob r10.2.length 0)).bind fun x17 =>
                        ((ldV (.flat (.int .u8)) r14.2 (.ob r10.2.length 0)).bind fun x18 =>
                        ((ldV (.flat (.int .u8)) r14.2 (.ob r10.2.length 0)).bind fun x19 =>
                        (cond ((x19 : Int) == 11)
                        ((ldV (.flat .str) r14.2 (.ob r10.2.length 1)).bind fun x20 =>
                        (cond ((x17 : Int) == 1)
                        (cond ((strEq x20 a2) == true)
                        ((ldV (.flat (.slice 34)) r14.2 (.ob r10.2.length 5)).bind fun x21 =>
                        (cond (((((VS.len x21 : Nat) : Int) : Int) == 1) == ((x18 : Int) == 7))
                        ((ldV (.flat .str) r14.2 (.ob r10.2.length 2)).bind fun x22 =>
                        (cond (!((x17 : Int) == 1))
                        (cond (!((x18 : Int) == 7))
                        (cond ((strEq x22 a1) == (strEq a1 ⟨#[]⟩))
                        ((ldV (.flat (.slice 9)) r14.2 (.ob r10.2.length 4)).bind fun x23 =>
                        (cond (((((VS.len x23 : Nat) : Int) : Int) == 1) == ((x17 : Int) == 1))
                        (cond ((x17 : Int) == 1)
                        (some (.bool true, r14.2))
                        ((ldV (.flat (.slice 5)) r14.2 (.ob r10.2.length 3)).bind fun x24 =>
                        (some (.bool ((((VS.len x24 : Nat) : Int) : Int) == 0), r14.2))))
                        (some (.bool false, r14.2))))
                        (some (.bool false, r14.2)))
                        (cond ((strEq x22 a1) == (strEq a1 ⟨#[]⟩))
                        ((ldV (.flat (.slice 9)) r14.2 (.ob r10.2.length 4)).bind fun x25 =>
                        (cond (((((VS.len x25 : Nat) : Int) : Int) == 1) == ((x17 : Int) == 1))
                        (cond ((x17 : Int) == 1)
                        (some (.bool true, r14.2))
                        ((ldV (.flat (.slice 5)) r14.2 (.ob r10.2.length 3)).bind fun x26 =>
                        (some (.bool ((((VS.len x26 : Nat) : Int) : Int) == 0), r14.2))))
                        (some (.bool false, r14.2))))
                        (some (.bool false, r14.2))))
                        (cond ((strEq x22 a1) == (strEq a1 ⟨#[]⟩))
                        ((ldV (.flat (.slice 9)) r14.2 (.ob r10.2.length 4)).bind fun x27 =>
                        (cond (((((VS.len x27 : Nat) : Int) : Int) == 1) == ((x17 : Int) == 1))
                        (cond ((x17 : Int) == 1)
                        (some (.bool true, r14.2))
                        ((ldV (.flat (.slice 5)) r14.2 (.ob r10.2.length 3)).bind fun x28 =>
                        (some (.bool ((((VS.len x28 : Nat) : Int) : Int) == 0), r14.2))))
                        (some (.bool false, r14.2))))
                        (some (.bool false, r14.2)))))
                        (some (.bool false, r14.2))))
                        (some (.bool false, r14.2)))
                        (cond ((strEq x20 a2) == (strEq a2 ⟨#[]⟩))
                        ((ldV (.flat (.slice 34)) r14.2 (.ob r10.2.length 5)).bind fun x29 =>
                        (cond (((((VS.len x29 : Nat) : Int) : Int) == 1) == ((x18 : Int) == 7))
                        ((ldV (.flat .str) r14.2 (.ob r10.2.length 2)).bind fun x30 =>
                        (cond (!((x17 : Int) == 1))
                        (cond (!((x18 : Int) == 7))
                        (cond ((strEq x30 a1) == (strEq a1 ⟨#[]⟩))
                        ((ldV (.flat (.slice 9)) r14.2 (.ob r10.2.length 4)).bind fun x31 =>
                        (cond (((((VS.len x31 : Nat) : Int) : Int) == 1) == ((x17 : Int) == 1))
                        (cond ((x17 : Int) == 1)
                        (some (.bool true, r14.2))
                        ((ldV (.flat (.slice 5)) r14.2 (.ob r10.2.length 3)).bind fun x32 =>
                        (some (.bool ((((VS.len x32 : Nat) : Int) : Int) == 0), r14.2))))
                        (some (.bool false, r14.2))))
                        (some (.bool false, r14.2)))
                        (cond ((strEq x30 a1) == (strEq a1 ⟨#[]⟩))
                        ((ldV (.flat (.slice 9)) r14.2 (.ob r10.2.length 4)).bind fun x33 =>
                        (cond (((((VS.len x33 : Nat) : Int) : Int) == 1) == ((x17 : Int) == 1))
                        (cond ((x17 : Int) == 1)
                        (some (.bool true, r14.2))
                        ((ldV (.flat (.slice 5)) r14.2 (.ob r10.2.length 3)).bind fun x34 =>
                        (some (.bool ((((VS.len x34 : Nat) : Int) : Int) == 0), r14.2))))
                        (some (.bool false, r14.2))))
                        (some (.bool false, r14.2))))
                        (cond ((strEq x30 a1) == (strEq a1 ⟨#[]⟩))
                        ((ldV (.flat (.slice 9)) r14.2 (.ob r10.2.length 4)).bind fun x35 =>
                        (cond (((((VS.len x35 : Nat) : Int) : Int) == 1) == ((x17 : Int) == 1))
                        (cond ((x17 : Int) == 1)
                        (some (.bool true, r14.2))
                        ((ldV (.flat (.slice 5)) r14.2 (.ob r10.2.length 3)).bind fun x36 =>
                        (some (.bool ((((VS.len x36 : Nat) : Int) : Int) == 0), r14.2))))
                        (some (.bool false, r14.2))))
                        (some (.bool false, r14.2)))))
                        (some (.bool false, r14.2))))
                        (some (.bool false, r14.2)))))
                        ((ldV (.flat (.int .u8)) r14.2 (.ob r10.2.length 0)).bind fun x37 =>
                        ((ldV (.flat .str) r14.2 (.ob r10.2.length 1)).bind fun x38 =>
                        (cond ((x17 : Int) == 1)
                        (cond ((strEq x38 a2) == true)
                        ((ldV (.flat (.slice 34)) r14.2 (.ob r10.2.length 5)).bind fun x39 =>
                        (cond (((((VS.len x39 : Nat) : Int) : Int) == 1) == ((x18 : Int) == 7))
                        ((ldV (.flat .str) r14.2 (.ob r10.2.length 2)).bind fun x40 =>
                        (cond (!((x17 : Int) == 1))
                        (cond (!((x18 : Int) == 7))
                        (cond (!((x37 : Int) == 12))
                        (cond ((strEq x40 a1) == true)
                        ((ldV (.flat (.slice 9)) r14.2 (.ob r10.2.length 4)).bind fun x41 =>
                        (cond (((((VS.len x41 : Nat) : Int) : Int) == 1) == ((x17 : Int) == 1))
                        (cond ((x17 : Int) == 1)
                        (some (.bool true, r14.2))
                        ((ldV (.flat (.slice 5)) r14.2 (.ob r10.2.length 3)).bind fun x42 =>
                        (some (.bool ((((VS.len x42 : Nat) : Int) : Int) == 0), r14.2))))
                        (some (.bool false, r14.2))))
                        (some (.bool false, r14.2)))
                        (cond ((strEq x40 a1) == (strEq a1 ⟨#[]⟩))
                        ((ldV (.flat (.slice 9)) r14.2 (.ob r10.2.length 4)).bind fun x43 =>
                        (cond (((((VS.len x43 : Nat) : Int) : Int) == 1) == ((x17 : Int) == 1))
                        (cond ((x17 : Int) == 1)
                        (some (.bool true, r14.2))
                        ((ldV (.flat (.slice 5)) r14.2 (.ob r10.2.length 3)).bind fun x44 =>
                        (some (.bool ((((VS.len x44 : Nat) : Int) : Int) == 0), r14.2))))
                        (some (.bool false, r14.2))))
                        (some (.bool false, r14.2))))
                        (cond ((strEq x40 a1) == (strEq a1 ⟨#[]⟩))
                        ((ldV (.flat (.slice 9)) r14.2 (.ob r10.2.length 4)).bind fun x45 =>
                        (cond (((((VS.len x45 : Nat) : Int) : Int) == 1) == ((x17 : Int) == 1))
                        (cond ((x17 : Int) == 1)
                        (some (.bool true, r14.2))
                        ((ldV (.flat (.slice 5)) r14.2 (.ob r10.2.length 3)).bind fun x46 =>
                        (some (.bool ((((VS.len x46 : Nat) : Int) : Int) == 0), r14.2))))
                        (some (.bool false, r14.2))))
                        (some (.bool false, r14.2))))
                        (cond ((strEq x40 a1) == (strEq a1 ⟨#[]⟩))
                        ((ldV (.flat (.slice 9)) r14.2 (.ob r10.2.length 4)).bind fun x47 =>
                        (cond (((((VS.len x47 : Nat) : Int) : Int) == 1) == ((x17 : Int) == 1))
                        (cond ((x17 : Int) == 1)
                        (some (.bool true, r14.2))
                        ((ldV (.flat (.slice 5)) r14.2 (.ob r10.2.length 3)).bind fun x48 =>
                        (some (.bool ((((VS.len x48 : Nat) : Int) : Int) == 0), r14.2))))
                        (some (.bool false, r14.2))))
                        (some (.bool false, r14.2)))))
                        (some (.bool false, r14.2))))
                        (some (.bool false, r14.2)))
                        (cond ((strEq x38 a2) == (strEq a2 ⟨#[]⟩))
                        ((ldV (.flat (.slice 34)) r14.2 (.ob r10.2.length 5)).bind fun x49 =>
                        (cond (((((VS.len x49 : Nat) : Int) : Int) == 1) == ((x18 : Int) == 7))
                        ((ldV (.flat .str) r14.2 (.ob r10.2.length 2)).bind fun x50 =>
                        (cond (!((x17 : Int) == 1))
                        (cond (!((x18 : Int) == 7))
                        (cond (!((x37 : Int) == 12))
                        (cond ((strEq x50 a1) == true)
                        ((ldV (.flat (.slice 9)) r14.2 (.ob r10.2.length 4)).bind fun x51 =>
                        (cond (((((VS.len x51 : Nat) : Int) : Int) == 1) == ((x17 : Int) == 1))
                        (cond ((x17 : Int) == 1)
                        (some (.bool true, r14.2))
                        ((ldV (.flat (.slice 5)) r14.2 (.ob r10.2.length 3)).bind fun x52 =>
                        (some (.bool ((((VS.len x52 : Nat) : Int) : Int) == 0), r14.2))))
                        (some (.bool false, r14.2))))
                        (some (.bool false, r14.2)))
                        (cond ((strEq x50 a1) == (strEq a1 ⟨#[]⟩))
                        ((ldV (.flat (.slice 9)) r14.2 (.ob r10.2.length 4)).bind fun x53 =>
                        (cond (((((VS.len x53 : Nat) : Int) : Int) == 1) == ((x17 : Int) == 1))
                        (cond ((x17 : Int) == 1)
                        (some (.bool true, r14.2))
                        ((ldV (.flat (.slice 5)) r14.2 (.ob r10.2.length 3)).bind fun x54 =>
                        (some (.bool ((((VS.len x54 : Nat) : Int) : Int) == 0), r14.2))))
                        (some (.bool false, r14.2))))
                        (some (.bool false, r14.2))))
                        (cond ((strEq x50 a1) == (strEq a1 ⟨#[]⟩))
                        ((ldV (.flat (.slice 9)) r14.2 (.ob r10.2.length 4)).bind fun x55 =>
                        (cond (((((VS.len x55 : Nat) : Int) : Int) == 1) == ((x17 : Int) == 1))
                        (cond ((x17 : Int) == 1)
                        (some (.bool true, r14.2))
                        ((ldV (.flat (.slice 5)) r14.2 (.ob r10.2.length 3)).bind fun x56 =>
                        (some (.bool ((((VS.len x56 : Nat) : Int) : Int) == 0), r14.2))))
                        (some (.bool false, r14.2))))
                        (some (.bool false, r14.2))))
                        (cond ((strEq x50 a1) == (strEq a1 ⟨#[]⟩))
                        ((ldV (.flat (.slice 9)) r14.2 (.ob r10.2.length 4)).bind fun x57 =>
                        (cond (((((VS.len x57 : Nat) : Int) : Int) == 1) == ((x17 : Int) == 1))
                        (cond ((x17 : Int) == 1)
                        (some (.bool true, r14.2))
                        ((ldV (.flat (.slice 5)) r14.2 (.ob r10.2.length 3)).bind fun x58 =>
                        (some (.bool ((((VS.len x58 : Nat) : Int) : Int) == 0), r14.2))))
                        (some (.bool false, r14.2))))
                        (some (.bool false, r14.2)))))
                        (some (.bool false, r14.2))))
                        (some (.bool false, r14.2)))))))))))))))))))))))
                else none))))))) := by kernel_rfl
/-! godown/godownlaw11.RequestReplies -/
noncomputable def L9_0 (n m : Nat) (s0 : Int) (s1 : Bool) (s2 : Int) (s3 : Int) (s4 : VS) (s5 : VS) (s6 : VS) (s15 : Int) (h : VH) : VRes := loopAt P tab 9 [1, 1, 0, 1, 0] n [] m [.int .u8 s0, .bool s1, .int .u16 s2, .int .u64 s3, .sl 5 s4, .sl 9 s5, .sl 5 s6, .undef, .undef, .undef, .undef, .undef, .undef, .undef, .undef, .int .i64 s15, .undef, .undef, .undef, .undef, .undef, .undef, .undef, .undef, .undef, .undef, .undef, .undef, .undef, .undef, .undef, .undef, .undef, .undef, .undef, .undef, .undef, .undef, .undef, .undef, .undef, .undef, .undef, .undef, .undef, .undef, .undef, .undef, .undef, .undef, .undef, .undef, .undef, .undef, .undef, .undef, .undef, .undef, .undef, .undef, .undef, .undef, .undef, .undef, .undef, .undef, .undef, .undef, .undef, .undef, .undef, .undef, .undef, .undef, .undef, .undef, .undef, .undef, .undef, .undef, .undef, .undef, .undef, .undef, .undef, .undef, .undef, .undef, .undef, .undef, .undef, .undef, .undef, .undef, .undef, .undef, .undef, .undef, .undef, .undef, .undef, .undef, .undef, .undef, .undef, .undef, .undef, .undef, .undef, .undef, .undef, .undef, .undef, .undef, .undef, .undef, .undef, .undef, .undef] h
theorem L9_0_eq (n m : Nat) (s0 : Int) (s1 : Bool) (s2 : Int) (s3 : Int) (s4 : VS) (s5 : VS) (s6 : VS) (s15 : Int) (h : VH) : L9_0 n (m + 1) s0 s1 s2 s3 s4 s5 s6 s15 h =
  (cond (decide ((s15 : Int) < ((VS.len s5 : Nat) : Int)))
    ((ixV 1 s5 s15).bind fun p1 =>
      ((ldV (.flat .str) h p1).bind fun x2 =>
        (cond (decide ((((x2).size : Int) : Int) > 60))
          (some (.bool true, h))
          (L9_0 n m s0 s1 s2 s3 s4 s5 s6 (IntKind.wrap .i64 (s15 + 1)) h))))
    ((pvD P (.flt .f64) (ext24 #[.int .u64 s3])).bind fun x3 =>
      ((stV (h ++ [.row (66 + boxK) [.int .i64 0, .bool false, .int .i64 0, .flt .f64 0, .sl 5 .nil, .sl 9 .nil]]) (.ob h.length 0) [.int .i64 (IntKind.wrap .i64 s0), .bool s1, .int .i64 (IntKind.wrap .i64 s2), .flt .f64 x3, .sl 5 s4, .sl 9 s5]).bind fun h4 =>
        ((ldV (.agg [.int .i64, .bool, .int .i64, .flt .f64, .slice 5, .slice 9]) h4 (.ob h.length 0)).bind fun x5 =>
          ((callD (vF P tab n) P false (.one (.flat (.slice 5))) 25 [.agg [.int .i64 x5.1, .bool x5.2.1, .int .i64 x5.2.2.1, .flt .f64 x5.2.2.2.1, .sl 5 x5.2.2.2.2.1, .sl 9 x5.2.2.2.2.2.1]] h4).bind fun r6 =>
            ((callD (vF P tab n) P false (.tup [(.agg [.int .i64, .bool, .int .i64, .flt .f64, .slice 5, .slice 9]), (.flat (.int .i64))]) 26 [.sl 5 r6.1] r6.2).bind fun r7 =>
              ((stV (r7.2 ++ [.row (66 + boxK) [.int .i64 0, .bool false, .int .i64 0, .flt .f64 0, .sl 5 .nil, .sl 9 .nil]]) (.ob r7.2.length 0) [.int .i64 r7.1.1.1, .bool r7.1.1.2.1, .int .i64 r7.1.1.2.2.1, .flt .f64 r7.1.1.2.2.2.1, .sl 5 r7.1.1.2.2.2.2.1, .sl 9 r7.1.1.2.2.2.2.2.1]).bind fun h8 =>
                ((ldV (.agg [.int .i64, .bool, .int .i64, .flt .f64, .slice 5, .slice 9]) h8 (.ob h.length 0)).bind fun x9 =>
                  ((callD (vF P tab n) P true (.one (.flat (.slice 5))) 27 [.agg [.int .i64 x9.1, .bool x9.2.1, .int .i64 x9.2.2.1, .flt .f64 x9.2.2.2.1, .sl 5 x9.2.2.2.2.1, .sl 9 x9.2.2.2.2.2.1]] h8).bind fun r10 =>
                    ((callD (vF P tab n) P false (.one (.flat .bool)) 18 [.sl 5 r6.1, .sl 5 r10.1] r10.2).bind fun r11 =>
                      (cond (!r11.1)
                        (some (.bool false, r11.2))
                        (cond ((r7.1.2.1 : Int) != 0)
                        (some (.bool false, r11.2))
                        ((ldV (.agg [.int .i64, .bool, .int .i64, .flt .f64, .slice 5, .slice 9]) r11.2 (.ob r7.2.length 0)).bind fun x12 =>
                        ((ldV (.agg [.int .i64, .bool, .int .i64, .flt .f64, .slice 5, .slice 9]) r11.2 (.ob h.length 0)).bind fun x13 =>
                        ((callD (vF P tab n) P false (.one (.flat .bool)) 28 [.agg [.int .i64 x12.1, .bool x12.2.1, .int .i64 x12.2.2.1, .flt .f64 x12.2.2.2.1, .sl 5 x12.2.2.2.2.1, .sl 9 x12.2.2.2.2.2.1], .agg [.int .i64 x13.1, .bool x13.2.1, .int .i64 x13.2.2.1, .flt .f64 x13.2.2.2.1, .sl 5 x13.2.2.2.2.1, .sl 9 x13.2.2.2.2.2.1]] r11.2).bind fun r14 =>
                        (cond (!r14.1)
                        (some (.bool false, r14.2))
                        ((ldV (.agg [.int .i64, .bool, .int .i64, .flt .f64, .slice 5, .slice 9]) r14.2 (.ob r7.2.length 0)).bind fun x15 =>
                        ((ldV (.agg [.int .i64, .bool, .int .i64, .flt .f64, .slice 5, .slice 9]) r14.2 (.ob h.length 0)).bind fun x16 =>
                        ((callD (vF P tab n) P false (.one (.flat .bool)) 29 [.agg [.int .i64 x15.1, .bool x15.2.1, .int .i64 x15.2.2.1, .flt .f64 x15.2.2.2.1, .sl 5 x15.2.2.2.2.1, .sl 9 x15.2.2.2.2.2.1], .agg [.int .i64 x16.1, .bool x16.2.1, .int .i64 x16.2.2.1, .flt .f64 x16.2.2.2.1, .sl 5 x16.2.2.2.2.1, .sl 9 x16.2.2.2.2.2.1]] r14.2).bind fun r17 =>
                        (cond (!r17.1)
                        (some (.bool false, r17.2))
                        ((callD (vF P tab n) P false (.tup [(.agg [.int .i64, .bool, .int .i64, .flt .f64, .slice 5, .slice 9]), (.flat (.int .i64))]) 26 [.sl 5 s6] r17.2).bind fun r18 =>
                        ((stV (r18.2 ++ [.row (66 + boxK) [.int .i64 0, .bool false, .int .i64 0, .flt .f64 0, .sl 5 .nil, .sl 9 .nil]]) (.ob r18.2.length 0) [.int .i64 r18.1.1.1, .bool r18.1.1.2.1, .int .i64 r18.1.1.2.2.1, .flt .f64 r18.1.1.2.2.2.1, .sl 5 r18.1.1.2.2.2.2.1, .sl 9 r18.1.1.2.2.2.2.2.1]).bind fun h19 =>
                        ((callD (vF P tab n) P false (.tup [(.agg [.int .i64, .bool, .int .i64, .flt .f64, .slice 5, .slice 9]), (.flat (.int .i64))]) 30 [.sl 5 s6] h19).bind fun r20 =>
                        ((stV (r20.2 ++ [.row (66 + boxK) [.int .i64 0, .bool false, .int .i64 0, .flt .f64 0, .sl 5 .nil, .sl 9 .nil]]) (.ob r20.2.length 0) [.int .i64 r20.1.1.1, .bool r20.1.1.2.1, .int .i64 r20.1.1.2.2.1, .flt .f64 r20.1.1.2.2.2.1, .sl 5 r20.1.1.2.2.2.2.1, .sl 9 r20.1.1.2.2.2.2.2.1]).bind fun h21 =>
                        (cond ((r18.1.2.1 : Int) == r20.1.2.1)
                        ((ldV (.agg [.int .i64, .bool, .int .i64, .flt .f64, .slice 5, .slice 9]) h21 (.ob r18.2.length 0)).bind fun x22 =>
                        ((ldV (.agg [.int .i64, .bool, .int .i64, .flt .f64, .slice 5, .slice 9]) h21 (.ob r20.2.length 0)).bind fun x23 =>
                        (cond (V.stays h21 [(.ob r18.2.length 0, .int .i64, .int .i64 x22.1), (.ob r18.2.length 1, .bool, .bool x22.2.1), (.ob r18.2.length 2, .int .i64, .int .i64 x22.2.2.1), (.ob r18.2.length 3, .flt .f64, .flt .f64 x22.2.2.2.1), (.ob r18.2.length 4, .slice 5, .sl 5 x22.2.2.2.2.1), (.ob r18.2.length 5, .slice 9, .sl 9 x22.2.2.2.2.2.1)])
                        ((callD (vF P tab n) P false (.one (.flat .bool)) 29 [.agg [.int .i64 x22.1, .bool x22.2.1, .int .i64 x22.2.2.1, .flt .f64 x22.2.2.2.1, .sl 5 x22.2.2.2.2.1, .sl 9 x22.2.2.2.2.2.1], .agg [.int .i64 x23.1, .bool x23.2.1, .int .i64 x23.2.2.1, .flt .f64 x23.2.2.2.1, .sl 5 x23.2.2.2.2.1, .sl 9 x23.2.2.2.2.2.1]] h21).bind fun r24 =>
                        (cond r24.1
                        ((ldV (.agg [.int .i64, .bool, .int .i64, .flt .f64, .slice 5, .slice 9]) r24.2 (.ob r18.2.length 0)).bind fun x25 =>
                        ((ldV (.agg [.int .i64, .bool, .int .i64, .flt .f64, .slice 5, .slice 9]) r24.2 (.ob h.length 0)).bind fun x26 =>
                        ((ldV (.agg [.int .i64, .bool, .int .i64, .flt .f64, .slice 5, .slice 9]) r24.2 (.ob r20.2.length 0)).bind fun x27 =>
                        ((ldV (.agg [.int .i64, .bool, .int .i64, .flt .f64, .slice 5, .slice 9]) r24.2 (.ob h.length 0)).bind fun x28 =>
                        ((callD (vF P tab n) P false (.one (.flat .bool)) 28 [.agg [.int .i64 x25.1, .bool x25.2.1, .int .i64 x25.2.2.1, .flt .f64 x25.2.2.2.1, .sl 5 x25.2.2.2.2.1, .sl 9 x25.2.2.2.2.2.1], .agg [.int .i64 x26.1, .bool x26.2.1, .int .i64 x26.2.2.1, .flt .f64 x26.2.2.2.1, .sl 5 x26.2.2.2.2.1, .sl 9 x26.2.2.2.2.2.1]] r24.2).bind fun r29 =>
                        (cond (V.stays r29.2 [(.ob h.length 0, .int .i64, .int .i64 x28.1), (.ob h.length 1, .bool, .bool x28.2.1), (.ob h.length 2, .int .i64, .int .i64 x28.2.2.1), (.ob h.length 3, .flt .f64, .flt .f64 x28.2.2.2.1), (.ob h.length 4, .slice 5, .sl 5 x28.2.2.2.2.1), (.ob h.length 5, .slice 9, .sl 9 x28.2.2.2.2.2.1), (.ob r20.2.length 0, .int .i64, .int .i64 x27.1), (.ob r20.2.length 1, .bool, .bool x27.2.1), (.ob r20.2.length 2, .int .i64, .int .i64 x27.2.2.1), (.ob r20.2.length 3, .flt .f64, .flt .f64 x27.2.2.2.1), (.ob r20.2.length 4, .slice 5, .sl 5 x27.2.2.2.2.1), (.ob r20.2.length 5, .slice 9, .sl 9 x27.2.2.2.2.2.1), (.ob r18.2.length 0, .int .i64, .int .i64 x22.1), (.ob r18.2.length 1, .bool, .bool x22.2.1), (.ob r18.2.length 2, .int .i64, .int .i64 x22.2.2.1), (.ob r18.2.length 3, .flt .f64, .flt .f64 x22.2.2.2.1), (.ob r18.2.length 4, .slice 5, .sl 5 x22.2.2.2.2.1), (.ob r18.2.length 5, .slice 9, .sl 9 x22.2.2.2.2.2.1)])
                        ((callD (vF P tab n) P false (.one (.flat .bool)) 29 [.agg [.int .i64 x27.1, .bool x27.2.1, .int .i64 x27.2.2.1, .flt .f64 x27.2.2.2.1, .sl 5 x27.2.2.2.2.1, .sl 9 x27.2.2.2.2.2.1], .agg [.int .i64 x28.1, .bool x28.2.1, .int .i64 x28.2.2.1, .flt .f64 x28.2.2.2.1, .sl 5 x28.2.2.2.2.1, .sl 9 x28.2.2.2.2.2.1]] r29.2).bind fun r30 =>
                        (cond (V.stays r30.2 [(.ob h.length 0, .int .i64, .int .i64 x26.1), (.ob h.length 1, .bool, .bool x26.2.1), (.ob h.length 2, .int .i64, .int .i64 x26.2.2.1), (.ob h.length 3, .flt .f64, .flt .f64 x26.2.2.2.1), (.ob h.length 4, .slice 5, .sl 5 x26.2.2.2.2.1), (.ob h.length 5, .slice 9, .sl 9 x26.2.2.2.2.2.1), (.ob r18.2.length 0, .int .i64, .int .i64 x25.1), (.ob r18.2.length 1, .bool, .bool x25.2.1), (.ob r18.2.length 2, .int .i64, .int .i64 x25.2.2.1), (.ob r18.2.length 3, .flt .f64, .flt .f64 x25.2.2.2.1), (.ob r18.2.length 4, .slice 5, .sl 5 x25.2.2.2.2.1), (.ob r18.2.length 5, .slice 9, .sl 9 x25.2.2.2.2.2.1), (.ob r18.2.length 0, .int .i64, .int .i64 x22.1), (.ob r18.2.length 1, .bool, .bool x22.2.1), (.ob r18.2.length 2, .int .i64, .int .i64 x22.2.2.1), (.ob r18.2.length 3, .flt .f64, .flt .f64 x22.2.2.2.1), (.ob r18.2.length 4, .slice 5, .sl 5 x22.2.2.2.2.1), (.ob r18.2.length 5, .slice 9, .sl 9 x22.2.2.2.2.2.1)])
                        (some (.bool (r29.1 == r30.1), r30.2))
                        none))
                        none))))))
                        (some (.bool false, r24.2))))
                        none)))
                        (some (.bool false, h21))))))))))))))))))))))))))) := by kernel_rfl
theorem f9_eq (n : Nat) (a0 : Int) (a1 : Bool) (a2 : Int) (a3 : Int) (a4 : VS) (a5 : VS) (a6 : VS) (h : VH) : bodyV P tab (vF P tab n) n 9 [.int .u8 a0, .bool a1, .int .u16 a2, .int .u64 a3, .sl 5 a4, .sl 9 a5, .sl 5 a6] h =
  ((callD (vF P tab n) P false (.one (.flat .bool)) 10 [] h).bind fun r1 =>
    (cond (!r1.1)
      ((callD (vF P tab n) P false (.one (.flat .bool)) 10 [] r1.2).bind fun r2 =>
        (some (.bool r2.1, r2.2)))
      (cond (decide ((((VS.len a4 : Nat) : Int) : Int) > 60))
        ((callD (vF P tab n) P false (.one (.flat .bool)) 10 [] r1.2).bind fun r3 =>
          (some (.bool r3.1, r3.2)))
        (cond (decide ((((VS.len a5 : Nat) : Int) : Int) > 8))
          ((callD (vF P tab n) P false (.one (.flat .bool)) 10 [] r1.2).bind fun r4 =>
            (some (.bool r4.1, r4.2)))
          (cond (decide ((((VS.len a6 : Nat) : Int) : Int) > 200))
            ((callD (vF P tab n) P false (.one (.flat .bool)) 10 [] r1.2).bind fun r5 =>
              (some (.bool r5.1, r5.2)))
            (L9_0 n n a0 a1 a2 a3 a4 a5 a6 0 r1.2)))))) := by kernel_rfl
/-! godown/godownlaw11.decodes -/
theorem f11_eq (n : Nat) (a0 : VS) (h : VH) : bodyV P tab (vF P tab n) n 11 [.sl 5 a0] h =
  ((callD (vF P tab n) P false (.tup [(.agg [.int .u8, .str, .str, .slice 5, .slice 9, .slice 34]), (.flat (.int .i64))]) 14 [.sl 5 a0] h).bind fun r1 =>
    ((stV (r1.2 ++ [.row (31 + boxK) [.int .u8 0, .str ⟨#[]⟩, .str ⟨#[]⟩, .sl 5 .nil, .sl 9 .nil, .sl 34 .nil]]) (.ob r1.2.length 0) [.int .u8 r1.1.1.1, .str r1.1.1.2.1, .str r1.1.1.2.2.1, .sl 5 r1.1.1.2.2.2.1, .sl 9 r1.1.1.2.2.2.2.1, .sl 34 r1.1.1.2.2.2.2.2.1]).bind fun h2 =>
      ((callD (vF P tab n) P false (.tup [(.agg [.int .u8, .str, .str, .slice 5, .slice 9, .slice 34]), (.flat (.int .i64))]) 31 [.sl 5 a0] h2).bind fun r3 =>
        ((stV (r3.2 ++ [.row (31 + boxK) [.int .u8 0, .str ⟨#[]⟩, .str ⟨#[]⟩, .sl 5 .nil, .sl 9 .nil, .sl 34 .nil]]) (.ob r3.2.length 0) [.int .u8 r3.1.1.1, .str r3.1.1.2.1, .str r3.1.1.2.2.1, .sl 5 r3.1.1.2.2.2.1, .sl 9 r3.1.1.2.2.2.2.1, .sl 34 r3.1.1.2.2.2.2.2.1]).bind fun h4 =>
          (cond ((r1.1.2.1 : Int) == r3.1.2.1)
            ((ldV (.agg [.int .u8, .str, .str, .slice 5, .slice 9, .slice 34]) h4 (.ob r1.2.length 0)).bind fun x5 =>
              ((ldV (.agg [.int .u8, .str, .str, .slice 5, .slice 9, .slice 34]) h4 (.ob r3.2.length 0)).bind fun x6 =>
                ((callD (vF P tab n) P false (.one (.flat .bool)) 23 [.agg [.int .u8 x5.1, .str x5.2.1, .str x5.2.2.1, .sl 5 x5.2.2.2.1, .sl 9 x5.2.2.2.2.1, .sl 34 x5.2.2.2.2.2.1], .agg [.int .u8 x6.1, .str x6.2.1, .str x6.2.2.1, .sl 5 x6.2.2.2.1, .sl 9 x6.2.2.2.2.1, .sl 34 x6.2.2.2.2.2.1]] h4).bind fun r7 =>
                  (some (.bool r7.1, r7.2)))))
            (some (.bool false, h4))))))) := by kernel_rfl
/-! godown/godownref01.Join -/
theorem f12_eq (n : Nat) (a0 : VS) (a1 : VS) (h : VH) : bodyV P tab (vF P tab n) n 12 [.sl 5 a0, .sl 5 a1] h =
  ((appD true h 1 1 5 .nil a0).bind fun r1 =>
    ((appD true r1.2 1 1 5 r1.1 a1).bind fun r2 =>
      (some (.sl 5 r2.1, r2.2)))) := by kernel_rfl
/-! godown/godownref04.Text -/
theorem f13_eq (n : Nat) (a0 : ByteArray) (h : VH) : bodyV P tab (vF P tab n) n 13 [.str a0] h =
  ((callD (vF P tab n) P false (.one (.flat (.slice 5))) 32 [.int .i64 ((a0).size : Int)] h).bind fun r1 =>
    ((appD true r1.2 1 1 5 r1.1 (.fz (bytesE a0) .no)).bind fun r2 =>
      (some (.sl 5 r2.1, r2.2)))) := by kernel_rfl
/-! godown/request.Decode -/
theorem f14_eq (n : Nat) (a0 : VS) (h : VH) : bodyV P tab (vF P tab n) n 14 [.sl 5 a0] h =
  (cond (decide ((((VS.len a0 : Nat) : Int) : Int) > 2048))
    ((stV (h ++ [.row (31 + boxK) [.int .u8 0, .str ⟨#[]⟩, .str ⟨#[]⟩, .sl 5 .nil, .sl 9 .nil, .sl 34 .nil]]) (.ob h.length 0) [.int .u8 0, .str ⟨#[]⟩, .str ⟨#[]⟩, .sl 5 .nil, .sl 9 .nil, .sl 34 .nil]).bind fun h1 =>
      (((ldV (.agg [.int .u8, .str, .str, .slice 5, .slice 9, .slice 34]) h1 (.ob h.length 0)).bind fun x2 =>
          some (.tup [.agg [.int .u8 x2.1, .str x2.2.1, .str x2.2.2.1, .sl 5 x2.2.2.2.1, .sl 9 x2.2.2.2.2.1, .sl 34 x2.2.2.2.2.2.1], .int .i64 3], h1))))
    ((callD (vF P tab n) P false (.one (.flat .ptr)) 33 [.sl 5 a0] (h ++ [.row (31 + boxK) [.int .u8 0, .str ⟨#[]⟩, .str ⟨#[]⟩, .sl 5 .nil, .sl 9 .nil, .sl 34 .nil]])).bind fun r3 =>
      ((callD (vF P tab n) P false (.one (.flat (.int .u8))) 34 [.ptr r3.1] r3.2).bind fun r4 =>
        ((stV (r4.2 ++ [.row (31 + boxK) [.int .u8 0, .str ⟨#[]⟩, .str ⟨#[]⟩, .sl 5 .nil, .sl 9 .nil, .sl 34 .nil]]) (.ob r4.2.length 0) [.int .u8 r4.1, .str ⟨#[]⟩, .str ⟨#[]⟩, .sl 5 .nil, .sl 9 .nil, .sl 34 .nil]).bind fun h5 =>
          ((ldV (.flat (.int .u8)) h5 (.ob r4.2.length 0)).bind fun x6 =>
            (cond ((x6 : Int) == 1)
              ((callD (vF P tab n) P false (.one (.flat .str)) 35 [.ptr r3.1] h5).bind fun r7 =>
                ((callD (vF P tab n) P false (.one (.flat (.slice 5))) 36 [.ptr r3.1] r7.2).bind fun r8 =>
                  ((callD (vF P tab n) P false (.one (.flat (.slice 9))) 37 [.ptr r3.1, .int .i64 16] r8.2).bind fun r9 =>
                    ((stV r9.2 (.ob r4.2.length 1) [.str r7.1]).bind fun h10 =>
                      ((stV h10 (.ob r4.2.length 3) [.sl 5 r8.1]).bind fun h11 =>
                        ((stV h11 (.ob r4.2.length 4) [.sl 9 r9.1]).bind fun h12 =>
                        ((callD (vF P tab n) P false (.one (.flat (.int .i64))) 40 [.ptr r3.1] h12).bind fun r13 =>
                        (cond ((r13.1 : Int) != 0)
                        ((stV r13.2 (.ob h.length 0) [.int .u8 0, .str ⟨#[]⟩, .str ⟨#[]⟩, .sl 5 .nil, .sl 9 .nil, .sl 34 .nil]).bind fun h14 =>
                        (((ldV (.agg [.int .u8, .str, .str, .slice 5, .slice 9, .slice 34]) h14 (.ob h.length 0)).bind fun x15 =>
                        some (.tup [.agg [.int .u8 x15.1, .str x15.2.1, .str x15.2.2.1, .sl 5 x15.2.2.2.1, .sl 9 x15.2.2.2.2.1, .sl 34 x15.2.2.2.2.2.1], .int .i64 2], h14))))
                        ((ldV (.agg [.int .u8, .str, .str, .slice 5, .slice 9, .slice 34]) r13.2 (.ob r4.2.length 0)).bind fun x16 =>
                        ((stV r13.2 (.ob h.length 0) [.int .u8 x16.1, .str x16.2.1, .str x16.2.2.1, .sl 5 x16.2.2.2.1, .sl 9 x16.2.2.2.2.1, .sl 34 x16.2.2.2.2.2.1]).bind fun h17 =>
                        (((ldV (.agg [.int .u8, .str, .str, .slice 5, .slice 9, .slice 34]) h17 (.ob h.length 0)).bind fun x18 =>
                        some (.tup [.agg [.int .u8 x18.1, .str x18.2.1, .str x18.2.2.1, .sl 5 x18.2.2.2.1, .sl 9 x18.2.2.2.2.1, .sl 34 x18.2.2.2.2.2.1], .int .i64 0], h17)))))))))))))
              ((ldV (.flat (.int .u8)) h5 (.ob r4.2.length 0)).bind fun x19 =>
                ((callD (vF P tab n) P false (.one (.flat .bool)) 38 [.int .u8 x19] h5).bind fun r20 =>
                  (cond r20.1
                    ((callD (vF P tab n) P false (.one (.flat .str)) 35 [.ptr r3.1] r20.2).bind fun r21 =>
                      ((stV r21.2 (.ob r4.2.length 2) [.str r21.1]).bind fun h22 =>
                        ((callD (vF P tab n) P false (.one (.flat (.int .i64))) 40 [.ptr r3.1] h22).bind fun r23 =>
                        (cond ((r23.1 : Int) != 0)
                        ((stV r23.2 (.ob h.length 0) [.int .u8 0, .str ⟨#[]⟩, .str ⟨#[]⟩, .sl 5 .nil, .sl 9 .nil, .sl 34 .nil]).bind fun h24 =>
                        (((ldV (.agg [.int .u8, .str, .str, .slice 5, .slice 9, .slice 34]) h24 (.ob h.length 0)).bind fun x25 =>
                        some (.tup [.agg [.int .u8 x25.1, .str x25.2.1, .str x25.2.2.1, .sl 5 x25.2.2.2.1, .sl 9 x25.2.2.2.2.1, .sl 34 x25.2.2.2.2.2.1], .int .i64 2], h24))))
                        ((ldV (.agg [.int .u8, .str, .str, .slice 5, .slice 9, .slice 34]) r23.2 (.ob r4.2.length 0)).bind fun x26 =>
                        ((stV r23.2 (.ob h.length 0) [.int .u8 x26.1, .str x26.2.1, .str x26.2.2.1, .sl 5 x26.2.2.2.1, .sl 9 x26.2.2.2.2.1, .sl 34 x26.2.2.2.2.2.1]).bind fun h27 =>
                        (((ldV (.agg [.int .u8, .str, .str, .slice 5, .slice 9, .slice 34]) h27 (.ob h.length 0)).bind fun x28 =>
                        some (.tup [.agg [.int .u8 x28.1, .str x28.2.1, .str x28.2.2.1, .sl 5 x28.2.2.2.1, .sl 9 x28.2.2.2.2.1, .sl 34 x28.2.2.2.2.2.1], .int .i64 0], h27)))))))))
                    ((ldV (.flat (.int .u8)) r20.2 (.ob r4.2.length 0)).bind fun x29 =>
                      (cond ((x29 : Int) == 7)
                        ((callD (vF P tab n) P false (.tup [(.flat (.slice 34)), (.flat .bool)]) 39 [.ptr r3.1] r20.2).bind fun r30 =>
                        ((stV r30.2 (.ob r4.2.length 5) [.sl 34 r30.1.1]).bind fun h31 =>
                        (cond (!r30.1.2.1)
                        ((stV h31 (.ob h.length 0) [.int .u8 0, .str ⟨#[]⟩, .str ⟨#[]⟩, .sl 5 .nil, .sl 9 .nil, .sl 34 .nil]).bind fun h32 =>
                        (((ldV (.agg [.int .u8, .str, .str, .slice 5, .slice 9, .slice 34]) h32 (.ob h.length 0)).bind fun x33 =>
                        some (.tup [.agg [.int .u8 x33.1, .str x33.2.1, .str x33.2.2.1, .sl 5 x33.2.2.2.1, .sl 9 x33.2.2.2.2.1, .sl 34 x33.2.2.2.2.2.1], .int .i64 2], h32))))
                        ((callD (vF P tab n) P false (.one (.flat (.int .i64))) 40 [.ptr r3.1] h31).bind fun r34 =>
                        (cond ((r34.1 : Int) != 0)
                        ((stV r34.2 (.ob h.length 0) [.int .u8 0, .str ⟨#[]⟩, .str ⟨#[]⟩, .sl 5 .nil, .sl 9 .nil, .sl 34 .nil]).bind fun h35 =>
                        (((ldV (.agg [.int .u8, .str, .str, .slice 5, .slice 9, .slice 34]) h35 (.ob h.length 0)).bind fun x36 =>
                        some (.tup [.agg [.int .u8 x36.1, .str x36.2.1, .str x36.2.2.1, .sl 5 x36.2.2.2.1, .sl 9 x36.2.2.2.2.1, .sl 34 x36.2.2.2.2.2.1], .int .i64 2], h35))))
                        ((ldV (.agg [.int .u8, .str, .str, .slice 5, .slice 9, .slice 34]) r34.2 (.ob r4.2.length 0)).bind fun x37 =>
                        ((stV r34.2 (.ob h.length 0) [.int .u8 x37.1, .str x37.2.1, .str x37.2.2.1, .sl 5 x37.2.2.2.1, .sl 9 x37.2.2.2.2.1, .sl 34 x37.2.2.2.2.2.1]).bind fun h38 =>
                        (((ldV (.agg [.int .u8, .str, .str, .slice 5, .slice 9, .slice 34]) h38 (.ob h.length 0)).bind fun x39 =>
                        some (.tup [.agg [.int .u8 x39.1, .str x39.2.1, .str x39.2.2.1, .sl 5 x39.2.2.2.1, .sl 9 x39.2.2.2.2.1, .sl 34 x39.2.2.2.2.2.1], .int .i64 0], h38))))))))))
                        ((ldV (.flat (.int .u8)) r20.2 (.ob r4.2.length 0)).bind fun x40 =>
                        ((callD (vF P tab n) P false (.one (.flat .str)) 16 [.int .u8 x40] r20.2).bind fun r41 =>
                        (cond (!(!(strEq r41.1 ⟨#[]⟩)))
                        ((stV r41.2 (.ob h.length 0) [.int .u8 0, .str ⟨#[]⟩, .str ⟨#[]⟩, .sl 5 .nil, .sl 9 .nil, .sl 34 .nil]).bind fun h42 =>
                        (((ldV (.agg [.int .u8, .str, .str, .slice 5, .slice 9, .slice 34]) h42 (.ob h.length 0)).bind fun x43 =>
                        some (.tup [.agg [.int .u8 x43.1, .str x43.2.1, .str x43.2.2.1, .sl 5 x43.2.2.2.1, .sl 9 x43.2.2.2.2.1, .sl 34 x43.2.2.2.2.2.1], .int .i64 2], h42))))
                        ((callD (vF P tab n) P false (.one (.flat (.int .i64))) 40 [.ptr r3.1] r41.2).bind fun r44 =>
                        (cond ((r44.1 : Int) != 0)
                        ((stV r44.2 (.ob h.length 0) [.int .u8 0, .str ⟨#[]⟩, .str ⟨#[]⟩, .sl 5 .nil, .sl 9 .nil, .sl 34 .nil]).bind fun h45 =>
                        (((ldV (.agg [.int .u8, .str, .str, .slice 5, .slice 9, .slice 34]) h45 (.ob h.length 0)).bind fun x46 =>
                        some (.tup [.agg [.int .u8 x46.1, .str x46.2.1, .str x46.2.2.1, .sl 5 x46.2.2.2.1, .sl 9 x46.2.2.2.2.1, .sl 34 x46.2.2.2.2.2.1], .int .i64 2], h45))))
                        ((ldV (.agg [.int .u8, .str, .str, .slice 5, .slice 9, .slice 34]) r44.2 (.ob r4.2.length 0)).bind fun x47 =>
                        ((stV r44.2 (.ob h.length 0) [.int .u8 x47.1, .str x47.2.1, .str x47.2.2.1, .sl 5 x47.2.2.2.1, .sl 9 x47.2.2.2.2.1, .sl 34 x47.2.2.2.2.2.1]).bind fun h48 =>
                        (((ldV (.agg [.int .u8, .str, .str, .slice 5, .slice 9, .slice 34]) h48 (.ob h.length 0)).bind fun x49 =>
                        some (.tup [.agg [.int .u8 x49.1, .str x49.2.1, .str x49.2.2.1, .sl 5 x49.2.2.2.1, .sl 9 x49.2.2.2.2.1, .sl 34 x49.2.2.2.2.2.1], .int .i64 0], h48))))))))))))))))))))) := by kernel_rfl
/-! godown/godownref11.Encode -/
noncomputable def L15_0 (n m : Nat) (s1 : Nat) (s3 : VS) (s4 : Int) (h : VH) : VRes := loopAt P tab 15 [1, 1, 1, 1, 0, 1, 0, 1, 1, 0] n [] m [.undef, .ptr (.ob s1 0), .undef, .sl 5 s3, .int .i64 s4, .undef, .undef, .undef, .undef, .undef, .undef, .undef, .undef, .undef, .undef, .undef, .undef, .undef, .undef, .undef, .undef, .undef, .undef, .undef, .undef, .undef, .undef, .undef, .undef, .undef, .undef, .undef, .undef, .undef, .undef, .undef, .undef, .undef, .undef, .undef, .undef, .undef, .undef, .undef, .undef, .undef, .undef, .undef, .undef, .undef, .undef, .undef, .undef, .undef, .undef, .undef, .undef, .undef, .undef, .undef, .undef, .undef, .undef, .undef, .undef, .undef, .undef, .undef, .undef, .undef, .undef, .undef, .undef, .undef, .undef, .undef, .undef, .undef, .undef, .undef, .undef, .undef, .undef, .undef, .undef, .undef, .undef, .undef, .undef, .undef, .undef, .undef, .undef, .undef, .undef, .undef, .undef, .undef, .undef] h
noncomputable def L15_1 (n m0 m : Nat) (s1 : Nat) (s3 : VS) (s4 : Int) (s5 : Nat) (s6 : Int) (h : VH) : VRes := loopAt P tab 15 [1, 1, 1, 1, 0, 1, 0, 1, 1, 0, 0, 1, 0, 0, 1, 1, 1, 1, 1, 1, 0] n [m0] m [.undef, .ptr (.ob s1 0), .undef, .sl 5 s3, .int .i64 s4, .ptr (.ob s5 0), .int .i64 s6, .undef, .undef, .undef, .undef, .undef, .undef, .undef, .undef, .undef, .undef, .undef, .undef, .undef, .undef, .undef, .undef, .undef, .undef, .undef, .undef, .undef, .undef, .undef, .undef, .undef, .undef, .undef, .undef, .undef, .undef, .undef, .undef, .undef, .undef, .undef, .undef, .undef, .undef, .undef, .undef, .undef, .undef, .undef, .undef, .undef, .undef, .undef, .undef, .undef, .undef, .undef, .undef, .undef, .undef, .undef, .undef, .undef, .undef, .undef, .undef, .undef, .undef, .undef, .undef, .undef, .undef, .undef, .undef, .undef, .undef, .undef, .undef, .undef, .undef, .undef, .undef, .undef, .undef, .undef, .undef, .undef, .undef, .undef, .undef, .undef, .undef, .undef, .undef, .undef, .undef, .undef, .undef] h
theorem L15_0_eq (n m : Nat) (s1 : Nat) (s3 : VS) (s4 : Int) (h : VH) : L15_0 n (m + 1) s1 s3 s4 h =
  ((ldV (.flat (.slice 34)) h (.ob s1 5)).bind fun x1 =>
    (cond (decide ((s4 : Int) < ((VS.len x1 : Nat) : Int)))
      ((ldV (.flat (.slice 34)) h (.ob s1 5)).bind fun x2 =>
        ((ixV 4 x2 s4).bind fun p3 =>
          ((ldV (.agg [.str, .slice 5, .slice 9, .slice 3]) h p3).bind fun x4 =>
            ((stV (h ++ [.row (34 + boxK) [.str ⟨#[]⟩, .sl 5 .nil, .sl 9 .nil, .sl 3 .nil]]) (.ob h.length 0) [.str x4.1, .sl 5 x4.2.1, .sl 9 x4.2.2.1, .sl 3 x4.2.2.2.1]).bind fun h5 =>
              ((ldV (.flat .str) h5 (.ob h.length 0)).bind fun x6 =>
                ((callD (vF P tab n) P false (.one (.flat (.slice 5))) 13 [.str x6] h5).bind fun r7 =>
                  ((appD true r7.2 1 1 5 s3 r7.1).bind fun r8 =>
                    ((ldV (.flat (.slice 5)) r8.2 (.ob h.length 1)).bind fun x9 =>
                      ((strV r8.2 5 x9).bind fun z10 =>
                        ((callD (vF P tab n) P false (.one (.flat (.slice 5))) 13 [.str z10] r8.2).bind fun r11 =>
                        ((appD true r11.2 1 1 5 r8.1 r11.1).bind fun r12 =>
                        ((ldV (.flat (.slice 9)) r12.2 (.ob h.length 2)).bind fun x13 =>
                        ((callD (vF P tab n) P false (.one (.flat (.slice 5))) 41 [.sl 9 x13] r12.2).bind fun r14 =>
                        ((appD true r14.2 1 1 5 r12.1 r14.1).bind fun r15 =>
                        ((ldV (.flat (.slice 3)) r15.2 (.ob h.length 3)).bind fun x16 =>
                        ((appD true r15.2 1 1 5 r15.1 (.fz [[.int .u8 (IntKind.wrap .u8 ((VS.len x16 : Nat) : Int))]] (.ex 1))).bind fun r17 =>
                        (L15_1 n m n s1 r17.1 s4 h.length 0 r17.2)))))))))))))))))
      (some (.sl 5 s3, h)))) := by kernel_rfl
theorem L15_1_eq (n m0 m : Nat) (s1 : Nat) (s3 : VS) (s4 : Int) (s5 : Nat) (s6 : Int) (h : VH) : L15_1 n m0 (m + 1) s1 s3 s4 s5 s6 h =
  ((ldV (.flat (.slice 3)) h (.ob s5 3)).bind fun x1 =>
    (cond (decide ((s6 : Int) < ((VS.len x1 : Nat) : Int)))
      ((ldV (.flat (.slice 3)) h (.ob s5 3)).bind fun x2 =>
        ((ixV 1 x2 s6).bind fun p3 =>
          ((ldV (.flat (.int .i64)) h p3).bind fun x4 =>
            ((appD true h 1 1 5 s3 (.fz [[.int .u8 (IntKind.wrap .u8 x4)]] (.ex 1))).bind fun r5 =>
              (L15_1 n m0 m s1 r5.1 s4 s5 (IntKind.wrap .i64 (s6 + 1)) r5.2)))))
      (L15_0 n m0 s1 s3 (IntKind.wrap .i64 (s4 + 1)) h))) := by kernel_rfl
theorem f15_eq (n : Nat) (a0_0 : Int) (a0_1 : ByteArray) (a0_2 : ByteArray) (a0_3 : VS) (a0_4 : VS) (a0_5 : VS) (h : VH) : bodyV P tab (vF P tab n) n 15 [.agg [.int .u8 a0_0, .str a0_1, .str a0_2, .sl 5 a0_3, .sl 9 a0_4, .sl 34 a0_5]] h =
  ((ldV (.flat (.int .u8)) (h ++ [.row (31 + boxK) [.int .u8 a0_0, .str a0_1, .str a0_2, .sl 5 a0_3, .sl 9 a0_4, .sl 34 a0_5]]) (.ob h.length 0)).bind fun x1 =>
    ((ldV (.flat (.int .u8)) (h ++ [.row (31 + boxK) [.int .u8 a0_0, .str a0_1, .str a0_2, .sl 5 a0_3, .sl 9 a0_4, .sl 34 a0_5]]) (.ob h.length 0)).bind fun x2 =>
      (cond ((x2 : Int) == 1)
        ((ldV (.flat .str) (h ++ [.row (31 + boxK) [.int .u8 a0_0, .str a0_1, .str a0_2, .sl 5 a0_3, .sl 9 a0_4, .sl 34 a0_5]]) (.ob h.length 1)).bind fun x3 =>
          ((callD (vF P tab n) P false (.one (.flat (.slice 5))) 13 [.str x3] (h ++ [.row (31 + boxK) [.int .u8 a0_0, .str a0_1, .str a0_2, .sl 5 a0_3, .sl 9 a0_4, .sl 34 a0_5]])).bind fun r4 =>
            ((appD true r4.2 1 1 5 (.fz [[.int .u8 x1]] (.ex 1)) r4.1).bind fun r5 =>
              ((ldV (.flat (.slice 5)) r5.2 (.ob h.length 3)).bind fun x6 =>
                ((strV r5.2 5 x6).bind fun z7 =>
                  ((callD (vF P tab n) P false (.one (.flat (.slice 5))) 13 [.str z7] r5.2).bind fun r8 =>
                    ((appD true r8.2 1 1 5 r5.1 r8.1).bind fun r9 =>
                      ((ldV (.flat (.slice 9)) r9.2 (.ob h.length 4)).bind fun x10 =>
                        ((callD (vF P tab n) P false (.one (.flat (.slice 5))) 41 [.sl 9 x10] r9.2).bind fun r11 =>
                        ((appD true r11.2 1 1 5 r9.1 r11.1).bind fun r12 =>
                        ((ldV (.flat (.int .u8)) r12.2 (.ob h.length 0)).bind fun x13 =>
                        ((callD (vF P tab n) P false (.one (.flat .bool)) 42 [.int .u8 x13] r12.2).bind fun r14 =>
                        (cond r14.1
                        ((ldV (.flat .str) r14.2 (.ob h.length 2)).bind fun x15 =>
                        ((callD (vF P tab n) P false (.one (.flat (.slice 5))) 13 [.str x15] r14.2).bind fun r16 =>
                        ((appD true r16.2 1 1 5 r12.1 r16.1).bind fun r17 =>
                        ((ldV (.flat (.int .u8)) r17.2 (.ob h.length 0)).bind fun x18 =>
                        (cond ((x18 : Int) == 7)
                        ((ldV (.flat (.slice 34)) r17.2 (.ob h.length 5)).bind fun x19 =>
                        ((appD true r17.2 1 1 5 r17.1 (.fz [[.int .u8 (IntKind.wrap .u8 ((VS.len x19 : Nat) : Int))]] (.ex 1))).bind fun r20 =>
                        (L15_0 n n h.length r20.1 0 r20.2)))
                        (some (.sl 5 r17.1, r17.2)))))))
                        ((ldV (.flat (.int .u8)) r14.2 (.ob h.length 0)).bind fun x21 =>
                        (cond ((x21 : Int) == 7)
                        ((ldV (.flat (.slice 34)) r14.2 (.ob h.length 5)).bind fun x22 =>
                        ((appD true r14.2 1 1 5 r12.1 (.fz [[.int .u8 (IntKind.wrap .u8 ((VS.len x22 : Nat) : Int))]] (.ex 1))).bind fun r23 =>
                        (L15_0 n n h.length r23.1 0 r23.2)))
                        (some (.sl 5 r12.1, r14.2)))))))))))))))))
        ((ldV (.flat (.int .u8)) (h ++ [.row (31 + boxK) [.int .u8 a0_0, .str a0_1, .str a0_2, .sl 5 a0_3, .sl 9 a0_4, .sl 34 a0_5]]) (.ob h.length 0)).bind fun x24 =>
          ((callD (vF P tab n) P false (.one (.flat .bool)) 42 [.int .u8 x24] (h ++ [.row (31 + boxK) [.int .u8 a0_0, .str a0_1, .str a0_2, .sl 5 a0_3, .sl 9 a0_4, .sl 34 a0_5]])).bind fun r25 =>
            (cond r25.1
              ((ldV (.flat .str) r25.2 (.ob h.length 2)).bind fun x26 =>
                ((callD (vF P tab n) P false (.one (.flat (.slice 5))) 13 [.str x26] r25.2).bind fun r27 =>
                  ((appD true r27.2 1 1 5 (.fz [[.int .u8 x1]] (.ex 1)) r27.1).bind fun r28 =>
                    ((ldV (.flat (.int .u8)) r28.2 (.ob h.length 0)).bind fun x29 =>
                      (cond ((x29 : Int) == 7)
                        ((ldV (.flat (.slice 34)) r28.2 (.ob h.length 5)).bind fun x30 =>
                        ((appD true r28.2 1 1 5 r28.1 (.fz [[.int .u8 (IntKind.wrap .u8 ((VS.len x30 : Nat) : Int))]] (.ex 1))).bind fun r31 =>
                        (L15_0 n n h.length r31.1 0 r31.2)))
                        (some (.sl 5 r28.1, r28.2)))))))
              ((ldV (.flat (.int .u8)) r25.2 (.ob h.length 0)).bind fun x32 =>
                (cond ((x32 : Int) == 7)
                  ((ldV (.flat (.slice 34)) r25.2 (.ob h.length 5)).bind fun x33 =>
                    ((appD true r25.2 1 1 5 (.fz [[.int .u8 x1]] (.ex 1)) (.fz [[.int .u8 (IntKind.wrap .u8 ((VS.len x33 : Nat) : Int))]] (.ex 1))).bind fun r34 =>
                      (L15_0 n n h.length r34.1 0 r34.2)))
                  (some (.sl 5 (.fz [[.int .u8 x1]] (.ex 1)), r25.2)))))))))) := by kernel_rfl
/-! godown/request.Encode -/
noncomputable def L17_0 (n m : Nat) (s3 : Nat) (s48 : VS) (s49 : Int) (s50 : Int) (h : VH) : VRes := loopAt P tab 17 [1, 1, 1, 0, 0, 1, 1, 1, 1, 1, 0, 1, 1, 0] n [] m [.undef, .undef, .undef, .ptr (.ob s3 0), .undef, .undef, .undef, .undef, .undef, .undef, .undef, .undef, .undef, .undef, .undef, .undef, .undef, .undef, .undef, .undef, .undef, .undef, .undef, .undef, .undef, .undef, .undef, .undef, .undef, .undef, .undef, .undef, .undef, .undef, .undef, .undef, .undef, .undef, .undef, .undef, .undef, .undef, .undef, .undef, .undef, .undef, .undef, .undef, .sl 34 s48, .int .i64 s49, .int .i64 s50, .undef, .undef, .undef, .undef, .undef, .undef, .undef, .undef, .undef, .undef, .undef, .undef, .undef, .undef, .undef, .undef, .undef, .undef, .undef, .undef, .undef, .undef, .undef, .undef, .undef, .undef, .undef, .undef, .undef, .undef, .undef, .undef, .undef, .undef] h
noncomputable def L17_1 (n m0 m : Nat) (s3 : Nat) (s48 : VS) (s49 : Int) (s50 : Int) (s71 : VS) (s72 : Int) (s73 : Int) (h : VH) : VRes := loopAt P tab 17 [1, 1, 1, 0, 0, 1, 1, 1, 1, 1, 0, 1, 1, 0, 0, 1, 1, 0, 0, 1, 1, 1, 0] n [m0] m [.undef, .undef, .undef, .ptr (.ob s3 0), .undef, .undef, .undef, .undef, .undef, .undef, .undef, .undef, .undef, .undef, .undef, .undef, .undef, .undef, .undef, .undef, .undef, .undef, .undef, .undef, .undef, .undef, .undef, .undef, .undef, .undef, .undef, .undef, .undef, .undef, .undef, .undef, .undef, .undef, .undef, .undef, .undef, .undef, .undef, .undef, .undef, .undef, .undef, .undef, .sl 34 s48, .int .i64 s49, .int .i64 s50, .undef, .undef, .undef, .undef, .undef, .undef, .undef, .undef, .undef, .undef, .undef, .undef, .undef, .undef, .undef, .undef, .undef, .undef, .undef, .undef, .sl 3 s71, .int .i64 s72, .int .i64 s73, .undef, .undef, .undef, .undef, .undef, .undef, .undef, .undef, .undef, .undef, .undef] h
theorem L17_0_eq (n m : Nat) (s3 : Nat) (s48 : VS) (s49 : Int) (s50 : Int) (h : VH) : L17_0 n (m + 1) s3 s48 s49 s50 h =
  (cond (decide ((s50 : Int) < s49))
    ((ixV 4 s48 s50).bind fun p1 =>
      ((ldV (.agg [.str, .slice 5, .slice 9, .slice 3]) h p1).bind fun x2 =>
        ((stV (h ++ [.row (34 + boxK) [.str ⟨#[]⟩, .sl 5 .nil, .sl 9 .nil, .sl 3 .nil]]) (.ob h.length 0) [.str x2.1, .sl 5 x2.2.1, .sl 9 x2.2.2.1, .sl 3 x2.2.2.2.1]).bind fun h3 =>
          ((ldV (.flat .str) h3 (.ob h.length 0)).bind fun x4 =>
            ((ldV (.flat (.slice 5)) h3 (.ob h.length 1)).bind fun x5 =>
              ((strV h3 5 x5).bind fun z6 =>
                ((ldV (.flat (.slice 9)) h3 (.ob h.length 2)).bind fun x7 =>
                  ((ldV (.flat (.slice 3)) h3 (.ob h.length 3)).bind fun x8 =>
                    ((callD (vF P tab n) P false (.one (.flat .ptr)) 44 [.ptr (.ob s3 0), .str x4] h3).bind fun r9 =>
                      (cond (V.stays r9.2 (hj [(.ob h.length 3, .slice 3, .sl 3 x8), (.ob h.length 2, .slice 9, .sl 9 x7)] (hj (heldStr h3 x5) [(.ob h.length 1, .slice 5, .sl 5 x5)])))
                        ((callD (vF P tab n) P false (.one (.flat .ptr)) 44 [.ptr r9.1, .str z6] r9.2).bind fun r10 =>
                        (cond (V.stays r10.2 [(.ob h.length 3, .slice 3, .sl 3 x8), (.ob h.length 2, .slice 9, .sl 9 x7), (.ob h.length 1, .slice 5, .sl 5 x5), (.ob h.length 0, .str, .str x4)])
                        ((callD (vF P tab n) P false (.one (.flat .ptr)) 45 [.ptr r10.1, .sl 9 x7] r10.2).bind fun r11 =>
                        (cond (V.stays r11.2 (hj [(.ob h.length 3, .slice 3, .sl 3 x8)] (hj (heldStr h3 x5) [(.ob h.length 1, .slice 5, .sl 5 x5), (.ob h.length 0, .str, .str x4)])))
                        ((callD (vF P tab n) P false (.one (.flat .ptr)) 43 [.ptr r11.1, .int .u8 (IntKind.wrap .u8 ((VS.len x8 : Nat) : Int))] r11.2).bind fun r12 =>
                        (cond (V.stays r12.2 (hj [(.ob h.length 3, .slice 3, .sl 3 x8), (.ob h.length 2, .slice 9, .sl 9 x7)] (hj (heldStr h3 x5) [(.ob h.length 1, .slice 5, .sl 5 x5), (.ob h.length 0, .str, .str x4)])))
                        ((ldV (.flat (.slice 3)) r12.2 (.ob h.length 3)).bind fun x13 =>
                        (L17_1 n m n s3 s48 s49 s50 x13 ((VS.len x13 : Nat) : Int) 0 r12.2))
                        none))
                        none))
                        none))
                        none))))))))))
    ((callD (vF P tab n) P false (.one (.flat (.slice 5))) 46 [.ptr (.ob s3 0)] h).bind fun r14 =>
      (some (.sl 5 r14.1, r14.2)))) := by kernel_rfl
theorem L17_1_eq (n m0 m : Nat) (s3 : Nat) (s48 : VS) (s49 : Int) (s50 : Int) (s71 : VS) (s72 : Int) (s73 : Int) (h : VH) : L17_1 n m0 (m + 1) s3 s48 s49 s50 s71 s72 s73 h =
  (cond (decide ((s73 : Int) < s72))
    ((ixV 1 s71 s73).bind fun p1 =>
      ((ldV (.flat (.int .i64)) h p1).bind fun x2 =>
        ((callD (vF P tab n) P false (.one (.flat .ptr)) 43 [.ptr (.ob s3 0), .int .u8 (IntKind.wrap .u8 x2)] h).bind fun r3 =>
          (L17_1 n m0 m s3 s48 s49 s50 s71 s72 (IntKind.wrap .i64 (s73 + 1)) r3.2))))
    (L17_0 n m0 s3 s48 s49 (IntKind.wrap .i64 (s50 + 1)) h)) := by kernel_rfl
theorem f17_eq (n : Nat) (a0_0 : Int) (a0_1 : ByteArray) (a0_2 : ByteArray) (a0_3 : VS) (a0_4 : VS) (a0_5 : VS) (h : VH) : bodyV P tab (vF P tab n) n 17 [.agg [.int .u8 a0_0, .str a0_1, .str a0_2, .sl 5 a0_3, .sl 9 a0_4, .sl 34 a0_5]] h =
  ((ldV (.flat (.int .u8)) (List.append (α := VO) (h ++ [.row (31 + boxK) [.int .u8 a0_0, .str a0_1, .str a0_2, .sl 5 a0_3, .sl 9 a0_4, .sl 34 a0_5]]) [.row (86 + boxK) [.sl 5 .nil]]) (.ob h.length 0)).bind fun x1 =>
    ((callD (vF P tab n) P false (.one (.flat .ptr)) 43 [.ptr (.ob (List.length ((h ++ [.row (31 + boxK) [.int .u8 a0_0, .str a0_1, .str a0_2, .sl 5 a0_3, .sl 9 a0_4, .sl 34 a0_5]]) : VH)) 0), .int .u8 x1] (List.append (α := VO) (h ++ [.row (31 + boxK) [.int .u8 a0_0, .str a0_1, .str a0_2, .sl 5 a0_3, .sl 9 a0_4, .sl 34 a0_5]]) [.row (86 + boxK) [.sl 5 .nil]])).bind fun r2 =>
      ((ldV (.flat (.int .u8)) r2.2 (.ob h.length 0)).bind fun x3 =>
        (cond ((x3 : Int) == 1)
          ((ldV (.flat .str) r2.2 (.ob h.length 1)).bind fun x4 =>
            ((ldV (.flat (.slice 5)) r2.2 (.ob h.length 3)).bind fun x5 =>
              ((strV r2.2 5 x5).bind fun z6 =>
                ((ldV (.flat (.slice 9)) r2.2 (.ob h.length 4)).bind fun x7 =>
                  ((callD (vF P tab n) P false (.one (.flat .ptr)) 44 [.ptr (.ob (List.length ((h ++ [.row (31 + boxK) [.int .u8 a0_0, .str a0_1, .str a0_2, .sl 5 a0_3, .sl 9 a0_4, .sl 34 a0_5]]) : VH)) 0), .str x4] r2.2).bind fun r8 =>
                    (cond (V.stays r8.2 (hj [(.ob h.length 4, .slice 9, .sl 9 x7)] (hj (heldStr r2.2 x5) [(.ob h.length 3, .slice 5, .sl 5 x5)])))
                      ((callD (vF P tab n) P false (.one (.flat .ptr)) 44 [.ptr r8.1, .str z6] r8.2).bind fun r9 =>
                        (cond (V.stays r9.2 [(.ob h.length 4, .slice 9, .sl 9 x7), (.ob h.length 3, .slice 5, .sl 5 x5), (.ob h.length 1, .str, .str x4)])
                        ((callD (vF P tab n) P false (.one (.flat .ptr)) 45 [.ptr r9.1, .sl 9 x7] r9.2).bind fun r10 =>
                        (cond (V.stays r10.2 (hj (heldStr r2.2 x5) [(.ob h.length 3, .slice 5, .sl 5 x5), (.ob h.length 1, .str, .str x4)]))
                        ((callD (vF P tab n) P false (.one (.flat (.slice 5))) 46 [.ptr (.ob (List.length ((h ++ [.row (31 + boxK) [.int .u8 a0_0, .str a0_1, .str a0_2, .sl 5 a0_3, .sl 9 a0_4, .sl 34 a0_5]]) : VH)) 0)] r10.2).bind fun r11 =>
                        (some (.sl 5 r11.1, r11.2)))
                        none))
                        none))
                      none))))))
          ((ldV (.flat (.int .u8)) r2.2 (.ob h.length 0)).bind fun x12 =>
            ((callD (vF P tab n) P false (.one (.flat .bool)) 38 [.int .u8 x12] r2.2).bind fun r13 =>
              (cond r13.1
                ((ldV (.flat .str) r13.2 (.ob h.length 2)).bind fun x14 =>
                  ((callD (vF P tab n) P false (.one (.flat .ptr)) 44 [.ptr (.ob (List.length ((h ++ [.row (31 + boxK) [.int .u8 a0_0, .str a0_1, .str a0_2, .sl 5 a0_3, .sl 9 a0_4, .sl 34 a0_5]]) : VH)) 0), .str x14] r13.2).bind fun r15 =>
                    ((callD (vF P tab n) P false (.one (.flat (.slice 5))) 46 [.ptr (.ob (List.length ((h ++ [.row (31 + boxK) [.int .u8 a0_0, .str a0_1, .str a0_2, .sl 5 a0_3, .sl 9 a0_4, .sl 34 a0_5]]) : VH)) 0)] r15.2).bind fun r16 =>
                      (some (.sl 5 r16.1, r16.2)))))
                ((ldV (.flat (.int .u8)) r13.2 (.ob h.length 0)).bind fun x17 =>
                  (cond ((x17 : Int) == 7)
                    ((ldV (.flat (.slice 34)) r13.2 (.ob h.length 5)).bind fun x18 =>
                      ((callD (vF P tab n) P false (.one (.flat .ptr)) 43 [.ptr (.ob (List.length ((h ++ [.row (31 + boxK) [.int .u8 a0_0, .str a0_1, .str a0_2, .sl 5 a0_3, .sl 9 a0_4, .sl 34 a0_5]]) : VH)) 0), .int .u8 (IntKind.wrap .u8 ((VS.len x18 : Nat) : Int))] r13.2).bind fun r19 =>
                        ((ldV (.flat (.slice 34)) r19.2 (.ob h.length 5)).bind fun x20 =>
                        (L17_0 n n (List.length ((h ++ [.row (31 + boxK) [.int .u8 a0_0, .str a0_1, .str a0_2, .sl 5 a0_3, .sl 9 a0_4, .sl 34 a0_5]]) : VH)) x20 ((VS.len x20 : Nat) : Int) 0 r19.2))))
                    ((callD (vF P tab n) P false (.one (.flat (.slice 5))) 46 [.ptr (.ob (List.length ((h ++ [.row (31 + boxK) [.int .u8 a0_0, .str a0_1, .str a0_2, .sl 5 a0_3, .sl 9 a0_4, .sl 34 a0_5]]) : VH)) 0)] r13.2).bind fun r21 =>
                      (some (.sl 5 r21.1, r21.2)))))))))))) := by kernel_rfl
/-! godown/godownref01.Bytes -/
noncomputable def L18_0 (n m : Nat) (s0 : VS) (s1 : VS) (s5 : Int) (h : VH) : VRes := loopAt P tab 18 [1, 1, 0, 1, 0] n [] m [.sl 5 s0, .sl 5 s1, .undef, .undef, .undef, .int .i64 s5, .undef, .undef, .undef, .undef, .undef, .undef, .undef, .undef, .undef, .undef, .undef, .undef, .undef, .undef, .undef, .undef, .undef, .undef, .undef, .undef] h
theorem L18_0_eq (n m : Nat) (s0 : VS) (s1 : VS) (s5 : Int) (h : VH) : L18_0 n (m + 1) s0 s1 s5 h =
  (cond (decide ((s5 : Int) < ((VS.len s0 : Nat) : Int)))
    ((ixV 1 s0 s5).bind fun p1 =>
      ((ldV (.flat (.int .u8)) h p1).bind fun x2 =>
        ((ixV 1 s1 s5).bind fun p3 =>
          ((ldV (.flat (.int .u8)) h p3).bind fun x4 =>
            (cond ((x2 : Int) != x4)
              (some (.bool false, h))
              (L18_0 n m s0 s1 (IntKind.wrap .i64 (s5 + 1)) h))))))
    (some (.bool true, h))) := by kernel_rfl
theorem f18_eq (n : Nat) (a0 : VS) (a1 : VS) (h : VH) : bodyV P tab (vF P tab n) n 18 [.sl 5 a0, .sl 5 a1] h =
  (cond ((((VS.len a0 : Nat) : Int) : Int) != ((VS.len a1 : Nat) : Int))
    (some (.bool false, h))
    (L18_0 n n a0 a1 0 h)) := by kernel_rfl
/-! godown/godownref11.Alike -/
noncomputable def L23_0 (n m : Nat) (s2 : Nat) (s3 : Nat) (s5 : Int) (h : VH) : VRes := loopAt P tab 23 [1, 1, 0, 1, 0] n [] m [.undef, .undef, .ptr (.ob s2 0), .ptr (.ob s3 0), .undef, .int .i64 s5, .undef, .undef, .undef, .undef, .undef, .undef, .undef, .undef, .undef, .undef, .undef, .undef, .undef, .undef, .undef, .undef, .undef, .undef, .undef, .undef, .undef, .undef, .undef, .undef, .undef, .undef, .undef, .undef, .undef, .undef, .undef, .undef, .undef, .undef, .undef, .undef, .undef, .undef, .undef, .undef, .undef, .undef, .undef, .undef, .undef, .undef, .undef, .undef, .undef, .undef, .undef, .undef, .undef, .undef, .undef, .undef, .undef, .undef, .undef, .undef, .undef, .undef, .undef, .undef, .undef, .undef, .undef, .undef, .undef, .undef, .undef, .undef, .undef, .undef, .undef, .undef, .undef, .undef, .undef, .undef, .undef, .undef, .undef, .undef, .undef, .undef, .undef, .undef, .undef, .undef, .undef, .undef] h
theorem L23_0_eq (n m : Nat) (s2 : Nat) (s3 : Nat) (s5 : Int) (h : VH) : L23_0 n (m + 1) s2 s3 s5 h =
  ((ldV (.flat (.slice 34)) h (.ob s2 5)).bind fun x1 =>
    (cond (decide ((s5 : Int) < ((VS.len x1 : Nat) : Int)))
      ((ldV (.flat (.slice 34)) (h ++ [.slot, .slot]) (.ob s2 5)).bind fun x2 =>
        ((ixV 4 x2 s5).bind fun p3 =>
          ((ldV (.agg [.str, .slice 5, .slice 9, .slice 3]) (h ++ [.slot, .slot]) p3).bind fun x4 =>
            ((ldV (.flat (.slice 34)) (h ++ [.slot, .slot]) (.ob s3 5)).bind fun x5 =>
              ((ixV 4 x5 s5).bind fun p6 =>
                ((ldV (.agg [.str, .slice 5, .slice 9, .slice 3]) (h ++ [.slot, .slot]) p6).bind fun x7 =>
                  (cond (V.stays (h ++ [.slot, .slot]) (hj (heldOf p6 [.str, .slice 5, .slice 9, .slice 3] [.str x7.1, .sl 5 x7.2.1, .sl 9 x7.2.2.1, .sl 3 x7.2.2.2.1]) (hj [(.ob s3 5, .slice 34, .sl 34 x5)] (hj (heldOf p3 [.str, .slice 5, .slice 9, .slice 3] [.str x4.1, .sl 5 x4.2.1, .sl 9 x4.2.2.1, .sl 3 x4.2.2.2.1]) [(.ob s2 5, .slice 34, .sl 34 x2)]))))
                    ((slotD (h ++ [.slot, .slot]) h.length (34 + boxK) [.str ⟨#[]⟩, .sl 5 .nil, .sl 9 .nil, .sl 3 .nil]).bind fun h8 =>
                      (cond (V.stays h8 (hj (heldOf p6 [.str, .slice 5, .slice 9, .slice 3] [.str x7.1, .sl 5 x7.2.1, .sl 9 x7.2.2.1, .sl 3 x7.2.2.2.1]) (hj [(.ob s3 5, .slice 34, .sl 34 x5)] (hj (heldOf p3 [.str, .slice 5, .slice 9, .slice 3] [.str x4.1, .sl 5 x4.2.1, .sl 9 x4.2.2.1, .sl 3 x4.2.2.2.1]) [(.ob s2 5, .slice 34, .sl 34 x2)]))))
                        ((slotD h8 (h.length + 1) (34 + boxK) [.str ⟨#[]⟩, .sl 5 .nil, .sl 9 .nil, .sl 3 .nil]).bind fun h9 =>
                        ((stV h9 (.ob h.length 0) [.str x4.1, .sl 5 x4.2.1, .sl 9 x4.2.2.1, .sl 3 x4.2.2.2.1]).bind fun h10 =>
                        (cond (V.stays h10 (hj (heldOf p6 [.str, .slice 5, .slice 9, .slice 3] [.str x7.1, .sl 5 x7.2.1, .sl 9 x7.2.2.1, .sl 3 x7.2.2.2.1]) [(.ob s3 5, .slice 34, .sl 34 x5)]))
                        ((stV h10 (.ob (h.length + 1) 0) [.str x7.1, .sl 5 x7.2.1, .sl 9 x7.2.2.1, .sl 3 x7.2.2.2.1]).bind fun h11 =>
                        ((ldV (.flat .str) h11 (.ob h.length 0)).bind fun x12 =>
                        ((ldV (.flat .str) h11 (.ob (h.length + 1) 0)).bind fun x13 =>
                        (cond (!(strEq x12 x13))
                        (some (.bool false, h11))
                        ((ldV (.flat (.slice 5)) h11 (.ob h.length 1)).bind fun x14 =>
                        ((ldV (.flat (.slice 5)) h11 (.ob (h.length + 1) 1)).bind fun x15 =>
                        ((callD (vF P tab n) P false (.one (.flat .bool)) 18 [.sl 5 x14, .sl 5 x15] h11).bind fun r16 =>
                        (cond (!r16.1)
                        (some (.bool false, r16.2))
                        ((ldV (.flat (.slice 9)) r16.2 (.ob h.length 2)).bind fun x17 =>
                        ((ldV (.flat (.slice 9)) r16.2 (.ob (h.length + 1) 2)).bind fun x18 =>
                        ((callD (vF P tab n) P false (.one (.flat .bool)) 55 [.sl 9 x17, .sl 9 x18] r16.2).bind fun r19 =>
                        (cond (!r19.1)
                        (some (.bool false, r19.2))
                        ((ldV (.flat (.slice 3)) r19.2 (.ob h.length 3)).bind fun x20 =>
                        ((ldV (.flat (.slice 3)) r19.2 (.ob (h.length + 1) 3)).bind fun x21 =>
                        ((callD (vF P tab n) P false (.one (.flat .bool)) 56 [.sl 3 x20, .sl 3 x21] r19.2).bind fun r22 =>
                        (cond (!r22.1)
                        (some (.bool false, r22.2))
                        (L23_0 n m s2 s3 (IntKind.wrap .i64 (s5 + 1)) r22.2)))))))))))))))))
                        none)))
                        none))
                    none)))))))
      (some (.bool true, h)))) := by kernel_rfl
theorem f23_eq (n : Nat) (a0_0 : Int) (a0_1 : ByteArray) (a0_2 : ByteArray) (a0_3 : VS) (a0_4 : VS) (a0_5 : VS) (a1_0 : Int) (a1_1 : ByteArray) (a1_2 : ByteArray) (a1_3 : VS) (a1_4 : VS) (a1_5 : VS) (h : VH) : bodyV P tab (vF P tab n) n 23 [.agg [.int .u8 a0_0, .str a0_1, .str a0_2, .sl 5 a0_3, .sl 9 a0_4, .sl 34 a0_5], .agg [.int .u8 a1_0, .str a1_1, .str a1_2, .sl 5 a1_3, .sl 9 a1_4, .sl 34 a1_5]] h =
  ((ldV (.flat (.int .u8)) (List.append (α := VO) (h ++ [.row (31 + boxK) [.int .u8 a0_0, .str a0_1, .str a0_2, .sl 5 a0_3, .sl 9 a0_4, .sl 34 a0_5]]) [.row (31 + boxK) [.int .u8 a1_0, .str a1_1, .str a1_2, .sl 5 a1_3, .sl 9 a1_4, .sl 34 a1_5]]) (.ob h.length 0)).bind fun x1 =>
    ((ldV (.flat (.int .u8)) (List.append (α := VO) (h ++ [.row (31 + boxK) [.int .u8 a0_0, .str a0_1, .str a0_2, .sl 5 a0_3, .sl 9 a0_4, .sl 34 a0_5]]) [.row (31 + boxK) [.int .u8 a1_0, .str a1_1, .str a1_2, .sl 5 a1_3, .sl 9 a1_4, .sl 34 a1_5]]) (.ob (List.length ((h ++ [.row (31 + boxK) [.int .u8 a0_0, .str a0_1, .str a0_2, .sl 5 a0_3, .sl 9 a0_4, .sl 34 a0_5]]) : VH)) 0)).bind fun x2 =>
      (cond ((x1 : Int) != x2)
        (some (.bool false, (List.append (α := VO) (h ++ [.row (31 + boxK) [.int .u8 a0_0, .str a0_1, .str a0_2, .sl 5 a0_3, .sl 9 a0_4, .sl 34 a0_5]]) [.row (31 + boxK) [.int .u8 a1_0, .str a1_1, .str a1_2, .sl 5 a1_3, .sl 9 a1_4, .sl 34 a1_5]])))
        ((ldV (.flat .str) (List.append (α := VO) (h ++ [.row (31 + boxK) [.int .u8 a0_0, .str a0_1, .str a0_2, .sl 5 a0_3, .sl 9 a0_4, .sl 34 a0_5]]) [.row (31 + boxK) [.int .u8 a1_0, .str a1_1, .str a1_2, .sl 5 a1_3, .sl 9 a1_4, .sl 34 a1_5]]) (.ob h.length 1)).bind fun x3 =>
          ((ldV (.flat .str) (List.append (α := VO) (h ++ [.row (31 + boxK) [.int .u8 a0_0, .str a0_1, .str a0_2, .sl 5 a0_3, .sl 9 a0_4, .sl 34 a0_5]]) [.row (31 + boxK) [.int .u8 a1_0, .str a1_1, .str a1_2, .sl 5 a1_3, .sl 9 a1_4, .sl 34 a1_5]]) (.ob (List.length ((h ++ [.row (31 + boxK) [.int .u8 a0_0, .str a0_1, .str a0_2, .sl 5 a0_3, .sl 9 a0_4, .sl 34 a0_5]]) : VH)) 1)).bind fun x4 =>
            (cond (!(strEq x3 x4))
              (some (.bool false, (List.append (α := VO) (h ++ [.row (31 + boxK) [.int .u8 a0_0, .str a0_1, .str a0_2, .sl 5 a0_3, .sl 9 a0_4, .sl 34 a0_5]]) [.row (31 + boxK) [.int .u8 a1_0, .str a1_1, .str a1_2, .sl 5 a1_3, .sl 9 a1_4, .sl 34 a1_5]])))
              ((ldV (.flat .str) (List.append (α := VO) (h ++ [.row (31 + boxK) [.int .u8 a0_0, .str a0_1, .str a0_2, .sl 5 a0_3, .sl 9 a0_4, .sl 34 a0_5]]) [.row (31 + boxK) [.int .u8 a1_0, .str a1_1, .str a1_2, .sl 5 a1_3, .sl 9 a1_4, .sl 34 a1_5]]) (.ob h.length 2)).bind fun x5 =>
                ((ldV (.flat .str) (List.append (α := VO) (h ++ [.row (31 + boxK) [.int .u8 a0_0, .str a0_1, .str a0_2, .sl 5 a0_3, .sl 9 a0_4, .sl 34 a0_5]]) [.row (31 + boxK) [.int .u8 a1_0, .str a1_1, .str a1_2, .sl 5 a1_3, .sl 9 a1_4, .sl 34 a1_5]]) (.ob (List.length ((h ++ [.row (31 + boxK) [.int .u8 a0_0, .str a0_1, .str a0_2, .sl 5 a0_3, .sl 9 a0_4, .sl 34 a0_5]]) : VH)) 2)).bind fun x6 =>
                  (cond (!(strEq x5 x6))
                    (some (.bool false, (List.append (α := VO) (h ++ [.row (31 + boxK) [.int .u8 a0_0, .str a0_1, .str a0_2, .sl 5 a0_3, .sl 9 a0_4, .sl 34 a0_5]]) [.row (31 + boxK) [.int .u8 a1_0, .str a1_1, .str a1_2, .sl 5 a1_3, .sl 9 a1_4, .sl 34 a1_5]])))
                    ((ldV (.flat (.slice 5)) (List.append (α := VO) (h ++ [.row (31 + boxK) [.int .u8 a0_0, .str a0_1, .str a0_2, .sl 5 a0_3, .sl 9 a0_4, .sl 34 a0_5]]) [.row (31 + boxK) [.int .u8 a1_0, .str a1_1, .str a1_2, .sl 5 a1_3, .sl 9 a1_4, .sl 34 a1_5]]) (.ob h.length 3)).bind fun x7 =>
                      ((ldV (.flat (.slice 5)) (List.append (α := VO) (h ++ [.row (31 + boxK) [.int .u8 a0_0, .str a0_1, .str a0_2, .sl 5 a0_3, .sl 9 a0_4, .sl 34 a0_5]]) [.row (31 + boxK) [.int .u8 a1_0, .str a1_1, .str a1_2, .sl 5 a1_3, .sl 9 a1_4, .sl 34 a1_5]]) (.ob (List.length ((h ++ [.row (31 + boxK) [.int .u8 a0_0, .str a0_1, .str a0_2, .sl 5 a0_3, .sl 9 a0_4, .sl 34 a0_5]]) : VH)) 3)).bind fun x8 =>
                        ((callD (vF P tab n) P false (.one (.flat .bool)) 18 [.sl 5 x7, .sl 5 x8] (List.append (α := VO) (h ++ [.row (31 + boxK) [.int .u8 a0_0, .str a0_1, .str a0_2, .sl 5 a0_3, .sl 9 a0_4, .sl 34 a0_5]]) [.row (31 + boxK) [.int .u8 a1_0, .str a1_1, .str a1_2, .sl 5 a1_3, .sl 9 a1_4, .sl 34 a1_5]])).bind fun r9 =>
                        (cond (!r9.1)
                        (some (.bool false, r9.2))
                        ((ldV (.flat (.slice 9)) r9.2 (.ob h.length 4)).bind fun x10 =>
                        ((ldV (.flat (.slice 9)) r9.2 (.ob (List.length ((h ++ [.row (31 + boxK) [.int .u8 a0_0, .str a0_1, .str a0_2, .sl 5 a0_3, .sl 9 a0_4, .sl 34 a0_5]]) : VH)) 4)).bind fun x11 =>
                        ((callD (vF P tab n) P false (.one (.flat .bool)) 55 [.sl 9 x10, .sl 9 x11] r9.2).bind fun r12 =>
                        (cond (!r12.1)
                        (some (.bool false, r12.2))
                        ((ldV (.flat (.slice 34)) r12.2 (.ob h.length 5)).bind fun x13 =>
                        ((ldV (.flat (.slice 34)) r12.2 (.ob (List.length ((h ++ [.row (31 + boxK) [.int .u8 a0_0, .str a0_1, .str a0_2, .sl 5 a0_3, .sl 9 a0_4, .sl 34 a0_5]]) : VH)) 5)).bind fun x14 =>
                        (cond ((((VS.len x13 : Nat) : Int) : Int) != ((VS.len x14 : Nat) : Int))
                        (some (.bool false, r12.2))
                        (L23_0 n n h.length (List.length ((h ++ [.row (31 + boxK) [.int .u8 a0_0, .str a0_1, .str a0_2, .sl 5 a0_3, .sl 9 a0_4, .sl 34 a0_5]]) : VH)) 0 r12.2))))))))))))))))))))) := by kernel_rfl
/-! godown/request.EncodeReply -/
theorem f25_eq (n : Nat) (a0_0 : Int) (a0_1 : Bool) (a0_2 : Int) (a0_3 : Nat) (a0_4 : VS) (a0_5 : VS) (h : VH) : bodyV P tab (vF P tab n) n 25 [.agg [.int .i64 a0_0, .bool a0_1, .int .i64 a0_2, .flt .f64 a0_3, .sl 5 a0_4, .sl 9 a0_5]] h =
  ((ldV (.flat .bool) (h ++ [.row (66 + boxK) [.int .i64 a0_0, .bool a0_1, .int .i64 a0_2, .flt .f64 a0_3, .sl 5 a0_4, .sl 9 a0_5]]) (.ob h.length 1)).bind fun x1 =>
    (cond x1
      ((ldV (.flat (.int .i64)) (List.append (α := VO) (h ++ [.row (66 + boxK) [.int .i64 a0_0, .bool a0_1, .int .i64 a0_2, .flt .f64 a0_3, .sl 5 a0_4, .sl 9 a0_5]]) [.row (86 + boxK) [.sl 5 .nil]]) (.ob h.length 0)).bind fun x2 =>
        ((ldV (.flat (.int .i64)) (List.append (α := VO) (h ++ [.row (66 + boxK) [.int .i64 a0_0, .bool a0_1, .int .i64 a0_2, .flt .f64 a0_3, .sl 5 a0_4, .sl 9 a0_5]]) [.row (86 + boxK) [.sl 5 .nil]]) (.ob h.length 2)).bind fun x3 =>
          ((ldV (.flat (.flt .f64)) (List.append (α := VO) (h ++ [.row (66 + boxK) [.int .i64 a0_0, .bool a0_1, .int .i64 a0_2, .flt .f64 a0_3, .sl 5 a0_4, .sl 9 a0_5]]) [.row (86 + boxK) [.sl 5 .nil]]) (.ob h.length 3)).bind fun x4 =>
            ((ldV (.flat (.slice 5)) (List.append (α := VO) (h ++ [.row (66 + boxK) [.int .i64 a0_0, .bool a0_1, .int .i64 a0_2, .flt .f64 a0_3, .sl 5 a0_4, .sl 9 a0_5]]) [.row (86 + boxK) [.sl 5 .nil]]) (.ob h.length 4)).bind fun x5 =>
              ((strV (List.append (α := VO) (h ++ [.row (66 + boxK) [.int .i64 a0_0, .bool a0_1, .int .i64 a0_2, .flt .f64 a0_3, .sl 5 a0_4, .sl 9 a0_5]]) [.row (86 + boxK) [.sl 5 .nil]]) 5 x5).bind fun z6 =>
                ((ldV (.flat (.slice 9)) (List.append (α := VO) (h ++ [.row (66 + boxK) [.int .i64 a0_0, .bool a0_1, .int .i64 a0_2, .flt .f64 a0_3, .sl 5 a0_4, .sl 9 a0_5]]) [.row (86 + boxK) [.sl 5 .nil]]) (.ob h.length 5)).bind fun x7 =>
                  ((callD (vF P tab n) P false (.one (.flat .ptr)) 43 [.ptr (.ob (List.length ((h ++ [.row (66 + boxK) [.int .i64 a0_0, .bool a0_1, .int .i64 a0_2, .flt .f64 a0_3, .sl 5 a0_4, .sl 9 a0_5]]) : VH)) 0), .int .u8 (IntKind.wrap .u8 x2)] (List.append (α := VO) (h ++ [.row (66 + boxK) [.int .i64 a0_0, .bool a0_1, .int .i64 a0_2, .flt .f64 a0_3, .sl 5 a0_4, .sl 9 a0_5]]) [.row (86 + boxK) [.sl 5 .nil]])).bind fun r8 =>
                    (cond (V.stays r8.2 (hj [(.ob h.length 5, .slice 9, .sl 9 x7)] (hj (heldStr (List.append (α := VO) (h ++ [.row (66 + boxK) [.int .i64 a0_0, .bool a0_1, .int .i64 a0_2, .flt .f64 a0_3, .sl 5 a0_4, .sl 9 a0_5]]) [.row (86 + boxK) [.sl 5 .nil]]) x5) [(.ob h.length 4, .slice 5, .sl 5 x5), (.ob h.length 3, .flt .f64, .flt .f64 x4), (.ob h.length 2, .int .i64, .int .i64 x3), (.ob h.length 0, .int .i64, .int .i64 x2)])))
                      ((callD (vF P tab n) P false (.one (.flat .ptr)) 43 [.ptr r8.1, .int .u8 1] r8.2).bind fun r9 =>
                        (cond (V.stays r9.2 (hj [(.ob h.length 5, .slice 9, .sl 9 x7)] (hj (heldStr (List.append (α := VO) (h ++ [.row (66 + boxK) [.int .i64 a0_0, .bool a0_1, .int .i64 a0_2, .flt .f64 a0_3, .sl 5 a0_4, .sl 9 a0_5]]) [.row (86 + boxK) [.sl 5 .nil]]) x5) [(.ob h.length 4, .slice 5, .sl 5 x5), (.ob h.length 3, .flt .f64, .flt .f64 x4), (.ob h.length 2, .int .i64, .int .i64 x3), (.ob h.length 0, .int .i64, .int .i64 x2)])))
                        ((callD (vF P tab n) P false (.one (.flat .ptr)) 57 [.ptr r9.1, .int .i64 x3] r9.2).bind fun r10 =>
                        (cond (V.stays r10.2 (hj [(.ob h.length 5, .slice 9, .sl 9 x7)] (hj (heldStr (List.append (α := VO) (h ++ [.row (66 + boxK) [.int .i64 a0_0, .bool a0_1, .int .i64 a0_2, .flt .f64 a0_3, .sl 5 a0_4, .sl 9 a0_5]]) [.row (86 + boxK) [.sl 5 .nil]]) x5) [(.ob h.length 4, .slice 5, .sl 5 x5), (.ob h.length 3, .flt .f64, .flt .f64 x4), (.ob h.length 0, .int .i64, .int .i64 x2)])))
                        ((callD (vF P tab n) P false (.one (.flat (.int .u64))) 59 [.flt .f64 x4] r10.2).bind fun r11 =>
                        (cond (V.stays r11.2 (hj [(.ob h.length 5, .slice 9, .sl 9 x7)] (hj (heldStr (List.append (α := VO) (h ++ [.row (66 + boxK) [.int .i64 a0_0, .bool a0_1, .int .i64 a0_2, .flt .f64 a0_3, .sl 5 a0_4, .sl 9 a0_5]]) [.row (86 + boxK) [.sl 5 .nil]]) x5) [(.ob h.length 4, .slice 5, .sl 5 x5), (.ob h.length 2, .int .i64, .int .i64 x3), (.ob h.length 0, .int .i64, .int .i64 x2)])))
                        ((callD (vF P tab n) P false (.one (.flat .ptr)) 58 [.ptr r10.1, .int .u64 r11.1] r11.2).bind fun r12 =>
                        (cond (V.stays r12.2 (hj [(.ob h.length 5, .slice 9, .sl 9 x7)] (hj (heldStr (List.append (α := VO) (h ++ [.row (66 + boxK) [.int .i64 a0_0, .bool a0_1, .int .i64 a0_2, .flt .f64 a0_3, .sl 5 a0_4, .sl 9 a0_5]]) [.row (86 + boxK) [.sl 5 .nil]]) x5) [(.ob h.length 4, .slice 5, .sl 5 x5), (.ob h.length 3, .flt .f64, .flt .f64 x4), (.ob h.length 2, .int .i64, .int .i64 x3), (.ob h.length 0, .int .i64, .int .i64 x2)])))
                        ((callD (vF P tab n) P false (.one (.flat .ptr)) 44 [.ptr r12.1, .str z6] r12.2).bind fun r13 =>
                        (cond (V.stays r13.2 [(.ob h.length 5, .slice 9, .sl 9 x7), (.ob h.length 4, .slice 5, .sl 5 x5), (.ob h.length 3, .flt .f64, .flt .f64 x4), (.ob h.length 2, .int .i64, .int .i64 x3), (.ob h.length 0, .int .i64, .int .i64 x2)])
                        ((callD (vF P tab n) P false (.one (.flat .ptr)) 45 [.ptr r13.1, .sl 9 x7] r13.2).bind fun r14 =>
                        (cond (V.stays r14.2 (hj (heldStr (List.append (α := VO) (h ++ [.row (66 + boxK) [.int .i64 a0_0, .bool a0_1, .int .i64 a0_2, .flt .f64 a0_3, .sl 5 a0_4, .sl 9 a0_5]]) [.row (86 + boxK) [.sl 5 .nil]]) x5) [(.ob h.length 4, .slice 5, .sl 5 x5), (.ob h.length 3, .flt .f64, .flt .f64 x4), (.ob h.length 2, .int .i64, .int .i64 x3), (.ob h.length 0, .int .i64, .int .i64 x2)]))
                        ((callD (vF P tab n) P false (.one (.flat (.slice 5))) 46 [.ptr r14.1] r14.2).bind fun r15 =>
                        (cond (V.stays r15.2 (hj [(.ob h.length 5, .slice 9, .sl 9 x7)] (hj (heldStr (List.append (α := VO) (h ++ [.row (66 + boxK) [.int .i64 a0_0, .bool a0_1, .int .i64 a0_2, .flt .f64 a0_3, .sl 5 a0_4, .sl 9 a0_5]]) [.row (86 + boxK) [.sl 5 .nil]]) x5) [(.ob h.length 4, .slice 5, .sl 5 x5), (.ob h.length 3, .flt .f64, .flt .f64 x4), (.ob h.length 2, .int .i64, .int .i64 x3), (.ob h.length 0, .int .i64, .int .i64 x2)])))
                        (some (.sl 5 r15.1, r15.2))
                        none))
                        none))
                        none))
                        none))
                        none))
                        none))
                        none))
                      none))))))))
      ((ldV (.flat (.int .i64)) (List.append (α := VO) (h ++ [.row (66 + boxK) [.int .i64 a0_0, .bool a0_1, .int .i64 a0_2, .flt .f64 a0_3, .sl 5 a0_4, .sl 9 a0_5]]) [.row (86 + boxK) [.sl 5 .nil]]) (.ob h.length 0)).bind fun x16 =>
        ((ldV (.flat (.int .i64)) (List.append (α := VO) (h ++ [.row (66 + boxK) [.int .i64 a0_0, .bool a0_1, .int .i64 a0_2, .flt .f64 a0_3, .sl 5 a0_4, .sl 9 a0_5]]) [.row (86 + boxK) [.sl 5 .nil]]) (.ob h.length 2)).bind fun x17 =>
          ((ldV (.flat (.flt .f64)) (List.append (α := VO) (h ++ [.row (66 + boxK) [.int .i64 a0_0, .bool a0_1, .int .i64 a0_2, .flt .f64 a0_3, .sl 5 a0_4, .sl 9 a0_5]]) [.row (86 + boxK) [.sl 5 .nil]]) (.ob h.length 3)).bind fun x18 =>
            ((ldV (.flat (.slice 5)) (List.append (α := VO) (h ++ [.row (66 + boxK) [.int .i64 a0_0, .bool a0_1, .int .i64 a0_2, .flt .f64 a0_3, .sl 5 a0_4, .sl 9 a0_5]]) [.row (86 + boxK) [.sl 5 .nil]]) (.ob h.length 4)).bind fun x19 =>
              ((strV (List.append (α := VO) (h ++ [.row (66 + boxK) [.int .i64 a0_0, .bool a0_1, .int .i64 a0_2, .flt .f64 a0_3, .sl 5 a0_4, .sl 9 a0_5]]) [.row (86 + boxK) [.sl 5 .nil]]) 5 x19).bind fun z20 =>
                ((ldV (.flat (.slice 9)) (List.append (α := VO) (h ++ [.row (66 + boxK) [.int .i64 a0_0, .bool a0_1, .int .i64 a0_2, .flt .f64 a0_3, .sl 5 a0_4, .sl 9 a0_5]]) [.row (86 + boxK) [.sl 5 .nil]]) (.ob h.length 5)).bind fun x21 =>
                  ((callD (vF P tab n) P false (.one (.flat .ptr)) 43 [.ptr (.ob (List.length ((h ++ [.row (66 + boxK) [.int .i64 a0_0, .bool a0_1, .int .i64 a0_2, .flt .f64 a0_3, .sl 5 a0_4, .sl 9 a0_5]]) : VH)) 0), .int .u8 (IntKind.wrap .u8 x16)] (List.append (α := VO) (h ++ [.row (66 + boxK) [.int .i64 a0_0, .bool a0_1, .int .i64 a0_2, .flt .f64 a0_3, .sl 5 a0_4, .sl 9 a0_5]]) [.row (86 + boxK) [.sl 5 .nil]])).bind fun r22 =>
                    (cond (V.stays r22.2 (hj [(.ob h.length 5, .slice 9, .sl 9 x21)] (hj (heldStr (List.append (α := VO) (h ++ [.row (66 + boxK) [.int .i64 a0_0, .bool a0_1, .int .i64 a0_2, .flt .f64 a0_3, .sl 5 a0_4, .sl 9 a0_5]]) [.row (86 + boxK) [.sl 5 .nil]]) x19) [(.ob h.length 4, .slice 5, .sl 5 x19), (.ob h.length 3, .flt .f64, .flt .f64 x18), (.ob h.length 2, .int .i64, .int .i64 x17), (.ob h.length 0, .int .i64, .int .i64 x16)])))
                      ((callD (vF P tab n) P false (.one (.flat .ptr)) 43 [.ptr r22.1, .int .u8 0] r22.2).bind fun r23 =>
                        (cond (V.stays r23.2 (hj [(.ob h.length 5, .slice 9, .sl 9 x21)] (hj (heldStr (List.append (α := VO) (h ++ [.row (66 + boxK) [.int .i64 a0_0, .bool a0_1, .int .i64 a0_2, .flt .f64 a0_3, .sl 5 a0_4, .sl 9 a0_5]]) [.row (86 + boxK) [.sl 5 .nil]]) x19) [(.ob h.length 4, .slice 5, .sl 5 x19), (.ob h.length 3, .flt .f64, .flt .f64 x18), (.ob h.length 2, .int .i64, .int .i64 x17), (.ob h.length 0, .int .i64, .int .i64 x16)])))
                        ((callD (vF P tab n) P false (.one (.flat .ptr)) 57 [.ptr r23.1, .int .i64 x17] r23.2).bind fun r24 =>
                        (cond (V.stays r24.2 (hj [(.ob h.length 5, .slice 9, .sl 9 x21)] (hj (heldStr (List.append (α := VO) (h ++ [.row (66 + boxK) [.int .i64 a0_0, .bool a0_1, .int .i64 a0_2, .flt .f64 a0_3, .sl 5 a0_4, .sl 9 a0_5]]) [.row (86 + boxK) [.sl 5 .nil]]) x19) [(.ob h.length 4, .slice 5, .sl 5 x19), (.ob h.length 3, .flt .f64, .flt .f64 x18), (.ob h.length 0, .int .i64, .int .i64 x16)])))
                        ((callD (vF P tab n) P false (.one (.flat (.int .u64))) 59 [.flt .f64 x18] r24.2).bind fun r25 =>
                        (cond (V.stays r25.2 (hj [(.ob h.length 5, .slice 9, .sl 9 x21)] (hj (heldStr (List.append (α := VO) (h ++ [.row (66 + boxK) [.int .i64 a0_0, .bool a0_1, .int .i64 a0_2, .flt .f64 a0_3, .sl 5 a0_4, .sl 9 a0_5]]) [.row (86 + boxK) [.sl 5 .nil]]) x19) [(.ob h.length 4, .slice 5, .sl 5 x19), (.ob h.length 2, .int .i64, .int .i64 x17), (.ob h.length 0, .int .i64, .int .i64 x16)])))
                        ((callD (vF P tab n) P false (.one (.flat .ptr)) 58 [.ptr r24.1, .int .u64 r25.1] r25.2).bind fun r26 =>
                        (cond (V.stays r26.2 (hj [(.ob h.length 5, .slice 9, .sl 9 x21)] (hj (heldStr (List.append (α := VO) (h ++ [.row (66 + boxK) [.int .i64 a0_0, .bool a0_1, .int .i64 a0_2, .flt .f64 a0_3, .sl 5 a0_4, .sl 9 a0_5]]) [.row (86 + boxK) [.sl 5 .nil]]) x19) [(.ob h.length 4, .slice 5, .sl 5 x19), (.ob h.length 3, .flt .f64, .flt .f64 x18), (.ob h.length 2, .int .i64, .int .i64 x17), (.ob h.length 0, .int .i64, .int .i64 x16)])))
                        ((callD (vF P tab n) P false (.one (.flat .ptr)) 44 [.ptr r26.1, .str z20] r26.2).bind fun r27 =>
                        (cond (V.stays r27.2 [(.ob h.length 5, .slice 9, .sl 9 x21), (.ob h.length 4, .slice 5, .sl 5 x19), (.ob h.length 3, .flt .f64, .flt .f64 x18), (.ob h.length 2, .int .i64, .int .i64 x17), (.ob h.length 0, .int .i64, .int .i64 x16)])
                        ((callD (vF P tab n) P false (.one (.flat .ptr)) 45 [.ptr r27.1, .sl 9 x21] r27.2).bind fun r28 =>
                        (cond (V.stays r28.2 (hj (heldStr (List.append (α := VO) (h ++ [.row (66 + boxK) [.int .i64 a0_0, .bool a0_1, .int .i64 a0_2, .flt .f64 a0_3, .sl 5 a0_4, .sl 9 a0_5]]) [.row (86 + boxK) [.sl 5 .nil]]) x19) [(.ob h.length 4, .slice 5, .sl 5 x19), (.ob h.length 3, .flt .f64, .flt .f64 x18), (.ob h.length 2, .int .i64, .int .i64 x17), (.ob h.length 0, .int .i64, .int .i64 x16)]))
                        ((callD (vF P tab n) P false (.one (.flat (.slice 5))) 46 [.ptr r28.1] r28.2).bind fun r29 =>
                        (cond (V.stays r29.2 (hj [(.ob h.length 5, .slice 9, .sl 9 x21)] (hj (heldStr (List.append (α := VO) (h ++ [.row (66 + boxK) [.int .i64 a0_0, .bool a0_1, .int .i64 a0_2, .flt .f64 a0_3, .sl 5 a0_4, .sl 9 a0_5]]) [.row (86 + boxK) [.sl 5 .nil]]) x19) [(.ob h.length 4, .slice 5, .sl 5 x19), (.ob h.length 3, .flt .f64, .flt .f64 x18), (.ob h.length 2, .int .i64, .int .i64 x17), (.ob h.length 0, .int .i64, .int .i64 x16)])))
                        (some (.sl 5 r29.1, r29.2))
                        none))
                        none))
                        none))
                        none))
                        none))
                        none))
                        none))
                      none)))))))))) := by kernel_rfl
/-! godown/request.DecodeReply -/
theorem f26_eq (n : Nat) (a0 : VS) (h : VH) : bodyV P tab (vF P tab n) n 26 [.sl 5 a0] h =
  ((callD (vF P tab n) P false (.one (.flat .ptr)) 33 [.sl 5 a0] (h ++ [.row (66 + boxK) [.int .i64 0, .bool false, .int .i64 0, .flt .f64 0, .sl 5 .nil, .sl 9 .nil]])).bind fun r1 =>
    ((callD (vF P tab n) P false (.one (.flat (.int .u8))) 34 [.ptr r1.1] r1.2).bind fun r2 =>
      ((stV (r2.2 ++ [.row (66 + boxK) [.int .i64 0, .bool false, .int .i64 0, .flt .f64 0, .sl 5 .nil, .sl 9 .nil]]) (.ob r2.2.length 0) [.int .i64 (IntKind.wrap .i64 r2.1), .bool false, .int .i64 0, .flt .f64 0, .sl 5 .nil, .sl 9 .nil]).bind fun h3 =>
        ((callD (vF P tab n) P false (.one (.flat (.int .u8))) 34 [.ptr r1.1] h3).bind fun r4 =>
          ((callD (vF P tab n) P false (.one (.flat (.int .i64))) 60 [.ptr r1.1] r4.2).bind fun r5 =>
            ((stV r5.2 (.ob r2.2.length 1) [.bool ((r4.1 : Int) == 1)]).bind fun h6 =>
              ((stV h6 (.ob r2.2.length 2) [.int .i64 r5.1]).bind fun h7 =>
                ((callD (vF P tab n) P false (.one (.flat (.int .u64))) 62 [.ptr r1.1] h7).bind fun r8 =>
                  ((callD (vF P tab n) P false (.tup [(.flat (.flt .f64)), (.flat (.int .i64))]) 61 [.int .u64 r8.1] r8.2).bind fun r9 =>
                    ((callD (vF P tab n) P false (.one (.flat (.slice 5))) 36 [.ptr r1.1] r9.2).bind fun r10 =>
                      ((callD (vF P tab n) P false (.one (.flat (.slice 9))) 37 [.ptr r1.1, .int .i64 255] r10.2).bind fun r11 =>
                        ((stV r11.2 (.ob r2.2.length 3) [.flt .f64 r9.1.1]).bind fun h12 =>
                        ((stV h12 (.ob r2.2.length 4) [.sl 5 r10.1]).bind fun h13 =>
                        ((stV h13 (.ob r2.2.length 5) [.sl 9 r11.1]).bind fun h14 =>
                        (cond ((r9.1.2.1 : Int) != 0)
                        ((stV h14 (.ob h.length 0) [.int .i64 0, .bool false, .int .i64 0, .flt .f64 0, .sl 5 .nil, .sl 9 .nil]).bind fun h15 =>
                        (((ldV (.agg [.int .i64, .bool, .int .i64, .flt .f64, .slice 5, .slice 9]) h15 (.ob h.length 0)).bind fun x16 =>
                        some (.tup [.agg [.int .i64 x16.1, .bool x16.2.1, .int .i64 x16.2.2.1, .flt .f64 x16.2.2.2.1, .sl 5 x16.2.2.2.2.1, .sl 9 x16.2.2.2.2.2.1], .int .i64 2], h15))))
                        (cond (decide ((r4.1 : Int) > 1))
                        ((stV h14 (.ob h.length 0) [.int .i64 0, .bool false, .int .i64 0, .flt .f64 0, .sl 5 .nil, .sl 9 .nil]).bind fun h17 =>
                        (((ldV (.agg [.int .i64, .bool, .int .i64, .flt .f64, .slice 5, .slice 9]) h17 (.ob h.length 0)).bind fun x18 =>
                        some (.tup [.agg [.int .i64 x18.1, .bool x18.2.1, .int .i64 x18.2.2.1, .flt .f64 x18.2.2.2.1, .sl 5 x18.2.2.2.2.1, .sl 9 x18.2.2.2.2.2.1], .int .i64 2], h17))))
                        ((callD (vF P tab n) P false (.one (.flat (.int .i64))) 40 [.ptr r1.1] h14).bind fun r19 =>
                        (cond ((r19.1 : Int) != 0)
                        ((stV r19.2 (.ob h.length 0) [.int .i64 0, .bool false, .int .i64 0, .flt .f64 0, .sl 5 .nil, .sl 9 .nil]).bind fun h20 =>
                        (((ldV (.agg [.int .i64, .bool, .int .i64, .flt .f64, .slice 5, .slice 9]) h20 (.ob h.length 0)).bind fun x21 =>
                        some (.tup [.agg [.int .i64 x21.1, .bool x21.2.1, .int .i64 x21.2.2.1, .flt .f64 x21.2.2.2.1, .sl 5 x21.2.2.2.2.1, .sl 9 x21.2.2.2.2.2.1], .int .i64 2], h20))))
                        ((ldV (.agg [.int .i64, .bool, .int .i64, .flt .f64, .slice 5, .slice 9]) r19.2 (.ob r2.2.length 0)).bind fun x22 =>
                        ((stV r19.2 (.ob h.length 0) [.int .i64 x22.1, .bool x22.2.1, .int .i64 x22.2.2.1, .flt .f64 x22.2.2.2.1, .sl 5 x22.2.2.2.2.1, .sl 9 x22.2.2.2.2.2.1]).bind fun h23 =>
                        (((ldV (.agg [.int .i64, .bool, .int .i64, .flt .f64, .slice 5, .slice 9]) h23 (.ob h.length 0)).bind fun x24 =>
                        some (.tup [.agg [.int .i64 x24.1, .bool x24.2.1, .int .i64 x24.2.2.1, .flt .f64 x24.2.2.2.1, .sl 5 x24.2.2.2.2.1, .sl 9 x24.2.2.2.2.2.1], .int .i64 0], h23))))))))))))))))))))))) := by kernel_rfl
/-! godown/godownref11.EncodeReply -/
theorem f27_eq (n : Nat) (a0_0 : Int) (a0_1 : Bool) (a0_2 : Int) (a0_3 : Nat) (a0_4 : VS) (a0_5 : VS) (h : VH) : bodyV P tab (vF P tab n) n 27 [.agg [.int .i64 a0_0, .bool a0_1, .int .i64 a0_2, .flt .f64 a0_3, .sl 5 a0_4, .sl 9 a0_5]] h =
  ((ldV (.flat (.int .i64)) (h ++ [.row (66 + boxK) [.int .i64 a0_0, .bool a0_1, .int .i64 a0_2, .flt .f64 a0_3, .sl 5 a0_4, .sl 9 a0_5]]) (.ob h.length 0)).bind fun x1 =>
    ((ldV (.flat .bool) (List.append (α := VO) (h ++ [.row (66 + boxK) [.int .i64 a0_0, .bool a0_1, .int .i64 a0_2, .flt .f64 a0_3, .sl 5 a0_4, .sl 9 a0_5]]) [.row 5 [.int .u8 (IntKind.wrap .u8 x1), .int .u8 0]]) (.ob h.length 1)).bind fun x2 =>
      (cond x2
        ((ixV 1 (.hp (List.length ((h ++ [.row (66 + boxK) [.int .i64 a0_0, .bool a0_1, .int .i64 a0_2, .flt .f64 a0_3, .sl 5 a0_4, .sl 9 a0_5]]) : VH)) 0 2) 1).bind fun p3 =>
          ((stV (List.append (α := VO) (h ++ [.row (66 + boxK) [.int .i64 a0_0, .bool a0_1, .int .i64 a0_2, .flt .f64 a0_3, .sl 5 a0_4, .sl 9 a0_5]]) [.row 5 [.int .u8 (IntKind.wrap .u8 x1), .int .u8 0]]) p3 [.int .u8 1]).bind fun h4 =>
            ((ldV (.flat (.int .i64)) h4 (.ob h.length 2)).bind fun x5 =>
              ((callD (vF P tab n) P false (.one (.flat (.slice 5))) 32 [.int .i64 x5] h4).bind fun r6 =>
                ((appD false r6.2 1 1 5 (.hp (List.length ((h ++ [.row (66 + boxK) [.int .i64 a0_0, .bool a0_1, .int .i64 a0_2, .flt .f64 a0_3, .sl 5 a0_4, .sl 9 a0_5]]) : VH)) 0 2) r6.1).bind fun r7 =>
                  ((ldV (.flat (.flt .f64)) r7.2 (.ob h.length 3)).bind fun x8 =>
                    ((callD (vF P tab n) P false (.one (.flat (.int .u64))) 64 [.flt .f64 x8] r7.2).bind fun r9 =>
                      ((callD (vF P tab n) P false (.one (.flat (.slice 5))) 63 [.int .u64 r9.1] r9.2).bind fun r10 =>
                        ((appD false r10.2 1 1 5 r7.1 r10.1).bind fun r11 =>
                        ((ldV (.flat (.slice 5)) r11.2 (.ob h.length 4)).bind fun x12 =>
                        ((strV r11.2 5 x12).bind fun z13 =>
                        ((callD (vF P tab n) P false (.one (.flat (.slice 5))) 13 [.str z13] r11.2).bind fun r14 =>
                        ((appD false r14.2 1 1 5 r11.1 r14.1).bind fun r15 =>
                        ((ldV (.flat (.slice 9)) r15.2 (.ob h.length 5)).bind fun x16 =>
                        ((callD (vF P tab n) P false (.one (.flat (.slice 5))) 41 [.sl 9 x16] r15.2).bind fun r17 =>
                        ((appD false r17.2 1 1 5 r15.1 r17.1).bind fun r18 =>
                        (some (.sl 5 r18.1, r18.2))))))))))))))))))
        ((ldV (.flat (.int .i64)) (List.append (α := VO) (h ++ [.row (66 + boxK) [.int .i64 a0_0, .bool a0_1, .int .i64 a0_2, .flt .f64 a0_3, .sl 5 a0_4, .sl 9 a0_5]]) [.row 5 [.int .u8 (IntKind.wrap .u8 x1), .int .u8 0]]) (.ob h.length 2)).bind fun x19 =>
          ((callD (vF P tab n) P false (.one (.flat (.slice 5))) 32 [.int .i64 x19] (List.append (α := VO) (h ++ [.row (66 + boxK) [.int .i64 a0_0, .bool a0_1, .int .i64 a0_2, .flt .f64 a0_3, .sl 5 a0_4, .sl 9 a0_5]]) [.row 5 [.int .u8 (IntKind.wrap .u8 x1), .int .u8 0]])).bind fun r20 =>
            ((appD false r20.2 1 1 5 (.hp (List.length ((h ++ [.row (66 + boxK) [.int .i64 a0_0, .bool a0_1, .int .i64 a0_2, .flt .f64 a0_3, .sl 5 a0_4, .sl 9 a0_5]]) : VH)) 0 2) r20.1).bind fun r21 =>
              ((ldV (.flat (.flt .f64)) r21.2 (.ob h.length 3)).bind fun x22 =>
                ((callD (vF P tab n) P false (.one (.flat (.int .u64))) 64 [.flt .f64 x22] r21.2).bind fun r23 =>
                  ((callD (vF P tab n) P false (.one (.flat (.slice 5))) 63 [.int .u64 r23.1] r23.2).bind fun r24 =>
                    ((appD false r24.2 1 1 5 r21.1 r24.1).bind fun r25 =>
                      ((ldV (.flat (.slice 5)) r25.2 (.ob h.length 4)).bind fun x26 =>
                        ((strV r25.2 5 x26).bind fun z27 =>
                        ((callD (vF P tab n) P false (.one (.flat (.slice 5))) 13 [.str z27] r25.2).bind fun r28 =>
                        ((appD false r28.2 1 1 5 r25.1 r28.1).bind fun r29 =>
                        ((ldV (.flat (.slice 9)) r29.2 (.ob h.length 5)).bind fun x30 =>
                        ((callD (vF P tab n) P false (.one (.flat (.slice 5))) 41 [.sl 9 x30] r29.2).bind fun r31 =>
                        ((appD false r31.2 1 1 5 r29.1 r31.1).bind fun r32 =>
                        (some (.sl 5 r32.1, r32.2))))))))))))))))))) := by kernel_rfl
/-! godown/request.Same -/
theorem f28_eq (n : Nat) (a0_0 : Int) (a0_1 : Bool) (a0_2 : Int) (a0_3 : Nat) (a0_4 : VS) (a0_5 : VS) (a1_0 : Int) (a1_1 : Bool) (a1_2 : Int) (a1_3 : Nat) (a1_4 : VS) (a1_5 : VS) (h : VH) : bodyV P tab (vF P tab n) n 28 [.agg [.int .i64 a0_0, .bool a0_1, .int .i64 a0_2, .flt .f64 a0_3, .sl 5 a0_4, .sl 9 a0_5], .agg [.int .i64 a1_0, .bool a1_1, .int .i64 a1_2, .flt .f64 a1_3, .sl 5 a1_4, .sl 9 a1_5]] h =
  ((ldV (.flat (.int .i64)) (List.append (α := VO) (h ++ [.row (66 + boxK) [.int .i64 a0_0, .bool a0_1, .int .i64 a0_2, .flt .f64 a0_3, .sl 5 a0_4, .sl 9 a0_5]]) [.row (66 + boxK) [.int .i64 a1_0, .bool a1_1, .int .i64 a1_2, .flt .f64 a1_3, .sl 5 a1_4, .sl 9 a1_5]]) (.ob h.length 0)).bind fun x1 =>
    ((ldV (.flat (.int .i64)) (List.append (α := VO) (h ++ [.row (66 + boxK) [.int .i64 a0_0, .bool a0_1, .int .i64 a0_2, .flt .f64 a0_3, .sl 5 a0_4, .sl 9 a0_5]]) [.row (66 + boxK) [.int .i64 a1_0, .bool a1_1, .int .i64 a1_2, .flt .f64 a1_3, .sl 5 a1_4, .sl 9 a1_5]]) (.ob (List.length ((h ++ [.row (66 + boxK) [.int .i64 a0_0, .bool a0_1, .int .i64 a0_2, .flt .f64 a0_3, .sl 5 a0_4, .sl 9 a0_5]]) : VH)) 0)).bind fun x2 =>
      (cond ((x1 : Int) == x2)
        ((ldV (.flat .bool) (List.append (α := VO) (h ++ [.row (66 + boxK) [.int .i64 a0_0, .bool a0_1, .int .i64 a0_2, .flt .f64 a0_3, .sl 5 a0_4, .sl 9 a0_5]]) [.row (66 + boxK) [.int .i64 a1_0, .bool a1_1, .int .i64 a1_2, .flt .f64 a1_3, .sl 5 a1_4, .sl 9 a1_5]]) (.ob h.length 1)).bind fun x3 =>
          ((ldV (.flat .bool) (List.append (α := VO) (h ++ [.row (66 + boxK) [.int .i64 a0_0, .bool a0_1, .int .i64 a0_2, .flt .f64 a0_3, .sl 5 a0_4, .sl 9 a0_5]]) [.row (66 + boxK) [.int .i64 a1_0, .bool a1_1, .int .i64 a1_2, .flt .f64 a1_3, .sl 5 a1_4, .sl 9 a1_5]]) (.ob (List.length ((h ++ [.row (66 + boxK) [.int .i64 a0_0, .bool a0_1, .int .i64 a0_2, .flt .f64 a0_3, .sl 5 a0_4, .sl 9 a0_5]]) : VH)) 1)).bind fun x4 =>
            (cond (x3 == x4)
              ((ldV (.flat (.int .i64)) (List.append (α := VO) (h ++ [.row (66 + boxK) [.int .i64 a0_0, .bool a0_1, .int .i64 a0_2, .flt .f64 a0_3, .sl 5 a0_4, .sl 9 a0_5]]) [.row (66 + boxK) [.int .i64 a1_0, .bool a1_1, .int .i64 a1_2, .flt .f64 a1_3, .sl 5 a1_4, .sl 9 a1_5]]) (.ob h.length 2)).bind fun x5 =>
                ((ldV (.flat (.int .i64)) (List.append (α := VO) (h ++ [.row (66 + boxK) [.int .i64 a0_0, .bool a0_1, .int .i64 a0_2, .flt .f64 a0_3, .sl 5 a0_4, .sl 9 a0_5]]) [.row (66 + boxK) [.int .i64 a1_0, .bool a1_1, .int .i64 a1_2, .flt .f64 a1_3, .sl 5 a1_4, .sl 9 a1_5]]) (.ob (List.length ((h ++ [.row (66 + boxK) [.int .i64 a0_0, .bool a0_1, .int .i64 a0_2, .flt .f64 a0_3, .sl 5 a0_4, .sl 9 a0_5]]) : VH)) 2)).bind fun x6 =>
                  (cond ((x5 : Int) == x6)
                    ((ldV (.flat (.flt .f64)) (List.append (α := VO) (h ++ [.row (66 + boxK) [.int .i64 a0_0, .bool a0_1, .int .i64 a0_2, .flt .f64 a0_3, .sl 5 a0_4, .sl 9 a0_5]]) [.row (66 + boxK) [.int .i64 a1_0, .bool a1_1, .int .i64 a1_2, .flt .f64 a1_3, .sl 5 a1_4, .sl 9 a1_5]]) (.ob h.length 3)).bind fun x7 =>
                      ((ldV (.flat (.flt .f64)) (List.append (α := VO) (h ++ [.row (66 + boxK) [.int .i64 a0_0, .bool a0_1, .int .i64 a0_2, .flt .f64 a0_3, .sl 5 a0_4, .sl 9 a0_5]]) [.row (66 + boxK) [.int .i64 a1_0, .bool a1_1, .int .i64 a1_2, .flt .f64 a1_3, .sl 5 a1_4, .sl 9 a1_5]]) (.ob (List.length ((h ++ [.row (66 + boxK) [.int .i64 a0_0, .bool a0_1, .int .i64 a0_2, .flt .f64 a0_3, .sl 5 a0_4, .sl 9 a0_5]]) : VH)) 3)).bind fun x8 =>
                        ((callD (vF P tab n) P false (.one (.flat .bool)) 65 [.flt .f64 x7, .flt .f64 x8] (List.append (α := VO) (h ++ [.row (66 + boxK) [.int .i64 a0_0, .bool a0_1, .int .i64 a0_2, .flt .f64 a0_3, .sl 5 a0_4, .sl 9 a0_5]]) [.row (66 + boxK) [.int .i64 a1_0, .bool a1_1, .int .i64 a1_2, .flt .f64 a1_3, .sl 5 a1_4, .sl 9 a1_5]])).bind fun r9 =>
                        (cond r9.1
                        ((ldV (.flat (.slice 5)) r9.2 (.ob h.length 4)).bind fun x10 =>
                        ((ldV (.flat (.slice 5)) r9.2 (.ob (List.length ((h ++ [.row (66 + boxK) [.int .i64 a0_0, .bool a0_1, .int .i64 a0_2, .flt .f64 a0_3, .sl 5 a0_4, .sl 9 a0_5]]) : VH)) 4)).bind fun x11 =>
                        ((callD (vF P tab n) P false (.one (.flat .bool)) 66 [.sl 5 x10, .sl 5 x11] r9.2).bind fun r12 =>
                        (cond r12.1
                        ((ldV (.flat (.slice 9)) r12.2 (.ob h.length 5)).bind fun x13 =>
                        ((ldV (.flat (.slice 9)) r12.2 (.ob (List.length ((h ++ [.row (66 + boxK) [.int .i64 a0_0, .bool a0_1, .int .i64 a0_2, .flt .f64 a0_3, .sl 5 a0_4, .sl 9 a0_5]]) : VH)) 5)).bind fun x14 =>
                        ((callD (vF P tab n) P false (.one (.flat .bool)) 67 [.sl 9 x13, .sl 9 x14] r12.2).bind fun r15 =>
                        (some (.bool r15.1, r15.2)))))
                        (some (.bool false, r12.2))))))
                        (some (.bool false, r9.2))))))
                    (some (.bool false, (List.append (α := VO) (h ++ [.row (66 + boxK) [.int .i64 a0_0, .bool a0_1, .int .i64 a0_2, .flt .f64 a0_3, .sl 5 a0_4, .sl 9 a0_5]]) [.row (66 + boxK) [.int .i64 a1_0, .bool a1_1, .int .i64 a1_2, .flt .f64 a1_3, .sl 5 a1_4, .sl 9 a1_5]]))))))
              (some (.bool false, (List.append (α := VO) (h ++ [.row (66 + boxK) [.int .i64 a0_0, .bool a0_1, .int .i64 a0_2, .flt .f64 a0_3, .sl 5 a0_4, .sl 9 a0_5]]) [.row (66 + boxK) [.int .i64 a1_0, .bool a1_1, .int .i64 a1_2, .flt .f64 a1_3, .sl 5 a1_4, .sl 9 a1_5]]))))))
        (some (.bool false, (List.append (α := VO) (h ++ [.row (66 + boxK) [.int .i64 a0_0, .bool a0_1, .int .i64 a0_2, .flt .f64 a0_3, .sl 5 a0_4, .sl 9 a0_5]]) [.row (66 + boxK) [.int .i64 a1_0, .bool a1_1, .int .i64 a1_2, .flt .f64 a1_3, .sl 5 a1_4, .sl 9 a1_5]])))))) := by kernel_rfl
/-! godown/godownref11.Same -/
theorem f29_eq (n : Nat) (a0_0 : Int) (a0_1 : Bool) (a0_2 : Int) (a0_3 : Nat) (a0_4 : VS) (a0_5 : VS) (a1_0 : Int) (a1_1 : Bool) (a1_2 : Int) (a1_3 : Nat) (a1_4 : VS) (a1_5 : VS) (h : VH) : bodyV P tab (vF P tab n) n 29 [.agg [.int .i64 a0_0, .bool a0_1, .int .i64 a0_2, .flt .f64 a0_3, .sl 5 a0_4, .sl 9 a0_5], .agg [.int .i64 a1_0, .bool a1_1, .int .i64 a1_2, .flt .f64 a1_3, .sl 5 a1_4, .sl 9 a1_5]] h =
  ((ldV (.flat (.int .i64)) (List.append (α := VO) (h ++ [.row (66 + boxK) [.int .i64 a0_0, .bool a0_1, .int .i64 a0_2, .flt .f64 a0_3, .sl 5 a0_4, .sl 9 a0_5]]) [.row (66 + boxK) [.int .i64 a1_0, .bool a1_1, .int .i64 a1_2, .flt .f64 a1_3, .sl 5 a1_4, .sl 9 a1_5]]) (.ob h.length 0)).bind fun x1 =>
    ((ldV (.flat (.int .i64)) (List.append (α := VO) (h ++ [.row (66 + boxK) [.int .i64 a0_0, .bool a0_1, .int .i64 a0_2, .flt .f64 a0_3, .sl 5 a0_4, .sl 9 a0_5]]) [.row (66 + boxK) [.int .i64 a1_0, .bool a1_1, .int .i64 a1_2, .flt .f64 a1_3, .sl 5 a1_4, .sl 9 a1_5]]) (.ob (List.length ((h ++ [.row (66 + boxK) [.int .i64 a0_0, .bool a0_1, .int .i64 a0_2, .flt .f64 a0_3, .sl 5 a0_4, .sl 9 a0_5]]) : VH)) 0)).bind fun x2 =>
      (cond (V.stays (List.append (α := VO) (h ++ [.row (66 + boxK) [.int .i64 a0_0, .bool a0_1, .int .i64 a0_2, .flt .f64 a0_3, .sl 5 a0_4, .sl 9 a0_5]]) [.row (66 + boxK) [.int .i64 a1_0, .bool a1_1, .int .i64 a1_2, .flt .f64 a1_3, .sl 5 a1_4, .sl 9 a1_5]]) [(.ob h.length 0, .int .i64, .int .i64 x1)])
        (cond ((x1 : Int) == x2)
          ((ldV (.flat .bool) (List.append (α := VO) (h ++ [.row (66 + boxK) [.int .i64 a0_0, .bool a0_1, .int .i64 a0_2, .flt .f64 a0_3, .sl 5 a0_4, .sl 9 a0_5]]) [.row (66 + boxK) [.int .i64 a1_0, .bool a1_1, .int .i64 a1_2, .flt .f64 a1_3, .sl 5 a1_4, .sl 9 a1_5]]) (.ob h.length 1)).bind fun x3 =>
            ((ldV (.flat .bool) (List.append (α := VO) (h ++ [.row (66 + boxK) [.int .i64 a0_0, .bool a0_1, .int .i64 a0_2, .flt .f64 a0_3, .sl 5 a0_4, .sl 9 a0_5]]) [.row (66 + boxK) [.int .i64 a1_0, .bool a1_1, .int .i64 a1_2, .flt .f64 a1_3, .sl 5 a1_4, .sl 9 a1_5]]) (.ob (List.length ((h ++ [.row (66 + boxK) [.int .i64 a0_0, .bool a0_1, .int .i64 a0_2, .flt .f64 a0_3, .sl 5 a0_4, .sl 9 a0_5]]) : VH)) 1)).bind fun x4 =>
              (cond (V.stays (List.append (α := VO) (h ++ [.row (66 + boxK) [.int .i64 a0_0, .bool a0_1, .int .i64 a0_2, .flt .f64 a0_3, .sl 5 a0_4, .sl 9 a0_5]]) [.row (66 + boxK) [.int .i64 a1_0, .bool a1_1, .int .i64 a1_2, .flt .f64 a1_3, .sl 5 a1_4, .sl 9 a1_5]]) [(.ob h.length 1, .bool, .bool x3), (.ob h.length 0, .int .i64, .int .i64 x1)])
                (cond (x3 == x4)
                  ((ldV (.flat (.int .i64)) (List.append (α := VO) (h ++ [.row (66 + boxK) [.int .i64 a0_0, .bool a0_1, .int .i64 a0_2, .flt .f64 a0_3, .sl 5 a0_4, .sl 9 a0_5]]) [.row (66 + boxK) [.int .i64 a1_0, .bool a1_1, .int .i64 a1_2, .flt .f64 a1_3, .sl 5 a1_4, .sl 9 a1_5]]) (.ob h.length 2)).bind fun x5 =>
                    ((ldV (.flat (.int .i64)) (List.append (α := VO) (h ++ [.row (66 + boxK) [.int .i64 a0_0, .bool a0_1, .int .i64 a0_2, .flt .f64 a0_3, .sl 5 a0_4, .sl 9 a0_5]]) [.row (66 + boxK) [.int .i64 a1_0, .bool a1_1, .int .i64 a1_2, .flt .f64 a1_3, .sl 5 a1_4, .sl 9 a1_5]]) (.ob (List.length ((h ++ [.row (66 + boxK) [.int .i64 a0_0, .bool a0_1, .int .i64 a0_2, .flt .f64 a0_3, .sl 5 a0_4, .sl 9 a0_5]]) : VH)) 2)).bind fun x6 =>
                      (cond (V.stays (List.append (α := VO) (h ++ [.row (66 + boxK) [.int .i64 a0_0, .bool a0_1, .int .i64 a0_2, .flt .f64 a0_3, .sl 5 a0_4, .sl 9 a0_5]]) [.row (66 + boxK) [.int .i64 a1_0, .bool a1_1, .int .i64 a1_2, .flt .f64 a1_3, .sl 5 a1_4, .sl 9 a1_5]]) [(.ob h.length 2, .int .i64, .int .i64 x5), (.ob h.length 1, .bool, .bool x3), (.ob h.length 0, .int .i64, .int .i64 x1)])
                        (cond ((x5 : Int) == x6)
                        ((ldV (.flat (.flt .f64)) (List.append (α := VO) (h ++ [.row (66 + boxK) [.int .i64 a0_0, .bool a0_1, .int .i64 a0_2, .flt .f64 a0_3, .sl 5 a0_4, .sl 9 a0_5]]) [.row (66 + boxK) [.int .i64 a1_0, .bool a1_1, .int .i64 a1_2, .flt .f64 a1_3, .sl 5 a1_4, .sl 9 a1_5]]) (.ob h.length 3)).bind fun x7 =>
                        ((ldV (.flat (.flt .f64)) (List.append (α := VO) (h ++ [.row (66 + boxK) [.int .i64 a0_0, .bool a0_1, .int .i64 a0_2, .flt .f64 a0_3, .sl 5 a0_4, .sl 9 a0_5]]) [.row (66 + boxK) [.int .i64 a1_0, .bool a1_1, .int .i64 a1_2, .flt .f64 a1_3, .sl 5 a1_4, .sl 9 a1_5]]) (.ob (List.length ((h ++ [.row (66 + boxK) [.int .i64 a0_0, .bool a0_1, .int .i64 a0_2, .flt .f64 a0_3, .sl 5 a0_4, .sl 9 a0_5]]) : VH)) 3)).bind fun x8 =>
                        ((callD (vF P tab n) P false (.one (.flat (.int .u64))) 64 [.flt .f64 x7] (List.append (α := VO) (h ++ [.row (66 + boxK) [.int .i64 a0_0, .bool a0_1, .int .i64 a0_2, .flt .f64 a0_3, .sl 5 a0_4, .sl 9 a0_5]]) [.row (66 + boxK) [.int .i64 a1_0, .bool a1_1, .int .i64 a1_2, .flt .f64 a1_3, .sl 5 a1_4, .sl 9 a1_5]])).bind fun r9 =>
                        (cond (V.stays r9.2 [(.ob (List.length ((h ++ [.row (66 + boxK) [.int .i64 a0_0, .bool a0_1, .int .i64 a0_2, .flt .f64 a0_3, .sl 5 a0_4, .sl 9 a0_5]]) : VH)) 3, .flt .f64, .flt .f64 x8), (.ob h.length 2, .int .i64, .int .i64 x5), (.ob h.length 1, .bool, .bool x3), (.ob h.length 0, .int .i64, .int .i64 x1)])
                        ((callD (vF P tab n) P false (.one (.flat (.int .u64))) 64 [.flt .f64 x8] r9.2).bind fun r10 =>
                        (cond (V.stays r10.2 [(.ob h.length 3, .flt .f64, .flt .f64 x7), (.ob h.length 2, .int .i64, .int .i64 x5), (.ob h.length 1, .bool, .bool x3), (.ob h.length 0, .int .i64, .int .i64 x1)])
                        (cond ((r9.1 : Int) == r10.1)
                        ((ldV (.flat (.slice 5)) r10.2 (.ob h.length 4)).bind fun x11 =>
                        ((ldV (.flat (.slice 5)) r10.2 (.ob (List.length ((h ++ [.row (66 + boxK) [.int .i64 a0_0, .bool a0_1, .int .i64 a0_2, .flt .f64 a0_3, .sl 5 a0_4, .sl 9 a0_5]]) : VH)) 4)).bind fun x12 =>
                        (cond (V.stays r10.2 [(.ob h.length 4, .slice 5, .sl 5 x11), (.ob (List.length ((h ++ [.row (66 + boxK) [.int .i64 a0_0, .bool a0_1, .int .i64 a0_2, .flt .f64 a0_3, .sl 5 a0_4, .sl 9 a0_5]]) : VH)) 3, .flt .f64, .flt .f64 x8), (.ob h.length 3, .flt .f64, .flt .f64 x7), (.ob h.length 2, .int .i64, .int .i64 x5), (.ob h.length 1, .bool, .bool x3), (.ob h.length 0, .int .i64, .int .i64 x1)])
                        ((callD (vF P tab n) P false (.one (.flat .bool)) 18 [.sl 5 x11, .sl 5 x12] r10.2).bind fun r13 =>
                        (cond (V.stays r13.2 [(.ob (List.length ((h ++ [.row (66 + boxK) [.int .i64 a0_0, .bool a0_1, .int .i64 a0_2, .flt .f64 a0_3, .sl 5 a0_4, .sl 9 a0_5]]) : VH)) 3, .flt .f64, .flt .f64 x8), (.ob h.length 3, .flt .f64, .flt .f64 x7), (.ob h.length 2, .int .i64, .int .i64 x5), (.ob h.length 1, .bool, .bool x3), (.ob h.length 0, .int .i64, .int .i64 x1)])
                        (cond r13.1
                        ((ldV (.flat (.slice 9)) r13.2 (.ob h.length 5)).bind fun x14 =>
                        ((ldV (.flat (.slice 9)) r13.2 (.ob (List.length ((h ++ [.row (66 + boxK) [.int .i64 a0_0, .bool a0_1, .int .i64 a0_2, .flt .f64 a0_3, .sl 5 a0_4, .sl 9 a0_5]]) : VH)) 5)).bind fun x15 =>
                        (cond (V.stays r13.2 [(.ob h.length 5, .slice 9, .sl 9 x14), (.ob h.length 4, .slice 5, .sl 5 x11), (.ob (List.length ((h ++ [.row (66 + boxK) [.int .i64 a0_0, .bool a0_1, .int .i64 a0_2, .flt .f64 a0_3, .sl 5 a0_4, .sl 9 a0_5]]) : VH)) 3, .flt .f64, .flt .f64 x8), (.ob h.length 3, .flt .f64, .flt .f64 x7), (.ob h.length 2, .int .i64, .int .i64 x5), (.ob h.length 1, .bool, .bool x3), (.ob h.length 0, .int .i64, .int .i64 x1)])
                        ((callD (vF P tab n) P false (.one (.flat .bool)) 55 [.sl 9 x14, .sl 9 x15] r13.2).bind fun r16 =>
                        (cond (V.stays r16.2 [(.ob h.length 4, .slice 5, .sl 5 x11), (.ob (List.length ((h ++ [.row (66 + boxK) [.int .i64 a0_0, .bool a0_1, .int .i64 a0_2, .flt .f64 a0_3, .sl 5 a0_4, .sl 9 a0_5]]) : VH)) 3, .flt .f64, .flt .f64 x8), (.ob h.length 3, .flt .f64, .flt .f64 x7), (.ob h.length 2, .int .i64, .int .i64 x5), (.ob h.length 1, .bool, .bool x3), (.ob h.length 0, .int .i64, .int .i64 x1)])
                        (some (.bool r16.1, r16.2))
                        none))
                        none)))
                        (some (.bool false, r13.2)))
                        none))
                        none)))
                        (some (.bool false, r10.2)))
                        none))
                        none))))
                        (some (.bool false, (List.append (α := VO) (h ++ [.row (66 + boxK) [.int .i64 a0_0, .bool a0_1, .int .i64 a0_2, .flt .f64 a0_3, .sl 5 a0_4, .sl 9 a0_5]]) [.row (66 + boxK) [.int .i64 a1_0, .bool a1_1, .int .i64 a1_2, .flt .f64 a1_3, .sl 5 a1_4, .sl 9 a1_5]]))))
                        none)))
                  (some (.bool false, (List.append (α := VO) (h ++ [.row (66 + boxK) [.int .i64 a0_0, .bool a0_1, .int .i64 a0_2, .flt .f64 a0_3, .sl 5 a0_4, .sl 9 a0_5]]) [.row (66 + boxK) [.int .i64 a1_0, .bool a1_1, .int .i64 a1_2, .flt .f64 a1_3, .sl 5 a1_4, .sl 9 a1_5]]))))
                none)))
          (some (.bool false, (List.append (α := VO) (h ++ [.row (66 + boxK) [.int .i64 a0_0, .bool a0_1, .int .i64 a0_2, .flt .f64 a0_3, .sl 5 a0_4, .sl 9 a0_5]]) [.row (66 + boxK) [.int .i64 a1_0, .bool a1_1, .int .i64 a1_2, .flt .f64 a1_3, .sl 5 a1_4, .sl 9 a1_5]]))))
        none))) := by kernel_rfl
/-! godown/godownref11.DecodeReply -/
theorem f30_eq (n : Nat) (a0 : VS) (h : VH) : bodyV P tab (vF P tab n) n 30 [.sl 5 a0] h =
  ((callD (vF P tab n) P false (.one (.flat (.int .u64))) 68 [.ptr (.ob (List.length ((h ++ [.row (66 + boxK) [.int .i64 0, .bool false, .int .i64 0, .flt .f64 0, .sl 5 .nil, .sl 9 .nil]]) : VH)) 0), .int .i64 1] (List.append (α := VO) (h ++ [.row (66 + boxK) [.int .i64 0, .bool false, .int .i64 0, .flt .f64 0, .sl 5 .nil, .sl 9 .nil]]) [.row (118 + boxK) [.sl 5 a0, .bool false]])).bind fun r1 =>
    ((stV (r1.2 ++ [.row (66 + boxK) [.int .i64 0, .bool false, .int .i64 0, .flt .f64 0, .sl 5 .nil, .sl 9 .nil]]) (.ob r1.2.length 0) [.int .i64 (IntKind.wrap .i64 r1.1), .bool false, .int .i64 0, .flt .f64 0, .sl 5 .nil, .sl 9 .nil]).bind fun h2 =>
      ((callD (vF P tab n) P false (.one (.flat (.int .u64))) 68 [.ptr (.ob (List.length ((h ++ [.row (66 + boxK) [.int .i64 0, .bool false, .int .i64 0, .flt .f64 0, .sl 5 .nil, .sl 9 .nil]]) : VH)) 0), .int .i64 1] h2).bind fun r3 =>
        ((stV r3.2 (.ob r1.2.length 1) [.bool ((r3.1 : Int) == 1)]).bind fun h4 =>
          ((callD (vF P tab n) P false (.one (.flat (.int .u64))) 68 [.ptr (.ob (List.length ((h ++ [.row (66 + boxK) [.int .i64 0, .bool false, .int .i64 0, .flt .f64 0, .sl 5 .nil, .sl 9 .nil]]) : VH)) 0), .int .i64 2] h4).bind fun r5 =>
            ((stV r5.2 (.ob r1.2.length 2) [.int .i64 (IntKind.wrap .i64 r5.1)]).bind fun h6 =>
              ((callD (vF P tab n) P false (.one (.flat (.int .u64))) 68 [.ptr (.ob (List.length ((h ++ [.row (66 + boxK) [.int .i64 0, .bool false, .int .i64 0, .flt .f64 0, .sl 5 .nil, .sl 9 .nil]]) : VH)) 0), .int .i64 8] h6).bind fun r7 =>
                ((callD (vF P tab n) P false (.tup [(.flat (.flt .f64)), (.flat (.int .i64))]) 69 [.int .u64 r7.1] r7.2).bind fun r8 =>
                  ((stV r8.2 (.ob r1.2.length 3) [.flt .f64 r8.1.1]).bind fun h9 =>
                    ((callD (vF P tab n) P false (.one (.flat .str)) 70 [.ptr (.ob (List.length ((h ++ [.row (66 + boxK) [.int .i64 0, .bool false, .int .i64 0, .flt .f64 0, .sl 5 .nil, .sl 9 .nil]]) : VH)) 0)] h9).bind fun r10 =>
                      ((stV r10.2 (.ob r1.2.length 4) [.sl 5 (.fz (bytesE r10.1) .no)]).bind fun h11 =>
                        ((callD (vF P tab n) P false (.one (.flat (.slice 9))) 71 [.ptr (.ob (List.length ((h ++ [.row (66 + boxK) [.int .i64 0, .bool false, .int .i64 0, .flt .f64 0, .sl 5 .nil, .sl 9 .nil]]) : VH)) 0), .int .i64 255] h11).bind fun r12 =>
                        ((stV r12.2 (.ob r1.2.length 5) [.sl 9 r12.1]).bind fun h13 =>
                        (cond ((r8.1.2.1 : Int) != 0)
                        ((stV h13 (.ob h.length 0) [.int .i64 0, .bool false, .int .i64 0, .flt .f64 0, .sl 5 .nil, .sl 9 .nil]).bind fun h14 =>
                        (((ldV (.agg [.int .i64, .bool, .int .i64, .flt .f64, .slice 5, .slice 9]) h14 (.ob h.length 0)).bind fun x15 =>
                        some (.tup [.agg [.int .i64 x15.1, .bool x15.2.1, .int .i64 x15.2.2.1, .flt .f64 x15.2.2.2.1, .sl 5 x15.2.2.2.2.1, .sl 9 x15.2.2.2.2.2.1], .int .i64 2], h14))))
                        (cond (decide ((r3.1 : Int) > 1))
                        ((stV h13 (.ob h.length 0) [.int .i64 0, .bool false, .int .i64 0, .flt .f64 0, .sl 5 .nil, .sl 9 .nil]).bind fun h16 =>
                        (((ldV (.agg [.int .i64, .bool, .int .i64, .flt .f64, .slice 5, .slice 9]) h16 (.ob h.length 0)).bind fun x17 =>
                        some (.tup [.agg [.int .i64 x17.1, .bool x17.2.1, .int .i64 x17.2.2.1, .flt .f64 x17.2.2.2.1, .sl 5 x17.2.2.2.2.1, .sl 9 x17.2.2.2.2.2.1], .int .i64 2], h16))))
                        ((callD (vF P tab n) P false (.one (.flat .bool)) 72 [.ptr (.ob (List.length ((h ++ [.row (66 + boxK) [.int .i64 0, .bool false, .int .i64 0, .flt .f64 0, .sl 5 .nil, .sl 9 .nil]]) : VH)) 0)] h13).bind fun r18 =>
                        (cond (!r18.1)
                        ((stV r18.2 (.ob h.length 0) [.int .i64 0, .bool false, .int .i64 0, .flt .f64 0, .sl 5 .nil, .sl 9 .nil]).bind fun h19 =>
                        (((ldV (.agg [.int .i64, .bool, .int .i64, .flt .f64, .slice 5, .slice 9]) h19 (.ob h.length 0)).bind fun x20 =>
                        some (.tup [.agg [.int .i64 x20.1, .bool x20.2.1, .int .i64 x20.2.2.1, .flt .f64 x20.2.2.2.1, .sl 5 x20.2.2.2.2.1, .sl 9 x20.2.2.2.2.2.1], .int .i64 2], h19))))
                        ((ldV (.agg [.int .i64, .bool, .int .i64, .flt .f64, .slice 5, .slice 9]) r18.2 (.ob r1.2.length 0)).bind fun x21 =>
                        ((stV r18.2 (.ob h.length 0) [.int .i64 x21.1, .bool x21.2.1, .int .i64 x21.2.2.1, .flt .f64 x21.2.2.2.1, .sl 5 x21.2.2.2.2.1, .sl 9 x21.2.2.2.2.2.1]).bind fun h22 =>
                        (((ldV (.agg [.int .i64, .bool, .int .i64, .flt .f64, .slice 5, .slice 9]) h22 (.ob h.length 0)).bind fun x23 =>
                        some (.tup [.agg [.int .i64 x23.1, .bool x23.2.1, .int .i64 x23.2.2.1, .flt .f64 x23.2.2.2.1, .sl 5 x23.2.2.2.2.1, .sl 9 x23.2.2.2.2.2.1], .int .i64 0], h22)))))))))))))))))))))) := by kernel_rfl
/-! godown/godownref11.Decode -/
noncomputable def L31_0 (n m : Nat) (s2 : Nat) (s4 : Nat) (s5 : Nat) (s6 : Int) (s7 : Int) (h : VH) : VRes := loopAt P tab 31 [1, 1, 1, 1, 1, 1, 1, 0, 1, 0, 1, 1, 1, 0] n [] m [.undef, .undef, .ptr (.ob s2 0), .undef, .ptr (.ob s4 0), .ptr (.ob s5 0), .int .i64 s6, .int .i64 s7, .undef, .undef, .undef, .undef, .undef, .undef, .undef, .undef, .undef, .undef, .undef, .undef, .undef, .undef, .undef, .undef, .undef, .undef, .undef, .undef, .undef, .undef, .undef, .undef, .undef, .undef, .undef, .undef, .undef, .undef, .undef, .undef, .undef, .undef, .undef, .undef, .undef, .undef, .undef, .undef, .undef, .undef, .undef, .undef, .undef, .undef, .undef, .undef, .undef, .undef, .undef, .undef, .undef, .undef, .undef, .undef, .undef, .undef, .undef, .undef, .undef, .undef, .undef, .undef, .undef, .undef, .undef, .undef, .undef, .undef, .undef, .undef, .undef, .undef, .undef, .undef, .undef, .undef, .undef, .undef, .undef, .undef, .undef, .undef, .undef, .undef, .undef, .undef, .undef, .undef, .undef, .undef, .undef, .undef, .undef, .undef, .undef, .undef, .undef, .undef, .undef, .undef, .undef, .undef, .undef, .undef] h
noncomputable def L31_1 (n m0 m : Nat) (s2 : Nat) (s4 : Nat) (s5 : Nat) (s6 : Int) (s7 : Int) (s8 : Nat) (s9 : Int) (s10 : Int) (h : VH) : VRes := loopAt P tab 31 [1, 1, 1, 1, 1, 1, 1, 0, 1, 0, 1, 1, 1, 0, 0, 1, 0, 0, 1, 1, 1, 1, 1, 1, 0, 1, 0] n [m0] m [.undef, .undef, .ptr (.ob s2 0), .undef, .ptr (.ob s4 0), .ptr (.ob s5 0), .int .i64 s6, .int .i64 s7, .ptr (.ob s8 0), .int .i64 s9, .int .i64 s10, .undef, .undef, .undef, .undef, .undef, .undef, .undef, .undef, .undef, .undef, .undef, .undef, .undef, .undef, .undef, .undef, .undef, .undef, .undef, .undef, .undef, .undef, .undef, .undef, .undef, .undef, .undef, .undef, .undef, .undef, .undef, .undef, .undef, .undef, .undef, .undef, .undef, .undef, .undef, .undef, .undef, .undef, .undef, .undef, .undef, .undef, .undef, .undef, .undef, .undef, .undef, .undef, .undef, .undef, .undef, .undef, .undef, .undef, .undef, .undef, .undef, .undef, .undef, .undef, .undef, .undef, .undef, .undef, .undef, .undef, .undef, .undef, .undef, .undef, .undef, .undef, .undef, .undef, .undef, .undef, .undef, .undef, .undef, .undef, .undef, .undef, .undef, .undef, .undef, .undef, .undef, .undef, .undef, .undef, .undef, .undef, .undef, .undef, .undef, .undef, .undef, .undef, .undef] h
theorem L31_0_eq (n m : Nat) (s2 : Nat) (s4 : Nat) (s5 : Nat) (s6 : Int) (s7 : Int) (h : VH) : L31_0 n (m + 1) s2 s4 s5 s6 s7 h =
  (cond (decide ((s7 : Int) < s6))
    ((callD (vF P tab n) P false (.one (.flat .str)) 70 [.ptr (.ob s4 0)] (h ++ [.row (34 + boxK) [.str ⟨#[]⟩, .sl 5 .nil, .sl 9 .nil, .sl 3 .nil]])).bind fun r1 =>
      ((stV r1.2 (.ob h.length 0) [.str r1.1]).bind fun h2 =>
        ((callD (vF P tab n) P false (.one (.flat .str)) 70 [.ptr (.ob s4 0)] h2).bind fun r3 =>
          ((stV r3.2 (.ob h.length 1) [.sl 5 (.fz (bytesE r3.1) .no)]).bind fun h4 =>
            ((callD (vF P tab n) P false (.one (.flat (.slice 9))) 71 [.ptr (.ob s4 0), .int .i64 16] h4).bind fun r5 =>
              ((stV r5.2 (.ob h.length 2) [.sl 9 r5.1]).bind fun h6 =>
                ((callD (vF P tab n) P false (.one (.flat (.int .u64))) 68 [.ptr (.ob s4 0), .int .i64 1] h6).bind fun r7 =>
                  (cond (decide (((IntKind.wrap .i64 r7.1) : Int) ≥ 4))
                    ((stV r7.2 (.ob s2 0) [.int .u8 0, .str ⟨#[]⟩, .str ⟨#[]⟩, .sl 5 .nil, .sl 9 .nil, .sl 34 .nil]).bind fun h8 =>
                      (((ldV (.agg [.int .u8, .str, .str, .slice 5, .slice 9, .slice 34]) h8 (.ob s2 0)).bind fun x9 =>
                        some (.tup [.agg [.int .u8 x9.1, .str x9.2.1, .str x9.2.2.1, .sl 5 x9.2.2.2.1, .sl 9 x9.2.2.2.2.1, .sl 34 x9.2.2.2.2.2.1], .int .i64 2], h8))))
                    (L31_1 n m n s2 s4 s5 s6 s7 h.length (IntKind.wrap .i64 r7.1) 0 r7.2)))))))))
    ((callD (vF P tab n) P false (.one (.flat .bool)) 72 [.ptr (.ob s4 0)] h).bind fun r10 =>
      (cond (!r10.1)
        ((stV r10.2 (.ob s2 0) [.int .u8 0, .str ⟨#[]⟩, .str ⟨#[]⟩, .sl 5 .nil, .sl 9 .nil, .sl 34 .nil]).bind fun h11 =>
          (((ldV (.agg [.int .u8, .str, .str, .slice 5, .slice 9, .slice 34]) h11 (.ob s2 0)).bind fun x12 =>
              some (.tup [.agg [.int .u8 x12.1, .str x12.2.1, .str x12.2.2.1, .sl 5 x12.2.2.2.1, .sl 9 x12.2.2.2.2.1, .sl 34 x12.2.2.2.2.2.1], .int .i64 2], h11))))
        ((ldV (.agg [.int .u8, .str, .str, .slice 5, .slice 9, .slice 34]) r10.2 (.ob s5 0)).bind fun x13 =>
          ((stV r10.2 (.ob s2 0) [.int .u8 x13.1, .str x13.2.1, .str x13.2.2.1, .sl 5 x13.2.2.2.1, .sl 9 x13.2.2.2.2.1, .sl 34 x13.2.2.2.2.2.1]).bind fun h14 =>
            (((ldV (.agg [.int .u8, .str, .str, .slice 5, .slice 9, .slice 34]) h14 (.ob s2 0)).bind fun x15 =>
                some (.tup [.agg [.int .u8 x15.1, .str x15.2.1, .str x15.2.2.1, .sl 5 x15.2.2.2.1, .sl 9 x15.2.2.2.2.1, .sl 34 x15.2.2.2.2.2.1], .int .i64 0], h14)))))))) := by kernel_rfl
theorem L31_1_eq (n m0 m : Nat) (s2 : Nat) (s4 : Nat) (s5 : Nat) (s6 : Int) (s7 : Int) (s8 : Nat) (s9 : Int) (s10 : Int) (h : VH) : L31_1 n m0 (m + 1) s2 s4 s5 s6 s7 s8 s9 s10 h =
  (cond (decide ((s10 : Int) < s9))
    ((callD (vF P tab n) P false (.one (.flat (.int .u64))) 68 [.ptr (.ob s4 0), .int .i64 1] h).bind fun r1 =>
      (cond (decide (((IntKind.wrap .i64 r1.1) : Int) ≥ s7))
        ((stV r1.2 (.ob s2 0) [.int .u8 0, .str ⟨#[]⟩, .str ⟨#[]⟩, .sl 5 .nil, .sl 9 .nil, .sl 34 .nil]).bind fun h2 =>
          (((ldV (.agg [.int .u8, .str, .str, .slice 5, .slice 9, .slice 34]) h2 (.ob s2 0)).bind fun x3 =>
              some (.tup [.agg [.int .u8 x3.1, .str x3.2.1, .str x3.2.2.1, .sl 5 x3.2.2.2.1, .sl 9 x3.2.2.2.2.1, .sl 34 x3.2.2.2.2.2.1], .int .i64 2], h2))))
        ((ldV (.flat (.slice 3)) r1.2 (.ob s8 3)).bind fun x4 =>
          ((appD true r1.2 1 8 3 x4 (.fz [[.int .i64 (IntKind.wrap .i64 r1.1)]] (.ex 1))).bind fun r5 =>
            ((stV r5.2 (.ob s8 3) [.sl 3 r5.1]).bind fun h6 =>
              (L31_1 n m0 m s2 s4 s5 s6 s7 s8 s9 (IntKind.wrap .i64 (s10 + 1)) h6))))))
    ((ldV (.flat (.slice 34)) h (.ob s5 5)).bind fun x7 =>
      ((ldV (.agg [.str, .slice 5, .slice 9, .slice 3]) h (.ob s8 0)).bind fun x8 =>
        (if List.all [.str x8.1, .sl 5 x8.2.1, .sl 9 x8.2.2.1, .sl 3 x8.2.2.2.1] closed1 = true then
          ((appD true h 4 88 34 x7 (.fz [[.str x8.1, .sl 5 (VS.strip x8.2.1), .sl 9 (VS.strip x8.2.2.1), .sl 3 (VS.strip x8.2.2.2.1)]] (.ex 1))).bind fun r9 =>
            ((stV r9.2 (.ob s5 5) [.sl 34 r9.1]).bind fun h10 =>
              (L31_0 n m0 s2 s4 s5 s6 (IntKind.wrap .i64 (s7 + 1)) h10)))
          else none)))) := by kernel_rfl
theorem f31_eq (n : Nat) (a0 : VS) (h : VH) : bodyV P tab (vF P tab n) n 31 [.sl 5 a0] h =
  (cond (decide ((((VS.len a0 : Nat) : Int) : Int) > 2048))
    ((stV (h ++ [.row (31 + boxK) [.int .u8 0, .str ⟨#[]⟩, .str ⟨#[]⟩, .sl 5 .nil, .sl 9 .nil, .sl 34 .nil]]) (.ob h.length 0) [.int .u8 0, .str ⟨#[]⟩, .str ⟨#[]⟩, .sl 5 .nil, .sl 9 .nil, .sl 34 .nil]).bind fun h1 =>
      (((ldV (.agg [.int .u8, .str, .str, .slice 5, .slice 9, .slice 34]) h1 (.ob h.length 0)).bind fun x2 =>
          some (.tup [.agg [.int .u8 x2.1, .str x2.2.1, .str x2.2.2.1, .sl 5 x2.2.2.2.1, .sl 9 x2.2.2.2.2.1, .sl 34 x2.2.2.2.2.2.1], .int .i64 3], h1))))
    ((callD (vF P tab n) P false (.one (.flat (.int .u64))) 68 [.ptr (.ob (List.length ((h ++ [.row (31 + boxK) [.int .u8 0, .str ⟨#[]⟩, .str ⟨#[]⟩, .sl 5 .nil, .sl 9 .nil, .sl 34 .nil]]) : VH)) 0), .int .i64 1] (List.append (α := VO) (h ++ [.row (31 + boxK) [.int .u8 0, .str ⟨#[]⟩, .str ⟨#[]⟩, .sl 5 .nil, .sl 9 .nil, .sl 34 .nil]]) [.row (118 + boxK) [.sl 5 a0, .bool false]])).bind fun r3 =>
      ((stV (r3.2 ++ [.row (31 + boxK) [.int .u8 0, .str ⟨#[]⟩, .str ⟨#[]⟩, .sl 5 .nil, .sl 9 .nil, .sl 34 .nil]]) (.ob r3.2.length 0) [.int .u8 (IntKind.wrap .u8 r3.1), .str ⟨#[]⟩, .str ⟨#[]⟩, .sl 5 .nil, .sl 9 .nil, .sl 34 .nil]).bind fun h4 =>
        ((ldV (.flat (.int .u8)) h4 (.ob r3.2.length 0)).bind fun x5 =>
          (cond (decide ((x5 : Int) < 1))
            ((stV h4 (.ob h.length 0) [.int .u8 0, .str ⟨#[]⟩, .str ⟨#[]⟩, .sl 5 .nil, .sl 9 .nil, .sl 34 .nil]).bind fun h6 =>
              (((ldV (.agg [.int .u8, .str, .str, .slice 5, .slice 9, .slice 34]) h6 (.ob h.length 0)).bind fun x7 =>
                  some (.tup [.agg [.int .u8 x7.1, .str x7.2.1, .str x7.2.2.1, .sl 5 x7.2.2.2.1, .sl 9 x7.2.2.2.2.1, .sl 34 x7.2.2.2.2.2.1], .int .i64 2], h6))))
            ((ldV (.flat (.int .u8)) h4 (.ob r3.2.length 0)).bind fun x8 =>
              (cond (decide ((x8 : Int) > 12))
                ((stV h4 (.ob h.length 0) [.int .u8 0, .str ⟨#[]⟩, .str ⟨#[]⟩, .sl 5 .nil, .sl 9 .nil, .sl 34 .nil]).bind fun h9 =>
                  (((ldV (.agg [.int .u8, .str, .str, .slice 5, .slice 9, .slice 34]) h9 (.ob h.length 0)).bind fun x10 =>
                      some (.tup [.agg [.int .u8 x10.1, .str x10.2.1, .str x10.2.2.1, .sl 5 x10.2.2.2.1, .sl 9 x10.2.2.2.2.1, .sl 34 x10.2.2.2.2.2.1], .int .i64 2], h9))))
                ((ldV (.flat (.int .u8)) h4 (.ob r3.2.length 0)).bind fun x11 =>
                  (cond ((x11 : Int) == 1)
                    ((callD (vF P tab n) P false (.one (.flat .str)) 70 [.ptr (.ob (List.length ((h ++ [.row (31 + boxK) [.int .u8 0, .str ⟨#[]⟩, .str ⟨#[]⟩, .sl 5 .nil, .sl 9 .nil, .sl 34 .nil]]) : VH)) 0)] h4).bind fun r12 =>
                      ((stV r12.2 (.ob r3.2.length 1) [.str r12.1]).bind fun h13 =>
                        ((callD (vF P tab n) P false (.one (.flat .str)) 70 [.ptr (.ob (List.length ((h ++ [.row (31 + boxK) [.int .u8 0, .str ⟨#[]⟩, .str ⟨#[]⟩, .sl 5 .nil, .sl 9 .nil, .sl 34 .nil]]) : VH)) 0)] h13).bind fun r14 =>
                        ((stV r14.2 (.ob r3.2.length 3) [.sl 5 (.fz (bytesE r14.1) .no)]).bind fun h15 =>
                        ((callD (vF P tab n) P false (.one (.flat (.slice 9))) 71 [.ptr (.ob (List.length ((h ++ [.row (31 + boxK) [.int .u8 0, .str ⟨#[]⟩, .str ⟨#[]⟩, .sl 5 .nil, .sl 9 .nil, .sl 34 .nil]]) : VH)) 0), .int .i64 16] h15).bind fun r16 =>
                        ((stV r16.2 (.ob r3.2.length 4) [.sl 9 r16.1]).bind fun h17 =>
                        ((ldV (.flat (.int .u8)) h17 (.ob r3.2.length 0)).bind fun x18 =>
                        ((callD (vF P tab n) P false (.one (.flat .bool)) 42 [.int .u8 x18] h17).bind fun r19 =>
                        (cond r19.1
                        ((callD (vF P tab n) P false (.one (.flat .str)) 70 [.ptr (.ob (List.length ((h ++ [.row (31 + boxK) [.int .u8 0, .str ⟨#[]⟩, .str ⟨#[]⟩, .sl 5 .nil, .sl 9 .nil, .sl 34 .nil]]) : VH)) 0)] r19.2).bind fun r20 =>
                        ((stV r20.2 (.ob r3.2.length 2) [.str r20.1]).bind fun h21 =>
                        ((ldV (.flat (.int .u8)) h21 (.ob r3.2.length 0)).bind fun x22 =>
                        (cond ((x22 : Int) == 7)
                        ((callD (vF P tab n) P false (.one (.flat (.int .u64))) 68 [.ptr (.ob (List.length ((h ++ [.row (31 + boxK) [.int .u8 0, .str ⟨#[]⟩, .str ⟨#[]⟩, .sl 5 .nil, .sl 9 .nil, .sl 34 .nil]]) : VH)) 0), .int .i64 1] h21).bind fun r23 =>
                        (cond (decide (((IntKind.wrap .i64 r23.1) : Int) < 1))
                        ((stV r23.2 (.ob h.length 0) [.int .u8 0, .str ⟨#[]⟩, .str ⟨#[]⟩, .sl 5 .nil, .sl 9 .nil, .sl 34 .nil]).bind fun h24 =>
                        (((ldV (.agg [.int .u8, .str, .str, .slice 5, .slice 9, .slice 34]) h24 (.ob h.length 0)).bind fun x25 =>
                        some (.tup [.agg [.int .u8 x25.1, .str x25.2.1, .str x25.2.2.1, .sl 5 x25.2.2.2.1, .sl 9 x25.2.2.2.2.1, .sl 34 x25.2.2.2.2.2.1], .int .i64 2], h24))))
                        (cond (decide (((IntKind.wrap .i64 r23.1) : Int) > 4))
                        ((stV r23.2 (.ob h.length 0) [.int .u8 0, .str ⟨#[]⟩, .str ⟨#[]⟩, .sl 5 .nil, .sl 9 .nil, .sl 34 .nil]).bind fun h26 =>
                        (((ldV (.agg [.int .u8, .str, .str, .slice 5, .slice 9, .slice 34]) h26 (.ob h.length 0)).bind fun x27 =>
                        some (.tup [.agg [.int .u8 x27.1, .str x27.2.1, .str x27.2.2.1, .sl 5 x27.2.2.2.1, .sl 9 x27.2.2.2.2.1, .sl 34 x27.2.2.2.2.2.1], .int .i64 2], h26))))
                        (L31_0 n n h.length (List.length ((h ++ [.row (31 + boxK) [.int .u8 0, .str ⟨#[]⟩, .str ⟨#[]⟩, .sl 5 .nil, .sl 9 .nil, .sl 34 .nil]]) : VH)) r3.2.length (IntKind.wrap .i64 r23.1) 0 r23.2))))
                        ((callD (vF P tab n) P false (.one (.flat .bool)) 72 [.ptr (.ob (List.length ((h ++ [.row (31 + boxK) [.int .u8 0, .str ⟨#[]⟩, .str ⟨#[]⟩, .sl 5 .nil, .sl 9 .nil, .sl 34 .nil]]) : VH)) 0)] h21).bind fun r28 =>
                        (cond (!r28.1)
                        ((stV r28.2 (.ob h.length 0) [.int .u8 0, .str ⟨#[]⟩, .str ⟨#[]⟩, .sl 5 .nil, .sl 9 .nil, .sl 34 .nil]).bind fun h29 =>
                        (((ldV (.agg [.int .u8, .str, .str, .slice 5, .slice 9, .slice 34]) h29 (.ob h.length 0)).bind fun x30 =>
                        some (.tup [.agg [.int .u8 x30.1, .str x30.2.1, .str x30.2.2.1, .sl 5 x30.2.2.2.1, .sl 9 x30.2.2.2.2.1, .sl 34 x30.2.2.2.2.2.1], .int .i64 2], h29))))
                        ((ldV (.agg [.int .u8, .str, .str, .slice 5, .slice 9, .slice 34]) r28.2 (.ob r3.2.length 0)).bind fun x31 =>
                        ((stV r28.2 (.ob h.length 0) [.int .u8 x31.1, .str x31.2.1, .str x31.2.2.1, .sl 5 x31.2.2.2.1, .sl 9 x31.2.2.2.2.1, .sl 34 x31.2.2.2.2.2.1]).bind fun h32 =>
                        (((ldV (.agg [.int .u8, .str, .str, .slice 5, .slice 9, .slice 34]) h32 (.ob h.length 0)).bind fun x33 =>
                        some (.tup [.agg [.int .u8 x33.1, .str x33.2.1, .str x33.2.2.1, .sl 5 x33.2.2.2.1, .sl 9 x33.2.2.2.2.1, .sl 34 x33.2.2.2.2.2.1], .int .i64 0], h32)))))))))))
                        ((ldV (.flat (.int .u8)) r19.2 (.ob r3.2.length 0)).bind fun x34 =>
                        (cond ((x34 : Int) == 7)
                        ((callD (vF P tab n) P false (.one (.flat (.int .u64))) 68 [.ptr (.ob (List.length ((h ++ [.row (31 + boxK) [.int .u8 0, .str ⟨#[]⟩, .str ⟨#[]⟩, .sl 5 .nil, .sl 9 .nil, .sl 34 .nil]]) : VH)) 0), .int .i64 1] r19.2).bind fun r35 =>
                        (cond (decide (((IntKind.wrap .i64 r35.1) : Int) < 1))
                        ((stV r35.2 (.ob h.length 0) [.int .u8 0, .str ⟨#[]⟩, .str ⟨#[]⟩, .sl 5 .nil, .sl 9 .nil, .sl 34 .nil]).bind fun h36 =>
                        (((ldV (.agg [.int .u8, .str, .str, .slice 5, .slice 9, .slice 34]) h36 (.ob h.length 0)).bind fun x37 =>
                        some (.tup [.agg [.int .u8 x37.1, .str x37.2.1, .str x37.2.2.1, .sl 5 x37.2.2.2.1, .sl 9 x37.2.2.2.2.1, .sl 34 x37.2.2.2.2.2.1], .int .i64 2], h36))))
                        (cond (decide (((IntKind.wrap .i64 r35.1) : Int) > 4))
                        ((stV r35.2 (.ob h.length 0) [.int .u8 0, .str ⟨#[]⟩, .str ⟨#[]⟩, .sl 5 .nil, .sl 9 .nil, .sl 34 .nil]).bind fun h38 =>
                        (((ldV (.agg [.int .u8, .str, .str, .slice 5, .slice 9, .slice 34]) h38 (.ob h.length 0)).bind fun x39 =>
                        some (.tup [.agg [.int .u8 x39.1, .str x39.2.1, .str x39.2.2.1, .sl 5 x39.2.2.2.1, .sl 9 x39.2.2.2.2.1, .sl 34 x39.2.2.2.2.2.1], .int .i64 2], h38))))
                        (L31_0 n n h.length (List.length ((h ++ [.row (31 + boxK) [.int .u8 0, .str ⟨#[]⟩, .str ⟨#[]⟩, .sl 5 .nil, .sl 9 .nil, .sl 34 .nil]]) : VH)) r3.2.length (IntKind.wrap .i64 r35.1) 0 r35.2))))
                        ((callD (vF P tab n) P false (.one (.flat .bool)) 72 [.ptr (.ob (List.length ((h ++ [.row (31 + boxK) [.int .u8 0, .str ⟨#[]⟩, .str ⟨#[]⟩, .sl 5 .nil, .sl 9 .nil, .sl 34 .nil]]) : VH)) 0)] r19.2).bind fun r40 =>
                        (cond (!r40.1)
                        ((stV r40.2 (.ob h.length 0) [.int .u8 0, .str ⟨#[]⟩, .str ⟨#[]⟩, .sl 5 .nil, .sl 9 .nil, .sl 34 .nil]).bind fun h41 =>
                        (((ldV (.agg [.int .u8, .str, .str, .slice 5, .slice 9, .slice 34]) h41 (.ob h.length 0)).bind fun x42 =>
                        some (.tup [.agg [.int .u8 x42.1, .str x42.2.1, .str x42.2.2.1, .sl 5 x42.2.2.2.1, .sl 9 x42.2.2.2.2.1, .sl 34 x42.2.2.2.2.2.1], .int .i64 2], h41))))
                        ((ldV (.agg [.int .u8, .str, .str, .slice 5, .slice 9, .slice 34]) r40.2 (.ob r3.2.length 0)).bind fun x43 =>
                        ((stV r40.2 (.ob h.length 0) [.int .u8 x43.1, .str x43.2.1, .str x43.2.2.1, .sl 5 x43.2.2.2.1, .sl 9 x43.2.2.2.2.1, .sl 34 x43.2.2.2.2.2.1]).bind fun h44 =>
                        (((ldV (.agg [.int .u8, .str, .str, .slice 5, .slice 9, .slice 34]) h44 (.ob h.length 0)).bind fun x45 =>
                        some (.tup [.agg [.int .u8 x45.1, .str x45.2.1, .str x45.2.2.1, .sl 5 x45.2.2.2.1, .sl 9 x45.2.2.2.2.1, .sl 34 x45.2.2.2.2.2.1], .int .i64 0], h44))))))))))))))))))
                    ((ldV (.flat (.int .u8)) h4 (.ob r3.2.length 0)).bind fun x46 =>
                      ((callD (vF P tab n) P false (.one (.flat .bool)) 42 [.int .u8 x46] h4).bind fun r47 =>
                        (cond r47.1
                        ((callD (vF P tab n) P false (.one (.flat .str)) 70 [.ptr (.ob (List.length ((h ++ [.row (31 + boxK) [.int .u8 0, .str ⟨#[]⟩, .str ⟨#[]⟩, .sl 5 .nil, .sl 9 .nil, .sl 34 .nil]]) : VH)) 0)] r47.2).bind fun r48 =>
                        ((stV r48.2 (.ob r3.2.length 2) [.str r48.1]).bind fun h49 =>
                        ((ldV (.flat (.int .u8)) h49 (.ob r3.2.length 0)).bind fun x50 =>
                        (cond ((x50 : Int) == 7)
                        ((callD (vF P tab n) P false (.one (.flat (.int .u64))) 68 [.ptr (.ob (List.length ((h ++ [.row (31 + boxK) [.int .u8 0, .str ⟨#[]⟩, .str ⟨#[]⟩, .sl 5 .nil, .sl 9 .nil, .sl 34 .nil]]) : VH)) 0), .int .i64 1] h49).bind fun r51 =>
                        (cond (decide (((IntKind.wrap .i64 r51.1) : Int) < 1))
                        ((stV r51.2 (.ob h.length 0) [.int .u8 0, .str ⟨#[]⟩, .str ⟨#[]⟩, .sl 5 .nil, .sl 9 .nil, .sl 34 .nil]).bind fun h52 =>
                        (((ldV (.agg [.int .u8, .str, .str, .slice 5, .slice 9, .slice 34]) h52 (.ob h.length 0)).bind fun x53 =>
                        some (.tup [.agg [.int .u8 x53.1, .str x53.2.1, .str x53.2.2.1, .sl 5 x53.2.2.2.1, .sl 9 x53.2.2.2.2.1, .sl 34 x53.2.2.2.2.2.1], .int .i64 2], h52))))
                        (cond (decide (((IntKind.wrap .i64 r51.1) : Int) > 4))
                        ((stV r51.2 (.ob h.length 0) [.int .u8 0, .str ⟨#[]⟩, .str ⟨#[]⟩, .sl 5 .nil, .sl 9 .nil, .sl 34 .nil]).bind fun h54 =>
                        (((ldV (.agg [.int .u8, .str, .str, .slice 5, .slice 9, .slice 34]) h54 (.ob h.length 0)).bind fun x55 =>
                        some (.tup [.agg [.int .u8 x55.1, .str x55.2.1, .str x55.2.2.1, .sl 5 x55.2.2.2.1, .sl 9 x55.2.2.2.2.1, .sl 34 x55.2.2.2.2.2.1], .int .i64 2], h54))))
                        (L31_0 n n h.length (List.length ((h ++ [.row (31 + boxK) [.int .u8 0, .str ⟨#[]⟩, .str ⟨#[]⟩, .sl 5 .nil, .sl 9 .nil, .sl 34 .nil]]) : VH)) r3.2.length (IntKind.wrap .i64 r51.1) 0 r51.2))))
                        ((callD (vF P tab n) P false (.one (.flat .bool)) 72 [.ptr (.ob (List.length ((h ++ [.row (31 + boxK) [.int .u8 0, .str ⟨#[]⟩, .str ⟨#[]⟩, .sl 5 .nil, .sl 9 .nil, .sl 34 .nil]]) : VH)) 0)] h49).bind fun r56 =>
                        (cond (!r56.1)
                        ((stV r56.2 (.ob h.length 0) [.int .u8 0, .str ⟨#[]⟩, .str ⟨#[]⟩, .sl 5 .nil, .sl 9 .nil, .sl 34 .nil]).bind fun h57 =>
                        (((ldV (.agg [.int .u8, .str, .str, .slice 5, .slice 9, .slice 34]) h57 (.ob h.length 0)).bind fun x58 =>
                        some (.tup [.agg [.int .u8 x58.1, .str x58.2.1, .str x58.2.2.1, .sl 5 x58.2.2.2.1, .sl 9 x58.2.2.2.2.1, .sl 34 x58.2.2.2.2.2.1], .int .i64 2], h57))))
                        ((ldV (.agg [.int .u8, .str, .str, .slice 5, .slice 9, .slice 34]) r56.2 (.ob r3.2.length 0)).bind fun x59 =>
                        ((stV r56.2 (.ob h.length 0) [.int .u8 x59.1, .str x59.2.1, .str x59.2.2.1, .sl 5 x59.2.2.2.1, .sl 9 x59.2.2.2.2.1, .sl 34 x59.2.2.2.2.2.1]).bind fun h60 =>
                        (((ldV (.agg [.int .u8, .str, .str, .slice 5, .slice 9, .slice 34]) h60 (.ob h.length 0)).bind fun x61 =>
                        some (.tup [.agg [.int .u8 x61.1, .str x61.2.1, .str x61.2.2.1, .sl 5 x61.2.2.2.1, .sl 9 x61.2.2.2.2.1, .sl 34 x61.2.2.2.2.2.1], .int .i64 0], h60)))))))))))
                        ((ldV (.flat (.int .u8)) r47.2 (.ob r3.2.length 0)).bind fun x62 =>
                        (cond ((x62 : Int) == 7)
                        ((callD (vF P tab n) P false (.one (.flat (.int .u64))) 68 [.ptr (.ob (List.length ((h ++ [.row (31 + boxK) [.int .u8 0, .str ⟨#[]⟩, .str ⟨#[]⟩, .sl 5 .nil, .sl 9 .nil, .sl 34 .nil]]) : VH)) 0), .int .i64 1] r47.2).bind fun r63 =>
                        (cond (decide (((IntKind.wrap .i64 r63.1) : Int) < 1))
                        ((stV r63.2 (.ob h.length 0) [.int .u8 0, .str ⟨#[]⟩, .str ⟨#[]⟩, .sl 5 .nil, .sl 9 .nil, .sl 34 .nil]).bind fun h64 =>
                        (((ldV (.agg [.int .u8, .str, .str, .slice 5, .slice 9, .slice 34]) h64 (.ob h.length 0)).bind fun x65 =>
                        some (.tup [.agg [.int .u8 x65.1, .str x65.2.1, .str x65.2.2.1, .sl 5 x65.2.2.2.1, .sl 9 x65.2.2.2.2.1, .sl 34 x65.2.2.2.2.2.1], .int .i64 2], h64))))
                        (cond (decide (((IntKind.wrap .i64 r63.1) : Int) > 4))
                        ((stV r63.2 (.ob h.length 0) [.int .u8 0, .str ⟨#[]⟩, .str ⟨#[]⟩, .sl 5 .nil, .sl 9 .nil, .sl 34 .nil]).bind fun h66 =>
                        (((ldV (.agg [.int .u8, .str, .str, .slice 5, .slice 9, .slice 34]) h66 (.ob h.length 0)).bind fun x67 =>
                        some (.tup [.agg [.int .u8 x67.1, .str x67.2.1, .str x67.2.2.1, .sl 5 x67.2.2.2.1, .sl 9 x67.2.2.2.2.1, .sl 34 x67.2.2.2.2.2.1], .int .i64 2], h66))))
                        (L31_0 n n h.length (List.length ((h ++ [.row (31 + boxK) [.int .u8 0, .str ⟨#[]⟩, .str ⟨#[]⟩, .sl 5 .nil, .sl 9 .nil, .sl 34 .nil]]) : VH)) r3.2.length (IntKind.wrap .i64 r63.1) 0 r63.2))))
                        ((callD (vF P tab n) P false (.one (.flat .bool)) 72 [.ptr (.ob (List.length ((h ++ [.row (31 + boxK) [.int .u8 0, .str ⟨#[]⟩, .str ⟨#[]⟩, .sl 5 .nil, .sl 9 .nil, .sl 34 .nil]]) : VH)) 0)] r47.2).bind fun r68 =>
                        (cond (!r68.1)
                        ((stV r68.2 (.ob h.length 0) [.int .u8 0, .str ⟨#[]⟩, .str ⟨#[]⟩, .sl 5 .nil, .sl 9 .nil, .sl 34 .nil]).bind fun h69 =>
                        (((ldV (.agg [.int .u8, .str, .str, .slice 5, .slice 9, .slice 34]) h69 (.ob h.length 0)).bind fun x70 =>
                        some (.tup [.agg [.int .u8 x70.1, .str x70.2.1, .str x70.2.2.1, .sl 5 x70.2.2.2.1, .sl 9 x70.2.2.2.2.1, .sl 34 x70.2.2.2.2.2.1], .int .i64 2], h69))))
                        ((ldV (.agg [.int .u8, .str, .str, .slice 5, .slice 9, .slice 34]) r68.2 (.ob r3.2.length 0)).bind fun x71 =>
                        ((stV r68.2 (.ob h.length 0) [.int .u8 x71.1, .str x71.2.1, .str x71.2.2.1, .sl 5 x71.2.2.2.1, .sl 9 x71.2.2.2.2.1, .sl 34 x71.2.2.2.2.2.1]).bind fun h72 =>
                        (((ldV (.agg [.int .u8, .str, .str, .slice 5, .slice 9, .slice 34]) h72 (.ob h.length 0)).bind fun x73 =>
                        some (.tup [.agg [.int .u8 x73.1, .str x73.2.1, .str x73.2.2.1, .sl 5 x73.2.2.2.1, .sl 9 x73.2.2.2.2.1, .sl 34 x73.2.2.2.2.2.1], .int .i64 0], h72))))))))))))))))))))) := by kernel_rfl
/-! godown/godownref04.Num -/
theorem f32_eq (n : Nat) (a0 : Int) (h : VH) : bodyV P tab (vF P tab n) n 32 [.int .i64 a0] h =
  ((remI (IntKind.wrap .u64 a0) 65536).bind fun x1 =>
    ((quoI .u64 x1 256).bind fun x2 =>
      ((remI x1 256).bind fun x3 =>
        (some (.sl 5 (.fz [[.int .u8 (IntKind.wrap .u8 x2)], [.int .u8 (IntKind.wrap .u8 x3)]] (.ex 2)), h))))) := by kernel_rfl
/-! godown/wire.NewReader -/
theorem f33_eq (n : Nat) (a0 : VS) (h : VH) : bodyV P tab (vF P tab n) n 33 [.sl 5 a0] h =
  ((callD (vF P tab n) P false (.one (.flat (.slice 5))) 73 [.sl 5 a0] h).bind fun r1 =>
    (some (.ptr (.ob r1.2.length 0), (r1.2 ++ [.row (122 + boxK) [.sl 5 r1.1, .bool false]])))) := by kernel_rfl
/-! (*godown/wire.Reader).Byte -/
theorem f34_eq (n : Nat) (a0 : VP) (h : VH) : bodyV P tab (vF P tab n) n 34 [.ptr a0] h =
  ((callD (vF P tab n) P false (.one (.flat (.int .u64))) 74 [.ptr a0, .int .i64 1] h).bind fun r1 =>
    (some (.int .u8 (IntKind.wrap .u8 r1.1), r1.2))) := by kernel_rfl
/-! (*godown/wire.Reader).Text -/
theorem f35_eq (n : Nat) (a0 : VP) (h : VH) : bodyV P tab (vF P tab n) n 35 [.ptr a0] h =
  ((callD (vF P tab n) P false (.one (.flat (.int .i64))) 60 [.ptr a0] h).bind fun r1 =>
    ((callD (vF P tab n) P false (.one (.flat (.slice 5))) 75 [.ptr a0, .int .i64 r1.1] r1.2).bind fun r2 =>
      ((strV r2.2 5 r2.1).bind fun z3 =>
        (some (.str z3, r2.2))))) := by kernel_rfl
/-! godown/request.blob -/
theorem f36_eq (n : Nat) (a0 : VP) (h : VH) : bodyV P tab (vF P tab n) n 36 [.ptr a0] h =
  ((callD (vF P tab n) P false (.one (.flat .str)) 35 [.ptr a0] h).bind fun r1 =>
    (some (.sl 5 (.fz (bytesE r1.1) .no), r1.2))) := by kernel_rfl
/-! (*godown/wire.Reader).Texts -/
noncomputable def L37_0 (n m : Nat) (s0 : VP) (s6 : VS) (s20 : Int) (s21 : Int) (h : VH) : VRes := loopAt P tab 37 [1, 1, 1, 1, 0, 1, 0] n [] m [.ptr s0, .undef, .undef, .undef, .undef, .undef, .sl 9 s6, .undef, .undef, .undef, .undef, .undef, .undef, .undef, .undef, .undef, .undef, .undef, .undef, .undef, .int .i64 s20, .int .i64 s21, .undef, .undef, .undef, .undef, .undef, .undef, .undef, .undef, .undef, .undef, .undef, .undef] h
theorem L37_0_eq (n m : Nat) (s0 : VP) (s6 : VS) (s20 : Int) (s21 : Int) (h : VH) : L37_0 n (m + 1) s0 s6 s20 s21 h =
  (cond (decide ((s21 : Int) < s20))
    ((callD (vF P tab n) P false (.one (.flat .str)) 35 [.ptr s0] h).bind fun r1 =>
      ((callD (vF P tab n) P false (.one (.flat .bool)) 76 [.ptr s0] r1.2).bind fun r2 =>
        (cond (!r2.1)
          (some (.sl 9 .nil, r2.2))
          ((appD true r2.2 1 16 9 s6 (.fz [[.str r1.1]] (.ex 1))).bind fun r3 =>
            (L37_0 n m s0 r3.1 s20 (IntKind.wrap .i64 (s21 + 1)) r3.2)))))
    (some (.sl 9 s6, h))) := by kernel_rfl
theorem f37_eq (n : Nat) (a0 : VP) (a1 : Int) (h : VH) : bodyV P tab (vF P tab n) n 37 [.ptr a0, .int .i64 a1] h =
  ((callD (vF P tab n) P false (.one (.flat (.int .u8))) 34 [.ptr a0] h).bind fun r1 =>
    ((callD (vF P tab n) P false (.one (.flat .bool)) 76 [.ptr a0] r1.2).bind fun r2 =>
      (cond r2.1
        (cond (decide (((IntKind.wrap .i64 r1.1) : Int) > a1))
          ((callD (vF P tab n) P false (.tup []) 77 [.ptr a0] r2.2).bind fun r3 =>
            (L37_0 n n a0 .nil (IntKind.wrap .i64 r1.1) 0 r3.2))
          (L37_0 n n a0 .nil (IntKind.wrap .i64 r1.1) 0 r2.2))
        (L37_0 n n a0 .nil (IntKind.wrap .i64 r1.1) 0 r2.2)))) := by kernel_rfl
/-! godown/request.pathed -/
theorem f38_eq (n : Nat) (a0 : Int) (h : VH) : bodyV P tab (vF P tab n) n 38 [.int .u8 a0] h =
  (cond (decide ((a0 : Int) ≥ 2))
    (cond (decide ((a0 : Int) ≤ 6))
      (some (.bool true, h))
      (cond (decide ((a0 : Int) ≥ 8))
        (some (.bool (decide ((a0 : Int) ≤ 10)), h))
        (some (.bool false, h))))
    (cond (decide ((a0 : Int) ≥ 8))
      (some (.bool (decide ((a0 : Int) ≤ 10)), h))
      (some (.bool false, h)))) := by kernel_rfl
/-! godown/request.outs -/
noncomputable def L39_0 (n m : Nat) (s0 : VP) (s5 : VS) (s18 : Int) (s19 : Int) (h : VH) : VRes := loopAt P tab 39 [1, 1, 1, 1, 0, 1, 0] n [] m [.ptr s0, .undef, .undef, .undef, .undef, .sl 34 s5, .undef, .undef, .undef, .undef, .undef, .undef, .undef, .undef, .undef, .undef, .undef, .undef, .int .i64 s18, .int .i64 s19, .undef, .undef, .undef, .undef, .undef, .undef, .undef, .undef, .undef, .undef, .undef, .undef, .undef, .undef, .undef, .undef] h
theorem L39_0_eq (n m : Nat) (s0 : VP) (s5 : VS) (s18 : Int) (s19 : Int) (h : VH) : L39_0 n (m + 1) s0 s5 s18 s19 h =
  (cond (decide ((s19 : Int) < s18))
    ((callD (vF P tab n) P false (.tup [(.agg [.str, .slice 5, .slice 9, .slice 3]), (.flat .bool)]) 78 [.ptr s0, .int .i64 s19] h).bind fun r1 =>
      ((stV (r1.2 ++ [.row (34 + boxK) [.str ⟨#[]⟩, .sl 5 .nil, .sl 9 .nil, .sl 3 .nil]]) (.ob r1.2.length 0) [.str r1.1.1.1, .sl 5 r1.1.1.2.1, .sl 9 r1.1.1.2.2.1, .sl 3 r1.1.1.2.2.2.1]).bind fun h2 =>
        (cond (!r1.1.2.1)
          (some (.tup [.sl 34 .nil, .bool false], h2))
          ((ldV (.agg [.str, .slice 5, .slice 9, .slice 3]) h2 (.ob r1.2.length 0)).bind fun x3 =>
            (if List.all [.str x3.1, .sl 5 x3.2.1, .sl 9 x3.2.2.1, .sl 3 x3.2.2.2.1] closed1 = true then
              ((appD true h2 4 88 34 s5 (.fz [[.str x3.1, .sl 5 (VS.strip x3.2.1), .sl 9 (VS.strip x3.2.2.1), .sl 3 (VS.strip x3.2.2.2.1)]] (.ex 1))).bind fun r4 =>
                (L39_0 n m s0 r4.1 s18 (IntKind.wrap .i64 (s19 + 1)) r4.2))
              else none)))))
    (some (.tup [.sl 34 s5, .bool true], h))) := by kernel_rfl
theorem f39_eq (n : Nat) (a0 : VP) (h : VH) : bodyV P tab (vF P tab n) n 39 [.ptr a0] h =
  ((callD (vF P tab n) P false (.one (.flat (.int .u8))) 34 [.ptr a0] h).bind fun r1 =>
    (cond (decide (((IntKind.wrap .i64 r1.1) : Int) < 1))
      (some (.tup [.sl 34 .nil, .bool false], r1.2))
      (cond (decide (((IntKind.wrap .i64 r1.1) : Int) > 4))
        (some (.tup [.sl 34 .nil, .bool false], r1.2))
        (L39_0 n n a0 .nil (IntKind.wrap .i64 r1.1) 0 r1.2)))) := by kernel_rfl
/-! (*godown/wire.Reader).End -/
theorem f40_eq (n : Nat) (a0 : VP) (h : VH) : bodyV P tab (vF P tab n) n 40 [.ptr a0] h =
  ((callD (vF P tab n) P false (.one (.flat .bool)) 76 [.ptr a0] h).bind fun r1 =>
    (cond (!r1.1)
      (some (.int .i64 2, r1.2))
      ((callD (vF P tab n) P false (.one (.flat (.int .i64))) 79 [.ptr a0] r1.2).bind fun r2 =>
        (cond (decide ((r2.1 : Int) > 0))
          (some (.int .i64 2, r2.2))
          (some (.int .i64 0, r2.2)))))) := by kernel_rfl
/-! godown/godownref04.Texts -/
noncomputable def L41_0 (n m : Nat) (s0 : VS) (s3 : VS) (s4 : Int) (h : VH) : VRes := loopAt P tab 41 [1, 1, 0, 1, 0] n [] m [.sl 9 s0, .undef, .undef, .sl 5 s3, .int .i64 s4, .undef, .undef, .undef, .undef, .undef, .undef, .undef, .undef, .undef, .undef, .undef, .undef, .undef, .undef, .undef, .undef, .undef, .undef] h
theorem L41_0_eq (n m : Nat) (s0 : VS) (s3 : VS) (s4 : Int) (h : VH) : L41_0 n (m + 1) s0 s3 s4 h =
  (cond (decide ((s4 : Int) < ((VS.len s0 : Nat) : Int)))
    ((ixV 1 s0 s4).bind fun p1 =>
      ((ldV (.flat .str) h p1).bind fun x2 =>
        ((callD (vF P tab n) P false (.one (.flat (.slice 5))) 13 [.str x2] h).bind fun r3 =>
          ((appD true r3.2 1 1 5 s3 r3.1).bind fun r4 =>
            (L41_0 n m s0 r4.1 (IntKind.wrap .i64 (s4 + 1)) r4.2)))))
    (some (.sl 5 s3, h))) := by kernel_rfl
theorem f41_eq (n : Nat) (a0 : VS) (h : VH) : bodyV P tab (vF P tab n) n 41 [.sl 9 a0] h =
  (L41_0 n n a0 (.fz [[.int .u8 (IntKind.wrap .u8 ((VS.len a0 : Nat) : Int))]] (.ex 1)) 0 h) := by kernel_rfl
/-! godown/godownref11.pathed -/
theorem f42_eq (n : Nat) (a0 : Int) (h : VH) : bodyV P tab (vF P tab n) n 42 [.int .u8 a0] h =
  (cond (decide ((a0 : Int) ≥ 2))
    (cond (decide ((a0 : Int) ≤ 6))
      (some (.bool true, h))
      (cond (decide ((a0 : Int) ≥ 8))
        (some (.bool (decide ((a0 : Int) ≤ 10)), h))
        (some (.bool false, h))))
    (cond (decide ((a0 : Int) ≥ 8))
      (some (.bool (decide ((a0 : Int) ≤ 10)), h))
      (some (.bool false, h)))) := by kernel_rfl
/-! (*godown/wire.Writer).Byte -/
theorem f43_eq (n : Nat) (a0 : VP) (a1 : Int) (h : VH) : bodyV P tab (vF P tab n) n 43 [.ptr a0, .int .u8 a1] h =
  ((callD (vF P tab n) P false (.one (.flat .ptr)) 80 [.ptr a0, .sl 5 (.fz [[.int .u8 a1]] (.ex 1))] h).bind fun r1 =>
    (some (.ptr r1.1, r1.2))) := by kernel_rfl
/-! (*godown/wire.Writer).Text -/
theorem f44_eq (n : Nat) (a0 : VP) (a1 : ByteArray) (h : VH) : bodyV P tab (vF P tab n) n 44 [.ptr a0, .str a1] h =
  ((callD (vF P tab n) P false (.one (.flat .ptr)) 57 [.ptr a0, .int .i64 ((a1).size : Int)] h).bind fun r1 =>
    ((callD (vF P tab n) P false (.one (.flat .ptr)) 80 [.ptr r1.1, .sl 5 (.fz (bytesE a1) .no)] r1.2).bind fun r2 =>
      (some (.ptr r2.1, r2.2)))) := by kernel_rfl
/-! (*godown/wire.Writer).Texts -/
noncomputable def L45_0 (n m : Nat) (s0 : VP) (s12 : VS) (s13 : Int) (s14 : Int) (h : VH) : VRes := loopAt P tab 45 [1, 1, 0, 1, 0] n [] m [.ptr s0, .undef, .undef, .undef, .undef, .undef, .undef, .undef, .undef, .undef, .undef, .undef, .sl 9 s12, .int .i64 s13, .int .i64 s14, .undef, .undef, .undef, .undef, .undef, .undef, .undef, .undef] h
theorem L45_0_eq (n m : Nat) (s0 : VP) (s12 : VS) (s13 : Int) (s14 : Int) (h : VH) : L45_0 n (m + 1) s0 s12 s13 s14 h =
  (cond (decide ((s14 : Int) < s13))
    ((ixV 1 s12 s14).bind fun p1 =>
      ((ldV (.flat .str) h p1).bind fun x2 =>
        ((callD (vF P tab n) P false (.one (.flat .ptr)) 44 [.ptr s0, .str x2] h).bind fun r3 =>
          (L45_0 n m s0 s12 s13 (IntKind.wrap .i64 (s14 + 1)) r3.2))))
    (some (.ptr s0, h))) := by kernel_rfl
theorem f45_eq (n : Nat) (a0 : VP) (a1 : VS) (h : VH) : bodyV P tab (vF P tab n) n 45 [.ptr a0, .sl 9 a1] h =
  ((callD (vF P tab n) P false (.one (.flat .ptr)) 43 [.ptr a0, .int .u8 (IntKind.wrap .u8 ((VS.len a1 : Nat) : Int))] h).bind fun r1 =>
    (L45_0 n n a0 a1 ((VS.len a1 : Nat) : Int) 0 r1.2)) := by kernel_rfl
/-! (*godown/wire.Writer).Bytes -/
theorem f46_eq (n : Nat) (a0 : VP) (h : VH) : bodyV P tab (vF P tab n) n 46 [.ptr a0] h =
  (cond (VP.isNil a0)
    (some (.sl 5 .nil, h))
    ((nn a0).bind fun p1 =>
      ((atO p1 0).bind fun p2 =>
        ((ldV (.flat (.slice 5)) h p2).bind fun x3 =>
          ((callD (vF P tab n) P false (.one (.flat (.slice 5))) 73 [.sl 5 x3] h).bind fun r4 =>
            (some (.sl 5 r4.1, r4.2))))))) := by kernel_rfl
/-! godown/godownref01.Texts -/
noncomputable def L55_0 (n m : Nat) (s0 : VS) (s1 : VS) (s5 : Int) (h : VH) : VRes := loopAt P tab 55 [1, 1, 0, 1, 0] n [] m [.sl 9 s0, .sl 9 s1, .undef, .undef, .undef, .int .i64 s5, .undef, .undef, .undef, .undef, .undef, .undef, .undef, .undef, .undef, .undef, .undef, .undef, .undef, .undef, .undef, .undef, .undef, .undef, .undef, .undef] h
theorem L55_0_eq (n m : Nat) (s0 : VS) (s1 : VS) (s5 : Int) (h : VH) : L55_0 n (m + 1) s0 s1 s5 h =
  (cond (decide ((s5 : Int) < ((VS.len s0 : Nat) : Int)))
    ((ixV 1 s0 s5).bind fun p1 =>
      ((ldV (.flat .str) h p1).bind fun x2 =>
        ((ixV 1 s1 s5).bind fun p3 =>
          ((ldV (.flat .str) h p3).bind fun x4 =>
            (cond (!(strEq x2 x4))
              (some (.bool false, h))
              (L55_0 n m s0 s1 (IntKind.wrap .i64 (s5 + 1)) h))))))
    (some (.bool true, h))) := by kernel_rfl
theorem f55_eq (n : Nat) (a0 : VS) (a1 : VS) (h : VH) : bodyV P tab (vF P tab n) n 55 [.sl 9 a0, .sl 9 a1] h =
  (cond ((((VS.len a0 : Nat) : Int) : Int) != ((VS.len a1 : Nat) : Int))
    (some (.bool false, h))
    (L55_0 n n a0 a1 0 h)) := by kernel_rfl
/-! godown/godownref01.Ints -/
noncomputable def L56_0 (n m : Nat) (s0 : VS) (s1 : VS) (s5 : Int) (h : VH) : VRes := loopAt P tab 56 [1, 1, 0, 1, 0] n [] m [.sl 3 s0, .sl 3 s1, .undef, .undef, .undef, .int .i64 s5, .undef, .undef, .undef, .undef, .undef, .undef, .undef, .undef, .undef, .undef, .undef, .undef, .undef, .undef, .undef, .undef, .undef, .undef, .undef, .undef] h
theorem L56_0_eq (n m : Nat) (s0 : VS) (s1 : VS) (s5 : Int) (h : VH) : L56_0 n (m + 1) s0 s1 s5 h =
  (cond (decide ((s5 : Int) < ((VS.len s0 : Nat) : Int)))
    ((ixV 1 s0 s5).bind fun p1 =>
      ((ldV (.flat (.int .i64)) h p1).bind fun x2 =>
        ((ixV 1 s1 s5).bind fun p3 =>
          ((ldV (.flat (.int .i64)) h p3).bind fun x4 =>
            (cond ((x2 : Int) != x4)
              (some (.bool false, h))
              (L56_0 n m s0 s1 (IntKind.wrap .i64 (s5 + 1)) h))))))
    (some (.bool true, h))) := by kernel_rfl
theorem f56_eq (n : Nat) (a0 : VS) (a1 : VS) (h : VH) : bodyV P tab (vF P tab n) n 56 [.sl 3 a0, .sl 3 a1] h =
  (cond ((((VS.len a0 : Nat) : Int) : Int) != ((VS.len a1 : Nat) : Int))
    (some (.bool false, h))
    (L56_0 n n a0 a1 0 h)) := by kernel_rfl
/-! (*godown/wire.Writer).Num -/
theorem f57_eq (n : Nat) (a0 : VP) (a1 : Int) (h : VH) : bodyV P tab (vF P tab n) n 57 [.ptr a0, .int .i64 a1] h =
  ((shrI .i64 a1 8).bind fun x1 =>
    ((callD (vF P tab n) P false (.one (.flat .ptr)) 80 [.ptr a0, .sl 5 (.fz [[.int .u8 (IntKind.wrap .u8 x1)], [.int .u8 (IntKind.wrap .u8 a1)]] (.ex 2))] h).bind fun r2 =>
      (some (.ptr r2.1, r2.2)))) := by kernel_rfl
/-! (*godown/wire.Writer).Wide -/
noncomputable def L58_0 (n m : Nat) (s0 : VP) (s1 : Int) (s5 : Int) (h : VH) : VRes := loopAt P tab 58 [1, 0, 1, 0] n [] m [.ptr s0, .int .u64 s1, .undef, .undef, .undef, .int .i64 s5, .undef, .undef, .undef, .undef, .undef, .undef, .undef, .undef, .undef, .undef, .undef, .undef] h
theorem L58_0_eq (n m : Nat) (s0 : VP) (s1 : Int) (s5 : Int) (h : VH) : L58_0 n (m + 1) s0 s1 s5 h =
  (cond (decide ((s5 : Int) ≥ 0))
    ((shrI .u64 s1 s5).bind fun x1 =>
      ((callD (vF P tab n) P false (.one (.flat .ptr)) 80 [.ptr s0, .sl 5 (.fz [[.int .u8 (IntKind.wrap .u8 x1)]] (.ex 1))] h).bind fun r2 =>
        (L58_0 n m s0 s1 (IntKind.wrap .i64 (s5 - 8)) r2.2)))
    (some (.ptr s0, h))) := by kernel_rfl
theorem f58_eq (n : Nat) (a0 : VP) (a1 : Int) (h : VH) : bodyV P tab (vF P tab n) n 58 [.ptr a0, .int .u64 a1] h =
  (L58_0 n n a0 a1 56 h) := by kernel_rfl
/-! godown/real.Bits -/
theorem f59_eq (n : Nat) (a0 : Nat) (h : VH) : bodyV P tab (vF P tab n) n 59 [.flt .f64 a0] h =
  ((callD (vF P tab n) P false (.one (.flat (.flt .f64))) 91 [.flt .f64 a0] h).bind fun r1 =>
    ((pvD P (.int .u64) (ext90 #[.float .f64 r1.1])).bind fun x2 =>
      (some (.int .u64 x2, r1.2)))) := by kernel_rfl
/-! (*godown/wire.Reader).Num -/
theorem f60_eq (n : Nat) (a0 : VP) (h : VH) : bodyV P tab (vF P tab n) n 60 [.ptr a0] h =
  ((callD (vF P tab n) P false (.one (.flat (.int .u64))) 74 [.ptr a0, .int .i64 2] h).bind fun r1 =>
    (some (.int .i64 (IntKind.wrap .i64 r1.1), r1.2))) := by kernel_rfl
/-! godown/real.Of -/
theorem f61_eq (n : Nat) (a0 : Int) (h : VH) : bodyV P tab (vF P tab n) n 61 [.int .u64 a0] h =
  ((pvD P (.flt .f64) (ext24 #[.int .u64 a0])).bind fun x1 =>
    ((callD (vF P tab n) P false (.one (.flat (.int .u64))) 59 [.flt .f64 x1] h).bind fun r2 =>
      (cond ((r2.1 : Int) != a0)
        (some (.tup [.flt .f64 0, .int .i64 2], r2.2))
        (some (.tup [.flt .f64 x1, .int .i64 0], r2.2))))) := by kernel_rfl
/-! (*godown/wire.Reader).Wide -/
theorem f62_eq (n : Nat) (a0 : VP) (h : VH) : bodyV P tab (vF P tab n) n 62 [.ptr a0] h =
  ((callD (vF P tab n) P false (.one (.flat (.int .u64))) 74 [.ptr a0, .int .i64 8] h).bind fun r1 =>
    (some (.int .u64 r1.1, r1.2))) := by kernel_rfl
/-! godown/godownref04.Wide -/
noncomputable def L63_0 (n m : Nat) (s0 : Int) (s3 : VS) (s4 : Int) (h : VH) : VRes := loopAt P tab 63 [1, 1, 0, 1, 0] n [] m [.int .u64 s0, .undef, .undef, .sl 5 s3, .int .i64 s4, .undef, .undef, .undef, .undef, .undef, .undef, .undef, .undef, .undef, .undef, .undef, .undef, .undef, .undef] h
theorem L63_0_eq (n m : Nat) (s0 : Int) (s3 : VS) (s4 : Int) (h : VH) : L63_0 n (m + 1) s0 s3 s4 h =
  (cond (decide ((s4 : Int) < 8))
    ((shrI .u64 s0 (IntKind.wrap .i64 (56 - (IntKind.wrap .i64 (8 * s4))))).bind fun x1 =>
      ((appD true h 1 1 5 s3 (.fz [[.int .u8 (IntKind.wrap .u8 x1)]] (.ex 1))).bind fun r2 =>
        (L63_0 n m s0 r2.1 (IntKind.wrap .i64 (s4 + 1)) r2.2)))
    (some (.sl 5 s3, h))) := by kernel_rfl
theorem f63_eq (n : Nat) (a0 : Int) (h : VH) : bodyV P tab (vF P tab n) n 63 [.int .u64 a0] h =
  (L63_0 n n a0 .nil 0 h) := by kernel_rfl
/-! godown/godownref01.Bits -/
theorem f64_eq (n : Nat) (a0 : Nat) (h : VH) : bodyV P tab (vF P tab n) n 64 [.flt .f64 a0] h =
  ((pvD P (.int .u64) (ext90 #[.float .f64 a0])).bind fun x1 =>
    ((remI x1 9223372036854775808).bind fun x2 =>
      (cond (decide ((x2 : Int) > 9218868437227405312))
        (some (.int .u64 9221120237041090561, h))
        (cond ((x1 : Int) == 9223372036854775808)
          (some (.int .u64 0, h))
          (some (.int .u64 x1, h)))))) := by kernel_rfl
/-! godown/real.Same -/
theorem f65_eq (n : Nat) (a0 : Nat) (a1 : Nat) (h : VH) : bodyV P tab (vF P tab n) n 65 [.flt .f64 a0, .flt .f64 a1] h =
  ((callD (vF P tab n) P false (.one (.flat (.int .u64))) 59 [.flt .f64 a0] h).bind fun r1 =>
    ((callD (vF P tab n) P false (.one (.flat (.int .u64))) 59 [.flt .f64 a1] r1.2).bind fun r2 =>
      (some (.bool ((r1.1 : Int) == r2.1), r2.2)))) := by kernel_rfl
/-! bytes.Equal -/
theorem f66_eq (n : Nat) (a0 : VS) (a1 : VS) (h : VH) : bodyV P tab (vF P tab n) n 66 [.sl 5 a0, .sl 5 a1] h =
  ((strV h 5 a0).bind fun z1 =>
    ((strV h 5 a1).bind fun z2 =>
      (some (.bool (strEq z1 z2), h)))) := by kernel_rfl
/-! slices.Equal[[]string,string] -/
noncomputable def L67_0 (n m : Nat) (s0 : VS) (s1 : VS) (s12 : Int) (s13 : Int) (h : VH) : VRes := loopAt P tab 67 [1, 1, 0, 1, 0] n [] m [.sl 9 s0, .sl 9 s1, .undef, .undef, .undef, .undef, .undef, .undef, .undef, .undef, .undef, .undef, .int .i64 s12, .int .i64 s13, .undef, .undef, .undef, .undef, .undef, .undef, .undef, .undef, .undef, .undef, .undef, .undef] h
theorem L67_0_eq (n m : Nat) (s0 : VS) (s1 : VS) (s12 : Int) (s13 : Int) (h : VH) : L67_0 n (m + 1) s0 s1 s12 s13 h =
  (cond (decide ((s13 : Int) < s12))
    ((ixV 1 s0 s13).bind fun p1 =>
      ((ldV (.flat .str) h p1).bind fun x2 =>
        ((ixV 1 s1 s13).bind fun p3 =>
          ((ldV (.flat .str) h p3).bind fun x4 =>
            (cond (!(strEq x2 x4))
              (some (.bool false, h))
              (L67_0 n m s0 s1 s12 (IntKind.wrap .i64 (s13 + 1)) h))))))
    (some (.bool true, h))) := by kernel_rfl
theorem f67_eq (n : Nat) (a0 : VS) (a1 : VS) (h : VH) : bodyV P tab (vF P tab n) n 67 [.sl 9 a0, .sl 9 a1] h =
  (cond ((((VS.len a0 : Nat) : Int) : Int) != ((VS.len a1 : Nat) : Int))
    (some (.bool false, h))
    (L67_0 n n a0 a1 ((VS.len a0 : Nat) : Int) 0 h)) := by kernel_rfl
/-! (*godown/godownref04.In).Wide -/
noncomputable def L68_0 (n m : Nat) (s5 : VS) (s6 : Int) (s7 : Int) (h : VH) : VRes := loopAt P tab 68 [1, 1, 1, 0, 1, 0] n [] m [.undef, .undef, .undef, .undef, .undef, .sl 5 s5, .int .u64 s6, .int .i64 s7, .undef, .undef, .undef, .undef, .undef, .undef, .undef, .undef, .undef, .undef, .undef, .undef, .undef, .undef, .undef, .undef, .undef, .undef] h
theorem L68_0_eq (n m : Nat) (s5 : VS) (s6 : Int) (s7 : Int) (h : VH) : L68_0 n (m + 1) s5 s6 s7 h =
  (cond (decide ((s7 : Int) < ((VS.len s5 : Nat) : Int)))
    ((ixV 1 s5 s7).bind fun p1 =>
      ((ldV (.flat (.int .u8)) h p1).bind fun x2 =>
        (L68_0 n m s5 (IntKind.wrap .u64 ((IntKind.wrap .u64 (s6 * 256)) + (IntKind.wrap .u64 x2))) (IntKind.wrap .i64 (s7 + 1)) h)))
    (some (.int .u64 s6, h))) := by kernel_rfl
theorem f68_eq (n : Nat) (a0 : VP) (a1 : Int) (h : VH) : bodyV P tab (vF P tab n) n 68 [.ptr a0, .int .i64 a1] h =
  ((callD (vF P tab n) P false (.one (.flat (.slice 5))) 92 [.ptr a0, .int .i64 a1] h).bind fun r1 =>
    (L68_0 n n r1.1 0 0 r1.2)) := by kernel_rfl
/-! godown/godownref01.Of -/
theorem f69_eq (n : Nat) (a0 : Int) (h : VH) : bodyV P tab (vF P tab n) n 69 [.int .u64 a0] h =
  ((remI a0 9223372036854775808).bind fun x1 =>
    (cond (decide ((x1 : Int) > 9218868437227405312))
      (cond ((a0 : Int) != 9221120237041090561)
        (some (.tup [.flt .f64 0, .int .i64 2], h))
        (cond ((a0 : Int) == 9223372036854775808)
          (some (.tup [.flt .f64 0, .int .i64 2], h))
          ((pvD P (.flt .f64) (ext24 #[.int .u64 a0])).bind fun x2 =>
            (some (.tup [.flt .f64 x2, .int .i64 0], h)))))
      (cond ((a0 : Int) == 9223372036854775808)
        (some (.tup [.flt .f64 0, .int .i64 2], h))
        ((pvD P (.flt .f64) (ext24 #[.int .u64 a0])).bind fun x3 =>
          (some (.tup [.flt .f64 x3, .int .i64 0], h)))))) := by kernel_rfl
/-! (*godown/godownref04.In).Text -/
theorem f70_eq (n : Nat) (a0 : VP) (h : VH) : bodyV P tab (vF P tab n) n 70 [.ptr a0] h =
  ((callD (vF P tab n) P false (.one (.flat (.int .u64))) 68 [.ptr a0, .int .i64 2] h).bind fun r1 =>
    ((nn a0).bind fun p2 =>
      ((atO p2 1).bind fun p3 =>
        ((ldV (.flat .bool) r1.2 p3).bind fun x4 =>
          (cond x4
            (some (.str ⟨#[]⟩, r1.2))
            ((callD (vF P tab n) P false (.one (.flat (.slice 5))) 92 [.ptr a0, .int .i64 (IntKind.wrap .i64 r1.1)] r1.2).bind fun r5 =>
              ((strV r5.2 5 r5.1).bind fun z6 =>
                (some (.str z6, r5.2))))))))) := by kernel_rfl
/-! (*godown/godownref04.In).Texts -/
noncomputable def L71_0 (n m : Nat) (s0 : VP) (s5 : Int) (s6 : VS) (s7 : Int) (h : VH) : VRes := loopAt P tab 71 [1, 1, 1, 1, 0, 1, 0] n [] m [.ptr s0, .undef, .undef, .undef, .undef, .int .i64 s5, .sl 9 s6, .int .i64 s7, .undef, .undef, .undef, .undef, .undef, .undef, .undef, .undef, .undef, .undef, .undef, .undef, .undef, .undef, .undef, .undef, .undef, .undef, .undef, .undef, .undef, .undef, .undef, .undef, .undef, .undef, .undef, .undef, .undef, .undef, .undef, .undef, .undef, .undef] h
theorem L71_0_eq (n m : Nat) (s0 : VP) (s5 : Int) (s6 : VS) (s7 : Int) (h : VH) : L71_0 n (m + 1) s0 s5 s6 s7 h =
  (cond (decide ((s7 : Int) < s5))
    ((nn s0).bind fun p1 =>
      ((atO p1 1).bind fun p2 =>
        ((ldV (.flat .bool) h p2).bind fun x3 =>
          (cond (!x3)
            ((callD (vF P tab n) P false (.one (.flat .str)) 70 [.ptr s0] h).bind fun r4 =>
              ((appD true r4.2 1 16 9 s6 (.fz [[.str r4.1]] (.ex 1))).bind fun r5 =>
                (L71_0 n m s0 s5 r5.1 (IntKind.wrap .i64 (s7 + 1)) r5.2)))
            ((nn s0).bind fun p6 =>
              ((atO p6 1).bind fun p7 =>
                ((ldV (.flat .bool) h p7).bind fun x8 =>
                  (cond x8
                    (some (.sl 9 .nil, h))
                    (some (.sl 9 s6, h))))))))))
    ((nn s0).bind fun p9 =>
      ((atO p9 1).bind fun p10 =>
        ((ldV (.flat .bool) h p10).bind fun x11 =>
          (cond x11
            (some (.sl 9 .nil, h))
            (some (.sl 9 s6, h))))))) := by kernel_rfl
theorem f71_eq (n : Nat) (a0 : VP) (a1 : Int) (h : VH) : bodyV P tab (vF P tab n) n 71 [.ptr a0, .int .i64 a1] h =
  ((callD (vF P tab n) P false (.one (.flat (.int .u64))) 68 [.ptr a0, .int .i64 1] h).bind fun r1 =>
    (cond (decide (((IntKind.wrap .i64 r1.1) : Int) > a1))
      ((nn a0).bind fun p2 =>
        ((atO p2 0).bind fun p3 =>
          ((stV r1.2 p3 [.sl 5 .nil]).bind fun h4 =>
            ((nn a0).bind fun p5 =>
              ((atO p5 1).bind fun p6 =>
                ((stV h4 p6 [.bool true]).bind fun h7 =>
                  (L71_0 n n a0 (IntKind.wrap .i64 r1.1) .nil 0 h7)))))))
      (L71_0 n n a0 (IntKind.wrap .i64 r1.1) .nil 0 r1.2))) := by kernel_rfl
/-! (*godown/godownref04.In).Whole -/
theorem f72_eq (n : Nat) (a0 : VP) (h : VH) : bodyV P tab (vF P tab n) n 72 [.ptr a0] h =
  ((nn a0).bind fun p1 =>
    ((atO p1 1).bind fun p2 =>
      ((ldV (.flat .bool) h p2).bind fun x3 =>
        (cond (!x3)
          ((nn a0).bind fun p4 =>
            ((atO p4 0).bind fun p5 =>
              ((ldV (.flat (.slice 5)) h p5).bind fun x6 =>
                (some (.bool ((((VS.len x6 : Nat) : Int) : Int) == 0), h)))))
          (some (.bool false, h)))))) := by kernel_rfl
/-! bytes.Clone -/
theorem f73_eq (n : Nat) (a0 : VS) (h : VH) : bodyV P tab (vF P tab n) n 73 [.sl 5 a0] h =
  (cond (VS.isNil a0)
    (some (.sl 5 .nil, h))
    ((appD true h 1 1 5 (.fz [] (.ex 0)) a0).bind fun r1 =>
      (some (.sl 5 r1.1, r1.2)))) := by kernel_rfl
/-! (*godown/wire.Reader).number -/
noncomputable def L74_0 (n m : Nat) (s5 : Int) (s10 : VS) (s11 : Int) (s12 : Int) (h : VH) : VRes := loopAt P tab 74 [1, 1, 0, 1, 0] n [] m [.undef, .undef, .undef, .undef, .undef, .int .u64 s5, .undef, .undef, .undef, .undef, .sl 5 s10, .int .i64 s11, .int .i64 s12, .undef, .undef, .undef, .undef, .undef, .undef, .undef, .undef, .undef, .undef] h
theorem L74_0_eq (n m : Nat) (s5 : Int) (s10 : VS) (s11 : Int) (s12 : Int) (h : VH) : L74_0 n (m + 1) s5 s10 s11 s12 h =
  (cond (decide ((s12 : Int) < s11))
    ((ixV 1 s10 s12).bind fun p1 =>
      ((ldV (.flat (.int .u8)) h p1).bind fun x2 =>
        ((shlI .u64 s5 8).bind fun x3 =>
          (L74_0 n m (bitI .or .u64 x3 (IntKind.wrap .u64 x2)) s10 s11 (IntKind.wrap .i64 (s12 + 1)) h))))
    (some (.int .u64 s5, h))) := by kernel_rfl
theorem f74_eq (n : Nat) (a0 : VP) (a1 : Int) (h : VH) : bodyV P tab (vF P tab n) n 74 [.ptr a0, .int .i64 a1] h =
  ((callD (vF P tab n) P false (.one (.flat (.slice 5))) 75 [.ptr a0, .int .i64 a1] h).bind fun r1 =>
    (L74_0 n n 0 r1.1 ((VS.len r1.1 : Nat) : Int) 0 r1.2)) := by kernel_rfl
/-! (*godown/wire.Reader).take -/
theorem f75_eq (n : Nat) (a0 : VP) (a1 : Int) (h : VH) : bodyV P tab (vF P tab n) n 75 [.ptr a0, .int .i64 a1] h =
  ((callD (vF P tab n) P false (.one (.flat .bool)) 76 [.ptr a0] h).bind fun r1 =>
    (cond (!r1.1)
      (some (.sl 5 .nil, r1.2))
      ((nn a0).bind fun p2 =>
        ((atO p2 0).bind fun p3 =>
          ((ldV (.flat (.slice 5)) r1.2 p3).bind fun x4 =>
            (cond (decide ((a1 : Int) > ((VS.len x4 : Nat) : Int)))
              ((callD (vF P tab n) P false (.tup []) 77 [.ptr a0] r1.2).bind fun r5 =>
                (some (.sl 5 .nil, r5.2)))
              ((nn a0).bind fun p6 =>
                ((atO p6 0).bind fun p7 =>
                  ((ldV (.flat (.slice 5)) r1.2 p7).bind fun x8 =>
                    ((cutD r1.2 5 1 x8 none (some a1) (some a1)).bind fun z9 =>
                      ((nn a0).bind fun p10 =>
                        ((atO p10 0).bind fun p11 =>
                        ((ldV (.flat (.slice 5)) r1.2 p11).bind fun x12 =>
                        ((cutD r1.2 5 1 x12 (some a1) none none).bind fun z13 =>
                        ((nn a0).bind fun p14 =>
                        ((atO p14 0).bind fun p15 =>
                        ((stV r1.2 p15 [.sl 5 z13]).bind fun h16 =>
                        (some (.sl 5 z9, h16))))))))))))))))))) := by kernel_rfl
/-! (*godown/wire.Reader).OK -/
theorem f76_eq (n : Nat) (a0 : VP) (h : VH) : bodyV P tab (vF P tab n) n 76 [.ptr a0] h =
  (cond (!VP.isNil a0)
    ((nn a0).bind fun p1 =>
      ((atO p1 1).bind fun p2 =>
        ((ldV (.flat .bool) h p2).bind fun x3 =>
          (some (.bool (!x3), h)))))
    (some (.bool false, h))) := by kernel_rfl
/-! (*godown/wire.Reader).give -/
theorem f77_eq (n : Nat) (a0 : VP) (h : VH) : bodyV P tab (vF P tab n) n 77 [.ptr a0] h =
  ((nn a0).bind fun p1 =>
    ((atO p1 0).bind fun p2 =>
      ((stV h p2 [.sl 5 .nil]).bind fun h3 =>
        ((nn a0).bind fun p4 =>
          ((atO p4 1).bind fun p5 =>
            ((stV h3 p5 [.bool true]).bind fun h6 =>
              (some (.tup [], h6)))))))) := by kernel_rfl
/-! godown/request.out -/
noncomputable def L78_0 (n m : Nat) (s0 : VP) (s3 : Nat) (s4 : Nat) (s6 : Nat) (s21 : Int) (s22 : Int) (h : VH) : VRes := loopAt P tab 78 [1, 1, 1, 1, 0, 1, 0] n [] m [.ptr s0, .undef, .undef, .ptr (.ob s3 0), .ptr (.ob s4 0), .undef, .ptr (.ob s6 0), .undef, .undef, .undef, .undef, .undef, .undef, .undef, .undef, .undef, .undef, .undef, .undef, .undef, .undef, .int .i64 s21, .int .i64 s22, .undef, .undef, .undef, .undef, .undef, .undef, .undef, .undef, .undef, .undef, .undef, .undef, .undef, .undef, .undef, .undef] h
theorem L78_0_eq (n m : Nat) (s0 : VP) (s3 : Nat) (s4 : Nat) (s6 : Nat) (s21 : Int) (s22 : Int) (h : VH) : L78_0 n (m + 1) s0 s3 s4 s6 s21 s22 h =
  (cond (decide ((s22 : Int) < s21))
    ((ldV (.flat (.slice 3)) h (.ob s6 3)).bind fun x1 =>
      ((callD (vF P tab n) P false (.one (.flat (.int .u8))) 34 [.ptr s0] h).bind fun r2 =>
        (cond (V.stays r2.2 [(.ob s6 3, .slice 3, .sl 3 x1)])
          (cond (V.stays r2.2 [(.ob s6 3, .slice 3, .sl 3 x1)])
            ((appD true r2.2 1 8 3 x1 (.fz [[.int .i64 (IntKind.wrap .i64 r2.1)]] (.ex 1))).bind fun r3 =>
              ((stV r3.2 (.ob s6 3) [.sl 3 r3.1]).bind fun h4 =>
                (L78_0 n m s0 s3 s4 s6 s21 (IntKind.wrap .i64 (s22 + 1)) h4)))
            none)
          none)))
    ((ldV (.agg [.str, .slice 5, .slice 9, .slice 3]) h (.ob s6 0)).bind fun x5 =>
      ((ldV (.flat (.slice 3)) h (.ob s6 3)).bind fun x6 =>
        ((callD (vF P tab n) P false (.one (.flat .bool)) 93 [.sl 3 x6, .func (.func 94) [] [.ptr (.ob s3 0)]] h).bind fun r7 =>
          (cond (V.stays r7.2 [(.ob s6 0, .str, .str x5.1), (.ob s6 1, .slice 5, .sl 5 x5.2.1), (.ob s6 2, .slice 9, .sl 9 x5.2.2.1), (.ob s6 3, .slice 3, .sl 3 x5.2.2.2.1)])
            ((stV r7.2 (.ob s4 0) [.str x5.1, .sl 5 x5.2.1, .sl 9 x5.2.2.1, .sl 3 x5.2.2.2.1]).bind fun h8 =>
              (cond (V.stays h8 [(.ob s6 3, .slice 3, .sl 3 x6)])
                (((ldV (.agg [.str, .slice 5, .slice 9, .slice 3]) h8 (.ob s4 0)).bind fun x9 =>
                    some (.tup [.agg [.str x9.1, .sl 5 x9.2.1, .sl 9 x9.2.2.1, .sl 3 x9.2.2.2.1], .bool (!r7.1)], h8)))
                none))
            none))))) := by kernel_rfl
theorem f78_eq (n : Nat) (a0 : VP) (a1 : Int) (h : VH) : bodyV P tab (vF P tab n) n 78 [.ptr a0, .int .i64 a1] h =
  ((callD (vF P tab n) P false (.one (.flat .str)) 35 [.ptr a0] (List.append (α := VO) (h ++ [.row (3 + boxK) [.int .i64 a1]]) [.row (34 + boxK) [.str ⟨#[]⟩, .sl 5 .nil, .sl 9 .nil, .sl 3 .nil]])).bind fun r1 =>
    ((callD (vF P tab n) P false (.one (.flat (.slice 5))) 36 [.ptr a0] r1.2).bind fun r2 =>
      ((callD (vF P tab n) P false (.one (.flat (.slice 9))) 37 [.ptr a0, .int .i64 16] r2.2).bind fun r3 =>
        ((stV (r3.2 ++ [.row (34 + boxK) [.str ⟨#[]⟩, .sl 5 .nil, .sl 9 .nil, .sl 3 .nil]]) (.ob r3.2.length 0) [.str r1.1, .sl 5 r2.1, .sl 9 r3.1, .sl 3 .nil]).bind fun h4 =>
          ((callD (vF P tab n) P false (.one (.flat (.int .u8))) 34 [.ptr a0] h4).bind fun r5 =>
            (cond (decide (((IntKind.wrap .i64 r5.1) : Int) ≥ 4))
              ((ldV (.agg [.str, .slice 5, .slice 9, .slice 3]) r5.2 (.ob r3.2.length 0)).bind fun x6 =>
                ((stV r5.2 (.ob (List.length ((h ++ [.row (3 + boxK) [.int .i64 a1]]) : VH)) 0) [.str x6.1, .sl 5 x6.2.1, .sl 9 x6.2.2.1, .sl 3 x6.2.2.2.1]).bind fun h7 =>
                  (((ldV (.agg [.str, .slice 5, .slice 9, .slice 3]) h7 (.ob (List.length ((h ++ [.row (3 + boxK) [.int .i64 a1]]) : VH)) 0)).bind fun x8 =>
                      some (.tup [.agg [.str x8.1, .sl 5 x8.2.1, .sl 9 x8.2.2.1, .sl 3 x8.2.2.2.1], .bool false], h7)))))
              (L78_0 n n a0 h.length (List.length ((h ++ [.row (3 + boxK) [.int .i64 a1]]) : VH)) r3.2.length (IntKind.wrap .i64 r5.1) 0 r5.2))))))) := by kernel_rfl
/-! (*godown/wire.Reader).Left -/
theorem f79_eq (n : Nat) (a0 : VP) (h : VH) : bodyV P tab (vF P tab n) n 79 [.ptr a0] h =
  (cond (VP.isNil a0)
    (some (.int .i64 0, h))
    ((nn a0).bind fun p1 =>
      ((atO p1 0).bind fun p2 =>
        ((ldV (.flat (.slice 5)) h p2).bind fun x3 =>
          (some (.int .i64 ((VS.len x3 : Nat) : Int), h)))))) := by kernel_rfl
/-! (*godown/wire.Writer).lay -/
theorem f80_eq (n : Nat) (a0 : VP) (a1 : VS) (h : VH) : bodyV P tab (vF P tab n) n 80 [.ptr a0, .sl 5 a1] h =
  (cond (!VP.isNil a0)
    ((nn a0).bind fun p1 =>
      ((atO p1 0).bind fun p2 =>
        ((ldV (.flat (.slice 5)) h p2).bind fun x3 =>
          ((appD true h 1 1 5 x3 a1).bind fun r4 =>
            ((nn a0).bind fun p5 =>
              ((atO p5 0).bind fun p6 =>
                ((stV r4.2 p6 [.sl 5 r4.1]).bind fun h7 =>
                  (some (.ptr a0, h7)))))))))
    (some (.ptr a0, h))) := by kernel_rfl
/-! godown/real.Canon -/
theorem f91_eq (n : Nat) (a0 : Nat) (h : VH) : bodyV P tab (vF P tab n) n 91 [.flt .f64 a0] h =
  ((pvD P .bool (binOp .neq 63 (.float .f64 a0) (.float .f64 a0))).bind fun x1 =>
    (cond x1
      ((pvD P (.flt .f64) (ext24 #[.int .u64 9221120237041090561])).bind fun x2 =>
        (some (.flt .f64 x2, h)))
      ((pvD P .bool (binOp .eql 63 (.float .f64 a0) (.float .f64 0))).bind fun x3 =>
        (cond x3
          (some (.flt .f64 0, h))
          (some (.flt .f64 a0, h)))))) := by kernel_rfl
/-! (*godown/godownref04.In).take -/
theorem f92_eq (n : Nat) (a0 : VP) (a1 : Int) (h : VH) : bodyV P tab (vF P tab n) n 92 [.ptr a0, .int .i64 a1] h =
  ((nn a0).bind fun p1 =>
    ((atO p1 1).bind fun p2 =>
      ((ldV (.flat .bool) h p2).bind fun x3 =>
        (cond x3
          ((nn a0).bind fun p4 =>
            ((atO p4 0).bind fun p5 =>
              ((stV h p5 [.sl 5 .nil]).bind fun h6 =>
                ((nn a0).bind fun p7 =>
                  ((atO p7 1).bind fun p8 =>
                    ((stV h6 p8 [.bool true]).bind fun h9 =>
                      (some (.sl 5 .nil, h9))))))))
          ((nn a0).bind fun p10 =>
            ((atO p10 0).bind fun p11 =>
              ((ldV (.flat (.slice 5)) h p11).bind fun x12 =>
                (cond (decide ((a1 : Int) > ((VS.len x12 : Nat) : Int)))
                  ((nn a0).bind fun p13 =>
                    ((atO p13 0).bind fun p14 =>
                      ((stV h p14 [.sl 5 .nil]).bind fun h15 =>
                        ((nn a0).bind fun p16 =>
                        ((atO p16 1).bind fun p17 =>
                        ((stV h15 p17 [.bool true]).bind fun h18 =>
                        (some (.sl 5 .nil, h18))))))))
                  ((nn a0).bind fun p19 =>
                    ((atO p19 0).bind fun p20 =>
                      ((ldV (.flat (.slice 5)) h p20).bind fun x21 =>
                        ((cutD h 5 1 x21 none (some a1) none).bind fun z22 =>
                        ((nn a0).bind fun p23 =>
                        ((atO p23 0).bind fun p24 =>
                        ((ldV (.flat (.slice 5)) h p24).bind fun x25 =>
                        ((cutD h 5 1 x25 (some a1) none none).bind fun z26 =>
                        ((nn a0).bind fun p27 =>
                        ((atO p27 0).bind fun p28 =>
                        ((stV h p28 [.sl 5 z26]).bind fun h29 =>
                        (some (.sl 5 z22, h29))))))))))))))))))))) := by kernel_rfl
/-! slices.ContainsFunc[[]int,int] -/
theorem f93_eq (n : Nat) (a0 : VS) (a1_0 : VP) (h : VH) : bodyV P tab (vF P tab n) n 93 [.sl 3 a0, .func (.func 94) [] [.ptr a1_0]] h =
  ((callD (vF P tab n) P false (.one (.flat (.int .i64))) 104 [.sl 3 a0, .func (.func 94) [] [.ptr a1_0]] h).bind fun r1 =>
    (some (.bool (decide ((r1.1 : Int) ≥ 0)), r1.2))) := by kernel_rfl
/-! godown/request.out$1 -/
theorem f94_eq (n : Nat) (a0 : Int) (a1 : VP) (h : VH) : bodyV P tab (vF P tab n) n 94 [.int .i64 a0, .ptr a1] h =
  ((ldV (.flat (.int .i64)) h a1).bind fun x1 =>
    (some (.bool (decide ((a0 : Int) ≥ x1)), h))) := by kernel_rfl
/-! slices.IndexFunc[[]int,int] -/
noncomputable def L104_0 (n m : Nat) (s0 : VS) (s1_0 : VP) (s7 : Int) (s8 : Int) (h : VH) : VRes := loopAt P tab 104 [1, 0, 1, 0] n [] m [.sl 3 s0, .func (.func 94) [] [.ptr s1_0], .undef, .undef, .undef, .undef, .undef, .int .i64 s7, .int .i64 s8, .undef, .undef, .undef, .undef, .undef, .undef, .undef, .undef, .undef, .undef] h
theorem L104_0_eq (n m : Nat) (s0 : VS) (s1_0 : VP) (s7 : Int) (s8 : Int) (h : VH) : L104_0 n (m + 1) s0 s1_0 s7 s8 h =
  (cond (decide ((s8 : Int) < s7))
    ((ixV 1 s0 s8).bind fun p1 =>
      ((ldV (.flat (.int .i64)) h p1).bind fun x2 =>
        ((callD (vF P tab n) P false (.one (.flat .bool)) 94 [.int .i64 x2, .ptr s1_0] h).bind fun r3 =>
          (cond r3.1
            (some (.int .i64 s8, r3.2))
            (L104_0 n m s0 s1_0 s7 (IntKind.wrap .i64 (s8 + 1)) r3.2)))))
    (some (.int .i64 (-1), h))) := by kernel_rfl
theorem f104_eq (n : Nat) (a0 : VS) (a1_0 : VP) (h : VH) : bodyV P tab (vF P tab n) n 104 [.sl 3 a0, .func (.func 94) [] [.ptr a1_0]] h =
  (L104_0 n n a0 a1_0 ((VS.len a0 : Nat) : Int) 0 h) := by kernel_rfl
end Go.Proofs.YtcnigofmjffamaaDoor
