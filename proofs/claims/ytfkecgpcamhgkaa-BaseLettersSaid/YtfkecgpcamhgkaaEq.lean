import Derived.Test.YtfkecgpcamhgkaaSh
import Derived.Test.YtfkecgpcamhgkaaProg
set_option maxRecDepth 100000
set_option linter.unusedVariables false
namespace Go.Proofs.Ytfkecgpcamhgkaa
open Go.Proofs.Ytfkecgpcamhgkaa.Sh
def notes : List (Nat × Notes) := [(5, ⟨[], [(8, [1, 2, 3, 4, 5, 6, 10, 11, 12, 13, 14, 15, 16, 17, 18, 19, 20, 21, 22, 23, 24, 25, 26, 27, 28, 29, 30, 31, 32, 33, 34, 35, 36, 37, 38, 39, 40, 41])], []⟩),
  (8, ⟨[(4, .order [(0, true), (1, true), (2, true), (3, true), (6, true), (7, true), (8, true), (10, true), (4, false), (5, false), (9, false), (11, false), (12, true), (13, true), (14, true)])], [], []⟩),
  (10, ⟨[], [(4, [0, 1, 2, 6, 7, 11, 12, 13, 14, 15, 16, 17, 18, 19, 20, 21, 22, 23, 24, 25, 26, 27, 28, 29, 30, 31, 32, 33, 34, 35, 36, 37, 38, 39, 40, 41]), (7, [0, 1, 2, 6, 7, 11, 12, 13, 14, 15, 16, 17, 18, 19, 20, 21, 22, 23, 24, 25, 26, 27, 28, 29, 30, 31, 32, 33, 34, 35, 36, 37, 38, 39, 40, 41])], []⟩),
  (11, ⟨[], [(4, [1, 2, 3, 7, 8, 9, 12, 13, 14, 15, 16, 17, 18, 19, 20, 21, 22, 23, 24, 25, 26, 27, 28, 29, 30, 31, 32, 33, 34, 35, 36, 37, 38, 39, 40, 41, 42, 43])], []⟩),
  (12, ⟨[], [(3, [1, 2, 5, 6, 7, 8, 9, 10, 11, 12, 13, 14, 15, 16, 17, 18, 19, 20, 21, 22, 23, 24, 25, 26, 27, 28, 29, 30, 31, 32]), (7, [1, 2, 7, 8, 9, 10, 11, 12, 13, 14, 15, 16, 17, 18, 19, 20, 21, 22, 23, 24, 25, 26, 27, 28, 29, 30, 31, 32])], []⟩),
  (14, ⟨[], [(4, [2, 3, 4, 6, 7, 8, 9, 10, 11, 12, 13, 14, 15, 16, 17, 18, 19, 20, 21, 22, 23, 24, 25])], []⟩),
  (15, ⟨[], [(3, [1, 2, 3, 6, 7, 8, 9, 10, 11, 12, 13, 14, 15, 16, 17, 18, 19, 20, 21, 22, 23, 24, 25, 26, 27, 28, 29, 30, 31, 32, 33, 34, 35, 36, 37, 38, 39, 40, 41, 42, 43, 44, 45, 46, 47, 48, 49, 50, 51, 52, 53, 54, 55, 56, 57, 58, 59, 60, 61, 62, 63, 64, 65, 66, 67, 68, 69, 70, 71, 72, 73, 74, 75, 76, 77, 78, 79, 80, 81]), (9, [1, 2, 3, 8, 9, 10, 11, 12, 13, 14, 15, 16, 17, 18, 19, 20, 21, 22, 23, 24, 25, 26, 27, 28, 29, 30, 31, 32, 33, 34, 35, 36, 37, 38, 39, 40, 41, 42, 43, 44, 45, 46, 47, 48, 49, 50, 51, 52, 53, 54, 55, 56, 57, 58, 59, 60, 61, 62, 63, 64, 65, 66, 67, 68, 69, 70, 71, 72, 73, 74, 75, 76, 77, 78, 79, 80, 81]), (14, [0, 1, 2, 3, 5, 6, 7, 10, 11, 12, 13, 14, 15, 16, 17, 18, 19, 20, 21, 22, 23, 24, 25, 26, 27, 28, 29, 30, 31, 32, 33, 34, 35, 36, 37, 38, 39, 40, 41, 42, 43, 44, 45, 46, 47, 48, 49, 50, 51, 52, 53, 54, 55, 56, 57, 58, 59, 60, 61, 62, 63, 64, 65, 66, 67, 68, 69, 70, 71, 72, 73, 74, 75, 76, 77, 78, 79, 80, 81]), (18, [0, 1, 2, 3, 5, 6, 7, 12, 13, 14, 15, 16, 17, 18, 19, 20, 21, 22, 23, 24, 25, 26, 27, 28, 29, 30, 31, 32, 33, 34, 35, 36, 37, 38, 39, 40, 41, 42, 43, 44, 45, 46, 47, 48, 49, 50, 51, 52, 53, 54, 55, 56, 57, 58, 59, 60, 61, 62, 63, 64, 65, 66, 67, 68, 69, 70, 71, 72, 73, 74, 75, 76, 77, 78, 79, 80, 81]), (24, [0, 1, 2, 3, 4, 5, 6, 7, 9, 10, 11, 14, 15, 16, 17, 18, 19, 20, 21, 22, 23, 24, 25, 26, 27, 28, 29, 30, 31, 32, 33, 34, 35, 36, 37, 38, 39, 40, 41, 42, 43, 44, 45, 46, 47, 48, 49, 50, 51, 52, 53, 54, 55, 56, 57, 58, 59, 60, 61, 62, 63, 64, 65, 66, 67, 68, 69, 70, 71, 72, 73, 74, 75, 76, 77, 78, 79, 80, 81])], []⟩),
  (18, ⟨[(1, .tail 10)], [], []⟩),
  (21, ⟨[], [(2, [1, 2, 4, 5, 6, 7, 8, 9, 10, 11, 12])], []⟩)]
noncomputable abbrev P : Program := Try.prog
noncomputable def tab : Tab := mkTab P (fun f => (find notes f).getD ⟨[], [], []⟩) (among [24]) (among [9]) (fun _ => none)
noncomputable def ext25 : Array Value → Sem Value := (extOf P 25).getD fun _ => .pure undef
/-! godown/godownlaw03.BaseBack -/
theorem f3_eq (n : Nat) (a0a : Option Addr) (a0n a0c : Nat) (h : Heap) : bodyF P tab (eF P tab n) n 3 [.slice a0a a0n a0c] h =
  ((callD (eF P tab n) (.one (.flat .bool)) 9 [] h).bind fun r1 =>
    (cond (!r1.1)
      ((callD (eF P tab n) (.one (.flat .bool)) 9 [] r1.2).bind fun r2 =>
        (some (.bool r2.1, r2.2)))
      (cond (decide ((((a0n : Nat) : Int) : Int) > 200))
        ((callD (eF P tab n) (.one (.flat .bool)) 9 [] r1.2).bind fun r3 =>
          (some (.bool r3.1, r3.2)))
        ((callD (eF P tab n) (.one (.flat .str)) 10 [.slice a0a a0n a0c] r1.2).bind fun r4 =>
          ((callD (eF P tab n) (.tup [(.flat .slice), (.flat (.int .i64))]) 11 [.string r4.1] r4.2).bind fun r5 =>
            ((callD (eF P tab n) (.one (.flat .str)) 12 [.slice a0a a0n a0c] r5.2).bind fun r6 =>
              (cond (strEq r4.1 r6.1)
                ((callD (eF P tab n) (.one (.flat (.int .i64))) 13 [.int .i64 ((a0n : Nat) : Int)] r6.2).bind fun r7 =>
                  (cond ((((r4.1).size : Int) : Int) == r7.1)
                    (cond ((r5.1.2.1 : Int) == 0)
                      ((callD (eF P tab n) (.one (.flat .bool)) 14 [.slice a0a a0n a0c, .slice r5.1.1.a r5.1.1.n r5.1.1.c] r7.2).bind fun r8 =>
                        (some (.bool r8.1, r8.2)))
                      (some (.bool false, r7.2)))
                    (some (.bool false, r7.2))))
                (some (.bool false, r6.2))))))))) := by kernel_rfl
/-! godown/godownlaw03.BaseReads -/
theorem f4_eq (n : Nat) (a0 : ByteArray) (h : Heap) : bodyF P tab (eF P tab n) n 4 [.string a0] h =
  ((callD (eF P tab n) (.one (.flat .bool)) 9 [] h).bind fun r1 =>
    (cond (!r1.1)
      ((callD (eF P tab n) (.one (.flat .bool)) 9 [] r1.2).bind fun r2 =>
        (some (.bool r2.1, r2.2)))
      (cond (decide ((((a0).size : Int) : Int) > 200))
        ((callD (eF P tab n) (.one (.flat .bool)) 9 [] r1.2).bind fun r3 =>
          (some (.bool r3.1, r3.2)))
        ((callD (eF P tab n) (.tup [(.flat .slice), (.flat (.int .i64))]) 11 [.string a0] r1.2).bind fun r4 =>
          ((callD (eF P tab n) (.tup [(.flat .slice), (.flat (.int .i64))]) 15 [.string a0] r4.2).bind fun r5 =>
            (cond ((r4.1.2.1 : Int) == r5.1.2.1)
              ((callD (eF P tab n) (.one (.flat .bool)) 14 [.slice r4.1.1.a r4.1.1.n r4.1.1.c, .slice r5.1.1.a r5.1.1.n r5.1.1.c] r5.2).bind fun r6 =>
                (cond r6.1
                  (cond ((r4.1.2.1 : Int) != 0)
                    (some (.bool true, r6.2))
                    ((callD (eF P tab n) (.one (.flat .str)) 10 [.slice r4.1.1.a r4.1.1.n r4.1.1.c] r6.2).bind fun r7 =>
                      (some (.bool (strEq r7.1 a0), r7.2))))
                  (some (.bool false, r6.2))))
              (some (.bool false, r5.2)))))))) := by kernel_rfl
/-! godown/godownlaw03.BaseLetters -/
noncomputable def L5_0 (n m : Nat) (s0 : Int) (s7 : Int) (s8 : Bool) (s9 : Int) (h : Heap) : Res := loopAt P tab 5 [1, 1, 1, 1, 1, 1, 0, 1, 0] n [] m [.int .u8 s0, undef, undef, undef, undef, undef, undef, .int .i64 s7, .bool s8, .int .i64 s9, undef, undef, undef, undef, undef, undef, undef, undef, undef, undef, undef, undef, undef, undef, undef, undef, undef, undef, undef, undef, undef, undef, undef, undef, undef, undef, undef, undef, undef, undef, undef, undef] h
theorem L5_0_eq (n m : Nat) (s0 : Int) (s7 : Int) (s8 : Bool) (s9 : Int) (h : Heap) : L5_0 n (m + 1) s0 s7 s8 s9 h =
  (cond (decide ((s9 : Int) < 32))
    (cond s8
      (L5_0 n m s0 s7 true (IntKind.wrap .i64 (s9 + 1)) h)
      ((ixS ⟨#[48, 49, 50, 51, 52, 53, 54, 55, 56, 57, 97, 98, 99, 100, 102, 103, 104, 105, 106, 107, 108, 109, 110, 112, 113, 114, 115, 118, 119, 120, 121, 122]⟩ s9).bind fun b1 =>
        (L5_0 n m s0 s7 ((b1 : Int) == s0) (IntKind.wrap .i64 (s9 + 1)) h)))
    (some (.bool (s8 == ((s7 : Int) == 0)), h))) := by kernel_rfl
theorem f5_eq (n : Nat) (a0 : Int) (a1 : Int) (h : Heap) : bodyF P tab (eF P tab n) n 5 [.int .u8 a0, .int .u8 a1] h =
  ((callD (eF P tab n) (.one (.flat .bool)) 9 [] h).bind fun r1 =>
    (cond (!r1.1)
      (some (.bool false, r1.2))
      ((rwRow (r1.2 ++ [.row true 5 [.int .u8 48, .int .u8 48, .int .u8 48, .int .u8 48, .int .u8 48, .int .u8 48, .int .u8 48, .int .u8 48, .int .u8 48, .int .u8 48, .int .u8 48, .int .u8 48, .int .u8 48, .int .u8 48, .int .u8 48, .int .u8 48]]) ⟨r1.2.length, 0, none⟩).bind fun u2 =>
        ((remI a1 16).bind fun x3 =>
          ((ixA ⟨(some ⟨r1.2.length, 0, none⟩), 16, 0⟩ 1 x3).bind fun p4 =>
            ((stV (r1.2 ++ [.row true 5 [.int .u8 48, .int .u8 48, .int .u8 48, .int .u8 48, .int .u8 48, .int .u8 48, .int .u8 48, .int .u8 48, .int .u8 48, .int .u8 48, .int .u8 48, .int .u8 48, .int .u8 48, .int .u8 48, .int .u8 48, .int .u8 48]]) p4 [.int .u8 a0]).bind fun h5 =>
              ((strD h5 ⟨(some ⟨r1.2.length, 0, none⟩), 16, 0⟩).bind fun s6 =>
                ((callD (eF P tab n) (.tup [(.flat .slice), (.flat (.int .i64))]) 11 [.string s6] h5).bind fun r7 =>
                  (L5_0 n n a0 r7.1.2.1 false 0 r7.2))))))))) := by kernel_rfl
/-! godown/godownlaw03.BaseTurned -/
theorem f6_eq (n : Nat) (a0a : Option Addr) (a0n a0c : Nat) (a1 : Int) (a2 : Int) (h : Heap) : bodyF P tab (eF P tab n) n 6 [.slice a0a a0n a0c, .int .u16 a1, .int .u8 a2] h =
  ((callD (eF P tab n) (.one (.flat .bool)) 9 [] h).bind fun r1 =>
    (cond (!r1.1)
      ((callD (eF P tab n) (.one (.flat .bool)) 9 [] r1.2).bind fun r2 =>
        (some (.bool r2.1, r2.2)))
      (cond (decide ((((a0n : Nat) : Int) : Int) > 100))
        ((callD (eF P tab n) (.one (.flat .bool)) 9 [] r1.2).bind fun r3 =>
          (some (.bool r3.1, r3.2)))
        (cond ((((a0n : Nat) : Int) : Int) == 0)
          ((callD (eF P tab n) (.one (.flat .bool)) 9 [] r1.2).bind fun r4 =>
            (some (.bool r4.1, r4.2)))
          (cond ((a2 : Int) == 0)
            ((callD (eF P tab n) (.one (.flat .bool)) 9 [] r1.2).bind fun r5 =>
              (some (.bool r5.1, r5.2)))
            ((callD (eF P tab n) (.one (.flat .slice)) 16 [.slice a0a a0n a0c, .slice none 0 0] r1.2).bind fun r6 =>
              ((remI (IntKind.wrap .i64 a1) ((r6.1.n : Nat) : Int)).bind fun x7 =>
                ((ixA ⟨r6.1.a, r6.1.n, r6.1.c⟩ 1 x7).bind fun p8 =>
                  ((ld1 (.flat (.int .u8)) r6.2 p8).bind fun x9 =>
                    ((ixA ⟨r6.1.a, r6.1.n, r6.1.c⟩ 1 x7).bind fun p10 =>
                      ((stV r6.2 p10 [.int .u8 (bitI .xor .u8 x9 a2)]).bind fun h11 =>
                        ((callD (eF P tab n) (.one (.flat .str)) 10 [.slice a0a a0n a0c] h11).bind fun r12 =>
                        ((callD (eF P tab n) (.one (.flat .str)) 10 [.slice r6.1.a r6.1.n r6.1.c] r12.2).bind fun r13 =>
                        (cond (!(strEq r12.1 r13.1))
                        ((callD (eF P tab n) (.one (.flat .str)) 10 [.slice a0a a0n a0c] r13.2).bind fun r14 =>
                        ((callD (eF P tab n) (.one (.flat .str)) 10 [.slice r6.1.a r6.1.n r6.1.c] r14.2).bind fun r15 =>
                        (some (.bool ((((r14.1).size : Int) : Int) == ((r15.1).size : Int)), r15.2))))
                        (some (.bool false, r13.2)))))))))))))))) := by kernel_rfl
/-! godown/godownlaw03.BaseLens -/
theorem f7_eq (n : Nat) (a0 : Int) (h : Heap) : bodyF P tab (eF P tab n) n 7 [.int .i64 a0] h =
  (cond (decide ((a0 : Int) > 1125899906842624))
    ((remI a0 1125899906842624).bind fun x1 =>
      ((callD (eF P tab n) (.one (.flat (.int .i64))) 13 [.int .i64 x1] h).bind fun r2 =>
        (cond (decide ((x1 : Int) ≤ 0))
          ((callD (eF P tab n) (.one (.flat .bool)) 9 [] r2.2).bind fun r3 =>
            (cond r3.1
              (some (.bool ((r2.1 : Int) == 0), r3.2))
              (some (.bool false, r3.2))))
          ((callD (eF P tab n) (.one (.flat .bool)) 9 [] r2.2).bind fun r4 =>
            (cond r4.1
              (cond (decide (((IntKind.wrap .i64 (5 * r2.1)) : Int) ≥ (IntKind.wrap .i64 (8 * x1))))
                (some (.bool (decide (((IntKind.wrap .i64 (5 * (IntKind.wrap .i64 (r2.1 - 1)))) : Int) < (IntKind.wrap .i64 (8 * x1)))), r4.2))
                (some (.bool false, r4.2)))
              (some (.bool false, r4.2)))))))
    ((callD (eF P tab n) (.one (.flat (.int .i64))) 13 [.int .i64 a0] h).bind fun r5 =>
      (cond (decide ((a0 : Int) ≤ 0))
        ((callD (eF P tab n) (.one (.flat .bool)) 9 [] r5.2).bind fun r6 =>
          (cond r6.1
            (some (.bool ((r5.1 : Int) == 0), r6.2))
            (some (.bool false, r6.2))))
        ((callD (eF P tab n) (.one (.flat .bool)) 9 [] r5.2).bind fun r7 =>
          (cond r7.1
            (cond (decide (((IntKind.wrap .i64 (5 * r5.1)) : Int) ≥ (IntKind.wrap .i64 (8 * a0))))
              (some (.bool (decide (((IntKind.wrap .i64 (5 * (IntKind.wrap .i64 (r5.1 - 1)))) : Int) < (IntKind.wrap .i64 (8 * a0)))), r7.2))
              (some (.bool false, r7.2)))
            (some (.bool false, r7.2))))))) := by kernel_rfl
/-! godown/godownlaw03.BaseJoins -/
theorem f8_eq (n : Nat) (a0a : Option Addr) (a0n a0c : Nat) (a1a : Option Addr) (a1n a1c : Nat) (h : Heap) : bodyF P tab (eF P tab n) n 8 [.slice a0a a0n a0c, .slice a1a a1n a1c] h =
  ((callD (eF P tab n) (.one (.flat .bool)) 9 [] h).bind fun r1 =>
    (cond (!r1.1)
      ((callD (eF P tab n) (.one (.flat .bool)) 9 [] r1.2).bind fun r2 =>
        (some (.bool r2.1, r2.2)))
      (cond (decide ((((a0n : Nat) : Int) : Int) > 100))
        ((callD (eF P tab n) (.one (.flat .bool)) 9 [] r1.2).bind fun r3 =>
          (some (.bool r3.1, r3.2)))
        (cond (decide ((((a1n : Nat) : Int) : Int) > 100))
          ((callD (eF P tab n) (.one (.flat .bool)) 9 [] r1.2).bind fun r4 =>
            (some (.bool r4.1, r4.2)))
          ((quoI .i64 ((a0n : Nat) : Int) 5).bind fun x5 =>
            ((cutD r1.2 1 5 ⟨a0a, a0n, a0c⟩ none (some (IntKind.wrap .i64 (x5 * 5))) none).bind fun s6 =>
              ((cutD r1.2 1 5 ⟨a0a, a0n, a0c⟩ none (some (IntKind.wrap .i64 (x5 * 5))) none).bind fun s7 =>
                ((callD (eF P tab n) (.one (.flat .slice)) 16 [.slice s6.a s6.n s6.c, .slice a1a a1n a1c] r1.2).bind fun r8 =>
                  ((callD (eF P tab n) (.one (.flat .str)) 10 [.slice r8.1.a r8.1.n r8.1.c] r8.2).bind fun r9 =>
                    ((callD (eF P tab n) (.one (.flat .str)) 10 [.slice s7.a s7.n s7.c] r9.2).bind fun r10 =>
                      ((callD (eF P tab n) (.one (.flat .str)) 10 [.slice a1a a1n a1c] r10.2).bind fun r11 =>
                        ((catS r10.1 r11.1).bind fun s12 =>
                        (some (.bool (strEq r9.1 s12), r11.2)))))))))))))) := by kernel_rfl
/-! godown/godownlaw03.two -/
theorem f9_eq (n : Nat)  (h : Heap) : bodyF P tab (eF P tab n) n 9 [] h =
  ((callD (eF P tab n) (.tup [(.flat .slice), (.flat (.int .i64))]) 11 [.string ⟨#[122, 122]⟩] h).bind fun r1 =>
    ((callD (eF P tab n) (.one (.flat .str)) 10 [.slice (some ⟨r1.2.length, 0, none⟩) 1 0] (r1.2 ++ [.row true 5 [.int .u8 255]])).bind fun r2 =>
      (cond (strEq r2.1 ⟨#[122, 119]⟩)
        (cond ((r1.1.2.1 : Int) == 2)
          ((callD (eF P tab n) (.one (.flat (.int .i64))) 13 [.int .i64 20] r2.2).bind fun r3 =>
            (some (.bool ((r3.1 : Int) == 32), r3.2)))
          (some (.bool false, r2.2)))
        (some (.bool false, r2.2))))) := by kernel_rfl
/-! godown/base.Text -/
noncomputable def L10_0 (n m : Nat) (s3 : Addr) (s4 : Int) (s5 : Int) (s8a : Option Addr) (s8n s8c : Nat) (s9 : Int) (s10 : Int) (h : Heap) : Res := loopAt P tab 10 [1, 1, 1, 0, 1, 0] n [] m [undef, undef, undef, .pointer (some s3), .int .u64 s4, .int .i64 s5, undef, undef, .slice s8a s8n s8c, .int .i64 s9, .int .i64 s10, undef, undef, undef, undef, undef, undef, undef, undef, undef, undef, undef, undef, undef, undef, undef, undef, undef, undef, undef, undef, undef, undef, undef, undef, undef, undef, undef, undef, undef, undef, undef] h
noncomputable def L10_1 (n m0 m : Nat) (s3 : Addr) (s4 : Int) (s5 : Int) (s8a : Option Addr) (s8n s8c : Nat) (s9 : Int) (s10 : Int) (h : Heap) : Res := loopAt P tab 10 [1, 1, 1, 0, 1, 0, 0, 1, 1, 0, 0, 1, 1, 0] n [m0] m [undef, undef, undef, .pointer (some s3), .int .u64 s4, .int .i64 s5, undef, undef, .slice s8a s8n s8c, .int .i64 s9, .int .i64 s10, undef, undef, undef, undef, undef, undef, undef, undef, undef, undef, undef, undef, undef, undef, undef, undef, undef, undef, undef, undef, undef, undef, undef, undef, undef, undef, undef, undef, undef, undef, undef] h
theorem L10_0_eq (n m : Nat) (s3 : Addr) (s4 : Int) (s5 : Int) (s8a : Option Addr) (s8n s8c : Nat) (s9 : Int) (s10 : Int) (h : Heap) : L10_0 n (m + 1) s3 s4 s5 s8a s8n s8c s9 s10 h =
  (cond (decide ((s10 : Int) < s9))
    ((ixA ⟨s8a, s8n, s8c⟩ 1 s10).bind fun p1 =>
      ((ld1 (.flat (.int .u8)) h p1).bind fun x2 =>
        ((shlI .u64 s4 8).bind fun x3 =>
          (L10_1 n m n s3 (bitI .or .u64 x3 (IntKind.wrap .u64 x2)) (IntKind.wrap .i64 (s5 + 8)) s8a s8n s8c s9 s10 h))))
    (cond (decide ((s5 : Int) > 0))
      ((shlI .u64 s4 (IntKind.wrap .i64 (5 - s5))).bind fun x4 =>
        ((ixS ⟨#[48, 49, 50, 51, 52, 53, 54, 55, 56, 57, 97, 98, 99, 100, 102, 103, 104, 105, 106, 107, 108, 109, 110, 112, 113, 114, 115, 118, 119, 120, 121, 122]⟩ (bitI .and .u64 x4 31)).bind fun b5 =>
          ((callD (eF P tab n) (.one (.flat .any)) 17 [.pointer (some s3), .int .u8 b5] h).bind fun r6 =>
            ((callD (eF P tab n) (.one (.flat .str)) 18 [.pointer (some s3)] r6.2).bind fun r7 =>
              (some (.string r7.1, r7.2))))))
      ((callD (eF P tab n) (.one (.flat .str)) 18 [.pointer (some s3)] h).bind fun r8 =>
        (some (.string r8.1, r8.2))))) := by kernel_rfl
theorem L10_1_eq (n m0 m : Nat) (s3 : Addr) (s4 : Int) (s5 : Int) (s8a : Option Addr) (s8n s8c : Nat) (s9 : Int) (s10 : Int) (h : Heap) : L10_1 n m0 (m + 1) s3 s4 s5 s8a s8n s8c s9 s10 h =
  (cond (decide ((s5 : Int) ≥ 5))
    ((shrI .u64 s4 (IntKind.wrap .i64 (s5 - 5))).bind fun x1 =>
      ((ixS ⟨#[48, 49, 50, 51, 52, 53, 54, 55, 56, 57, 97, 98, 99, 100, 102, 103, 104, 105, 106, 107, 108, 109, 110, 112, 113, 114, 115, 118, 119, 120, 121, 122]⟩ (bitI .and .u64 x1 31)).bind fun b2 =>
        ((callD (eF P tab n) (.one (.flat .any)) 17 [.pointer (some s3), .int .u8 b2] h).bind fun r3 =>
          (L10_1 n m0 m s3 s4 (IntKind.wrap .i64 (s5 - 5)) s8a s8n s8c s9 s10 r3.2))))
    (L10_0 n m0 s3 s4 s5 s8a s8n s8c s9 (IntKind.wrap .i64 (s10 + 1)) h)) := by kernel_rfl
theorem f10_eq (n : Nat) (a0a : Option Addr) (a0n a0c : Nat) (h : Heap) : bodyF P tab (eF P tab n) n 10 [.slice a0a a0n a0c] h =
  (L10_0 n n ⟨h.length, 0, none⟩ 0 0 a0a a0n a0c ((a0n : Nat) : Int) 0 (h ++ [.row true (39 + boxK) [.pointer none, .slice none 0 0]])) := by kernel_rfl
/-! godown/base.Bytes -/
noncomputable def L11_0 (n m : Nat) (s0 : ByteArray) (s4a : Option Addr) (s4n s4c : Nat) (s5 : Int) (s6 : Int) (s10 : Int) (s11 : Int) (h : Heap) : Res := loopAt P tab 11 [1, 1, 1, 0, 1, 0] n [] m [.string s0, undef, undef, undef, .slice s4a s4n s4c, .int .u64 s5, .int .i64 s6, undef, undef, undef, .int .i64 s10, .int .i64 s11, undef, undef, undef, undef, undef, undef, undef, undef, undef, undef, undef, undef, undef, undef, undef, undef, undef, undef, undef, undef, undef, undef, undef, undef, undef, undef, undef, undef, undef, undef, undef, undef] h
theorem L11_0_eq (n m : Nat) (s0 : ByteArray) (s4a : Option Addr) (s4n s4c : Nat) (s5 : Int) (s6 : Int) (s10 : Int) (s11 : Int) (h : Heap) : L11_0 n (m + 1) s0 s4a s4n s4c s5 s6 s10 s11 h =
  (cond (decide ((s11 : Int) < s10))
    ((ixS s0 s11).bind fun b1 =>
      ((callD (eF P tab n) (.one (.flat (.int .i64))) 19 [.string ⟨#[48, 49, 50, 51, 52, 53, 54, 55, 56, 57, 97, 98, 99, 100, 102, 103, 104, 105, 106, 107, 108, 109, 110, 112, 113, 114, 115, 118, 119, 120, 121, 122]⟩, .int .u8 b1] h).bind fun r2 =>
        (cond (decide ((r2.1 : Int) < 0))
          (some (.tuple ⟨[.slice none 0 0, .int .i64 2]⟩, r2.2))
          ((shlI .u64 s5 5).bind fun x3 =>
            (cond (decide (((IntKind.wrap .i64 (s6 + 5)) : Int) ≥ 8))
              ((shrI .u64 (bitI .or .u64 x3 (IntKind.wrap .u64 r2.1)) (IntKind.wrap .i64 ((IntKind.wrap .i64 (s6 + 5)) - 8))).bind fun x4 =>
                ((appD (r2.2 ++ [.row true 5 [.int .u8 (IntKind.wrap .u8 x4)]]) 1 1 5 ⟨s4a, s4n, s4c⟩ ⟨(some ⟨r2.2.length, 0, none⟩), 1, 0⟩).bind fun r5 =>
                  (L11_0 n m s0 r5.1.a r5.1.n r5.1.c (bitI .or .u64 x3 (IntKind.wrap .u64 r2.1)) (IntKind.wrap .i64 ((IntKind.wrap .i64 (s6 + 5)) - 8)) s10 (IntKind.wrap .i64 (s11 + 1)) r5.2)))
              (L11_0 n m s0 s4a s4n s4c (bitI .or .u64 x3 (IntKind.wrap .u64 r2.1)) (IntKind.wrap .i64 (s6 + 5)) s10 (IntKind.wrap .i64 (s11 + 1)) r2.2))))))
    ((callD (eF P tab n) (.one (.flat .str)) 10 [.slice s4a s4n s4c] h).bind fun r6 =>
      (cond (!(strEq r6.1 s0))
        (some (.tuple ⟨[.slice none 0 0, .int .i64 2]⟩, r6.2))
        (some (.tuple ⟨[.slice s4a s4n s4c, .int .i64 0]⟩, r6.2))))) := by kernel_rfl
theorem f11_eq (n : Nat) (a0 : ByteArray) (h : Heap) : bodyF P tab (eF P tab n) n 11 [.string a0] h =
  (L11_0 n n a0 none 0 0 0 0 ((a0).size : Int) 0 h) := by kernel_rfl
/-! godown/godownref03.Text -/
noncomputable def L12_0 (n m : Nat) (s0a : Option Addr) (s0n s0c : Nat) (s3a : Option Addr) (s3n s3c : Nat) (s4 : Int) (h : Heap) : Res := loopAt P tab 12 [1, 1, 0, 1, 0] n [] m [.slice s0a s0n s0c, undef, undef, .slice s3a s3n s3c, .int .i64 s4, undef, undef, undef, undef, undef, undef, undef, undef, undef, undef, undef, undef, undef, undef, undef, undef, undef, undef, undef, undef, undef, undef, undef, undef, undef, undef, undef, undef] h
noncomputable def L12_1 (n m0 m : Nat) (s0a : Option Addr) (s0n s0c : Nat) (s3a : Option Addr) (s3n s3c : Nat) (s4 : Int) (s5 : Int) (s6 : Int) (h : Heap) : Res := loopAt P tab 12 [1, 1, 0, 1, 0, 0, 1, 0, 0, 1, 0, 1, 0] n [m0] m [.slice s0a s0n s0c, undef, undef, .slice s3a s3n s3c, .int .i64 s4, .int .i64 s5, .int .i64 s6, undef, undef, undef, undef, undef, undef, undef, undef, undef, undef, undef, undef, undef, undef, undef, undef, undef, undef, undef, undef, undef, undef, undef, undef, undef, undef] h
theorem L12_0_eq (n m : Nat) (s0a : Option Addr) (s0n s0c : Nat) (s3a : Option Addr) (s3n s3c : Nat) (s4 : Int) (h : Heap) : L12_0 n (m + 1) s0a s0n s0c s3a s3n s3c s4 h =
  (cond (decide ((s4 : Int) < (IntKind.wrap .i64 (8 * ((s0n : Nat) : Int)))))
    (L12_1 n m n s0a s0n s0c s3a s3n s3c s4 0 0 h)
    ((strD h ⟨s3a, s3n, s3c⟩).bind fun s1 =>
      (some (.string s1, h)))) := by kernel_rfl
theorem L12_1_eq (n m0 m : Nat) (s0a : Option Addr) (s0n s0c : Nat) (s3a : Option Addr) (s3n s3c : Nat) (s4 : Int) (s5 : Int) (s6 : Int) (h : Heap) : L12_1 n m0 (m + 1) s0a s0n s0c s3a s3n s3c s4 s5 s6 h =
  (cond (decide ((s6 : Int) < 5))
    ((callD (eF P tab n) (.one (.flat (.int .i64))) 20 [.slice s0a s0n s0c, .int .i64 (IntKind.wrap .i64 (s4 + s6))] h).bind fun r1 =>
      (L12_1 n m0 m s0a s0n s0c s3a s3n s3c s4 (IntKind.wrap .i64 ((IntKind.wrap .i64 (2 * s5)) + r1.1)) (IntKind.wrap .i64 (s6 + 1)) r1.2))
    ((ixS ⟨#[48, 49, 50, 51, 52, 53, 54, 55, 56, 57, 97, 98, 99, 100, 102, 103, 104, 105, 106, 107, 108, 109, 110, 112, 113, 114, 115, 118, 119, 120, 121, 122]⟩ s5).bind fun b2 =>
      ((appD (h ++ [.row true 5 [.int .u8 b2]]) 1 1 5 ⟨s3a, s3n, s3c⟩ ⟨(some ⟨h.length, 0, none⟩), 1, 0⟩).bind fun r3 =>
        (L12_0 n m0 s0a s0n s0c r3.1.a r3.1.n r3.1.c (IntKind.wrap .i64 (s4 + 5)) r3.2)))) := by kernel_rfl
theorem f12_eq (n : Nat) (a0a : Option Addr) (a0n a0c : Nat) (h : Heap) : bodyF P tab (eF P tab n) n 12 [.slice a0a a0n a0c] h =
  (L12_0 n n a0a a0n a0c none 0 0 0 h) := by kernel_rfl
/-! godown/base.Len -/
theorem f13_eq (n : Nat) (a0 : Int) (h : Heap) : bodyF P tab (eF P tab n) n 13 [.int .i64 a0] h =
  (cond (decide ((a0 : Int) < 0))
    (some (.int .i64 0, h))
    ((quoI .i64 (IntKind.wrap .i64 ((IntKind.wrap .i64 ((IntKind.wrap .i64 (a0 * 8)) + 5)) - 1)) 5).bind fun x1 =>
      (some (.int .i64 x1, h)))) := by kernel_rfl
/-! godown/godownref01.Bytes -/
noncomputable def L14_0 (n m : Nat) (s0a : Option Addr) (s0n s0c : Nat) (s1a : Option Addr) (s1n s1c : Nat) (s5 : Int) (h : Heap) : Res := loopAt P tab 14 [1, 1, 0, 1, 0] n [] m [.slice s0a s0n s0c, .slice s1a s1n s1c, undef, undef, undef, .int .i64 s5, undef, undef, undef, undef, undef, undef, undef, undef, undef, undef, undef, undef, undef, undef, undef, undef, undef, undef, undef, undef] h
theorem L14_0_eq (n m : Nat) (s0a : Option Addr) (s0n s0c : Nat) (s1a : Option Addr) (s1n s1c : Nat) (s5 : Int) (h : Heap) : L14_0 n (m + 1) s0a s0n s0c s1a s1n s1c s5 h =
  (cond (decide ((s5 : Int) < ((s0n : Nat) : Int)))
    ((ixA ⟨s0a, s0n, s0c⟩ 1 s5).bind fun p1 =>
      ((ld1 (.flat (.int .u8)) h p1).bind fun x2 =>
        ((ixA ⟨s1a, s1n, s1c⟩ 1 s5).bind fun p3 =>
          ((ld1 (.flat (.int .u8)) h p3).bind fun x4 =>
            (cond ((x2 : Int) != x4)
              (some (.bool false, h))
              (L14_0 n m s0a s0n s0c s1a s1n s1c (IntKind.wrap .i64 (s5 + 1)) h))))))
    (some (.bool true, h))) := by kernel_rfl
theorem f14_eq (n : Nat) (a0a : Option Addr) (a0n a0c : Nat) (a1a : Option Addr) (a1n a1c : Nat) (h : Heap) : bodyF P tab (eF P tab n) n 14 [.slice a0a a0n a0c, .slice a1a a1n a1c] h =
  (cond ((((a0n : Nat) : Int) : Int) != ((a1n : Nat) : Int))
    (some (.bool false, h))
    (L14_0 n n a0a a0n a0c a1a a1n a1c 0 h)) := by kernel_rfl
/-! godown/godownref03.Bytes -/
noncomputable def L15_0 (n m : Nat) (s0 : ByteArray) (s4a : Option Addr) (s4n s4c : Nat) (s5 : Int) (h : Heap) : Res := loopAt P tab 15 [1, 1, 0, 1, 0] n [] m [.string s0, undef, undef, undef, .slice s4a s4n s4c, .int .i64 s5, undef, undef, undef, undef, undef, undef, undef, undef, undef, undef, undef, undef, undef, undef, undef, undef, undef, undef, undef, undef, undef, undef, undef, undef, undef, undef, undef, undef, undef, undef, undef, undef, undef, undef, undef, undef, undef, undef, undef, undef, undef, undef, undef, undef, undef, undef, undef, undef, undef, undef, undef, undef, undef, undef, undef, undef, undef, undef, undef, undef, undef, undef, undef, undef, undef, undef, undef, undef, undef, undef, undef, undef, undef, undef, undef, undef] h
noncomputable def L15_1 (n m0 m : Nat) (s0 : ByteArray) (s4a : Option Addr) (s4n s4c : Nat) (s5 : Int) (s6 : Int) (s7 : Int) (h : Heap) : Res := loopAt P tab 15 [1, 1, 0, 1, 0, 0, 1, 0, 0, 1, 1, 1, 0] n [m0] m [.string s0, undef, undef, undef, .slice s4a s4n s4c, .int .i64 s5, .int .i64 s6, .int .i64 s7, undef, undef, undef, undef, undef, undef, undef, undef, undef, undef, undef, undef, undef, undef, undef, undef, undef, undef, undef, undef, undef, undef, undef, undef, undef, undef, undef, undef, undef, undef, undef, undef, undef, undef, undef, undef, undef, undef, undef, undef, undef, undef, undef, undef, undef, undef, undef, undef, undef, undef, undef, undef, undef, undef, undef, undef, undef, undef, undef, undef, undef, undef, undef, undef, undef, undef, undef, undef, undef, undef, undef, undef, undef, undef] h
noncomputable def L15_2 (n m : Nat) (s4a : Option Addr) (s4n s4c : Nat) (s8a : Option Addr) (s8n s8c : Nat) (s9 : Int) (h : Heap) : Res := loopAt P tab 15 [1, 1, 1, 1, 0, 1, 0] n [] m [undef, undef, undef, undef, .slice s4a s4n s4c, undef, undef, undef, .slice s8a s8n s8c, .int .i64 s9, undef, undef, undef, undef, undef, undef, undef, undef, undef, undef, undef, undef, undef, undef, undef, undef, undef, undef, undef, undef, undef, undef, undef, undef, undef, undef, undef, undef, undef, undef, undef, undef, undef, undef, undef, undef, undef, undef, undef, undef, undef, undef, undef, undef, undef, undef, undef, undef, undef, undef, undef, undef, undef, undef, undef, undef, undef, undef, undef, undef, undef, undef, undef, undef, undef, undef, undef, undef, undef, undef, undef, undef] h
noncomputable def L15_3 (n m0 m : Nat) (s4a : Option Addr) (s4n s4c : Nat) (s8a : Option Addr) (s8n s8c : Nat) (s9 : Int) (s10 : Int) (s11 : Int) (h : Heap) : Res := loopAt P tab 15 [1, 1, 1, 1, 0, 1, 0, 0, 1, 0, 0, 1, 0, 1, 0] n [m0] m [undef, undef, undef, undef, .slice s4a s4n s4c, undef, undef, undef, .slice s8a s8n s8c, .int .i64 s9, .int .i64 s10, .int .i64 s11, undef, undef, undef, undef, undef, undef, undef, undef, undef, undef, undef, undef, undef, undef, undef, undef, undef, undef, undef, undef, undef, undef, undef, undef, undef, undef, undef, undef, undef, undef, undef, undef, undef, undef, undef, undef, undef, undef, undef, undef, undef, undef, undef, undef, undef, undef, undef, undef, undef, undef, undef, undef, undef, undef, undef, undef, undef, undef, undef, undef, undef, undef, undef, undef, undef, undef, undef, undef, undef, undef] h
noncomputable def L15_4 (n m : Nat) (s8a : Option Addr) (s8n s8c : Nat) (s12a : Option Addr) (s12n s12c : Nat) (s13 : Int) (h : Heap) : Res := loopAt P tab 15 [1, 1, 1, 1, 1, 1, 0, 1, 0] n [] m [undef, undef, undef, undef, undef, undef, undef, undef, .slice s8a s8n s8c, undef, undef, undef, .slice s12a s12n s12c, .int .i64 s13, undef, undef, undef, undef, undef, undef, undef, undef, undef, undef, undef, undef, undef, undef, undef, undef, undef, undef, undef, undef, undef, undef, undef, undef, undef, undef, undef, undef, undef, undef, undef, undef, undef, undef, undef, undef, undef, undef, undef, undef, undef, undef, undef, undef, undef, undef, undef, undef, undef, undef, undef, undef, undef, undef, undef, undef, undef, undef, undef, undef, undef, undef, undef, undef, undef, undef, undef, undef] h
theorem L15_0_eq (n m : Nat) (s0 : ByteArray) (s4a : Option Addr) (s4n s4c : Nat) (s5 : Int) (h : Heap) : L15_0 n (m + 1) s0 s4a s4n s4c s5 h =
  (cond (decide ((s5 : Int) < ((s0).size : Int)))
    ((ixS s0 s5).bind fun b1 =>
      ((callD (eF P tab n) (.one (.flat (.int .i64))) 21 [.int .u8 b1] h).bind fun r2 =>
        (cond (decide ((r2.1 : Int) < 0))
          (some (.tuple ⟨[.slice none 0 0, .int .i64 2]⟩, r2.2))
          (L15_1 n m n s0 s4a s4n s4c s5 r2.1 4 r2.2))))
    (L15_2 n n s4a s4n s4c none 0 0 0 h)) := by kernel_rfl
theorem L15_1_eq (n m0 m : Nat) (s0 : ByteArray) (s4a : Option Addr) (s4n s4c : Nat) (s5 : Int) (s6 : Int) (s7 : Int) (h : Heap) : L15_1 n m0 (m + 1) s0 s4a s4n s4c s5 s6 s7 h =
  (cond (decide ((s7 : Int) ≥ 0))
    ((shrI .i64 s6 s7).bind fun x1 =>
      ((remI x1 2).bind fun x2 =>
        ((appD (h ++ [.row true 3 [.int .i64 x2]]) 1 8 3 ⟨s4a, s4n, s4c⟩ ⟨(some ⟨h.length, 0, none⟩), 1, 0⟩).bind fun r3 =>
          (L15_1 n m0 m s0 r3.1.a r3.1.n r3.1.c s5 s6 (IntKind.wrap .i64 (s7 - 1)) r3.2))))
    (L15_0 n m0 s0 s4a s4n s4c (IntKind.wrap .i64 (s5 + 1)) h)) := by kernel_rfl
theorem L15_2_eq (n m : Nat) (s4a : Option Addr) (s4n s4c : Nat) (s8a : Option Addr) (s8n s8c : Nat) (s9 : Int) (h : Heap) : L15_2 n (m + 1) s4a s4n s4c s8a s8n s8c s9 h =
  (cond (decide (((IntKind.wrap .i64 (s9 + 8)) : Int) ≤ ((s4n : Nat) : Int)))
    (L15_3 n m n s4a s4n s4c s8a s8n s8c s9 0 0 h)
    ((cutD h 1 3 ⟨s4a, s4n, s4c⟩ (some (IntKind.wrap .i64 (((s8n : Nat) : Int) * 8))) none none).bind fun s1 =>
      (L15_4 n n s8a s8n s8c s1.a s1.n s1.c 0 h))) := by kernel_rfl
theorem L15_3_eq (n m0 m : Nat) (s4a : Option Addr) (s4n s4c : Nat) (s8a : Option Addr) (s8n s8c : Nat) (s9 : Int) (s10 : Int) (s11 : Int) (h : Heap) : L15_3 n m0 (m + 1) s4a s4n s4c s8a s8n s8c s9 s10 s11 h =
  (cond (decide ((s11 : Int) < 8))
    ((ixA ⟨s4a, s4n, s4c⟩ 1 (IntKind.wrap .i64 (s9 + s11))).bind fun p1 =>
      ((ld1 (.flat (.int .i64)) h p1).bind fun x2 =>
        (L15_3 n m0 m s4a s4n s4c s8a s8n s8c s9 (IntKind.wrap .i64 ((IntKind.wrap .i64 (2 * s10)) + x2)) (IntKind.wrap .i64 (s11 + 1)) h)))
    ((appD (h ++ [.row true 5 [.int .u8 (IntKind.wrap .u8 s10)]]) 1 1 5 ⟨s8a, s8n, s8c⟩ ⟨(some ⟨h.length, 0, none⟩), 1, 0⟩).bind fun r3 =>
      (L15_2 n m0 s4a s4n s4c r3.1.a r3.1.n r3.1.c (IntKind.wrap .i64 (s9 + 8)) r3.2))) := by kernel_rfl
theorem L15_4_eq (n m : Nat) (s8a : Option Addr) (s8n s8c : Nat) (s12a : Option Addr) (s12n s12c : Nat) (s13 : Int) (h : Heap) : L15_4 n (m + 1) s8a s8n s8c s12a s12n s12c s13 h =
  (cond (decide ((s13 : Int) < ((s12n : Nat) : Int)))
    ((ixA ⟨s12a, s12n, s12c⟩ 1 s13).bind fun p1 =>
      ((ld1 (.flat (.int .i64)) h p1).bind fun x2 =>
        (cond ((x2 : Int) != 0)
          (some (.tuple ⟨[.slice none 0 0, .int .i64 2]⟩, h))
          (L15_4 n m s8a s8n s8c s12a s12n s12c (IntKind.wrap .i64 (s13 + 1)) h))))
    (cond (decide ((((s12n : Nat) : Int) : Int) > 4))
      (some (.tuple ⟨[.slice none 0 0, .int .i64 2]⟩, h))
      (some (.tuple ⟨[.slice s8a s8n s8c, .int .i64 0]⟩, h)))) := by kernel_rfl
theorem f15_eq (n : Nat) (a0 : ByteArray) (h : Heap) : bodyF P tab (eF P tab n) n 15 [.string a0] h =
  (L15_0 n n a0 none 0 0 0 h) := by kernel_rfl
/-! godown/godownref01.Join -/
theorem f16_eq (n : Nat) (a0a : Option Addr) (a0n a0c : Nat) (a1a : Option Addr) (a1n a1c : Nat) (h : Heap) : bodyF P tab (eF P tab n) n 16 [.slice a0a a0n a0c, .slice a1a a1n a1c] h =
  ((appD h 1 1 5 ⟨none, 0, 0⟩ ⟨a0a, a0n, a0c⟩).bind fun r1 =>
    ((appD r1.2 1 1 5 ⟨r1.1.a, r1.1.n, r1.1.c⟩ ⟨a1a, a1n, a1c⟩).bind fun r2 =>
      (some (.slice r2.1.a r2.1.n r2.1.c, r2.2)))) := by kernel_rfl
/-! (*strings.Builder).WriteByte -/
theorem f17_eq (n : Nat) (a0 : Option Addr) (a1 : Int) (h : Heap) : bodyF P tab (eF P tab n) n 17 [.pointer a0, .int .u8 a1] h =
  ((callD (eF P tab n) (.tup []) 22 [.pointer a0] h).bind fun r1 =>
    (a0.bind fun p2 =>
      ((ld1 (.flat .slice) r1.2 (at_ p2 1)).bind fun x3 =>
        ((appD (r1.2 ++ [.row true 5 [.int .u8 a1]]) 1 1 5 ⟨x3.a, x3.n, x3.c⟩ ⟨(some ⟨r1.2.length, 0, none⟩), 1, 0⟩).bind fun r4 =>
          (a0.bind fun p5 =>
            ((stV r4.2 (at_ p5 1) [.slice r4.1.a r4.1.n r4.1.c]).bind fun h6 =>
              (some (.nilIface, h6)))))))) := by kernel_rfl
/-! (*strings.Builder).String -/
theorem f18_eq (n : Nat) (a0 : Option Addr) (h : Heap) : bodyF P tab (eF P tab n) n 18 [.pointer a0] h =
  (a0.bind fun p1 =>
    ((ld1 (.flat .slice) h (at_ p1 1)).bind fun x2 =>
      ((sdA x2.a x2.n).bind fun p3 =>
        (a0.bind fun p4 =>
          ((ld1 (.flat .slice) h (at_ p4 1)).bind fun x5 =>
            ((unsafeStrO P h 5 p3 ((x5.n : Nat) : Int)).bind fun r6 =>
              (some (.string r6.1, r6.2)))))))) := by kernel_rfl
/-! strings.IndexByte -/
theorem f19_eq (n : Nat) (a0 : ByteArray) (a1 : Int) (h : Heap) : bodyF P tab (eF P tab n) n 19 [.string a0, .int .u8 a1] h =
  ((callD (eF P tab n) (.one (.flat (.int .i64))) 23 [.string a0, .int .u8 a1] h).bind fun r1 =>
    (some (.int .i64 r1.1, r1.2))) := by kernel_rfl
/-! godown/godownref03.bit -/
theorem f20_eq (n : Nat) (a0a : Option Addr) (a0n a0c : Nat) (a1 : Int) (h : Heap) : bodyF P tab (eF P tab n) n 20 [.slice a0a a0n a0c, .int .i64 a1] h =
  ((quoI .i64 a1 8).bind fun x1 =>
    (cond (decide ((x1 : Int) ≥ ((a0n : Nat) : Int)))
      (some (.int .i64 0, h))
      ((quoI .i64 a1 8).bind fun x2 =>
        ((ixA ⟨a0a, a0n, a0c⟩ 1 x2).bind fun p3 =>
          ((ld1 (.flat (.int .u8)) h p3).bind fun x4 =>
            ((remI a1 8).bind fun x5 =>
              ((shrI .u8 x4 (IntKind.wrap .i64 (7 - x5))).bind fun x6 =>
                ((remI (IntKind.wrap .i64 x6) 2).bind fun x7 =>
                  (some (.int .i64 x7, h)))))))))) := by kernel_rfl
/-! godown/godownref03.value -/
noncomputable def L21_0 (n m : Nat) (s0 : Int) (s3 : Int) (h : Heap) : Res := loopAt P tab 21 [1, 0, 1, 0] n [] m [.int .u8 s0, undef, undef, .int .i64 s3, undef, undef, undef, undef, undef, undef, undef, undef, undef] h
theorem L21_0_eq (n m : Nat) (s0 : Int) (s3 : Int) (h : Heap) : L21_0 n (m + 1) s0 s3 h =
  (cond (decide ((s3 : Int) < 32))
    ((ixS ⟨#[48, 49, 50, 51, 52, 53, 54, 55, 56, 57, 97, 98, 99, 100, 102, 103, 104, 105, 106, 107, 108, 109, 110, 112, 113, 114, 115, 118, 119, 120, 121, 122]⟩ s3).bind fun b1 =>
      (cond ((b1 : Int) == s0)
        (some (.int .i64 s3, h))
        (L21_0 n m s0 (IntKind.wrap .i64 (s3 + 1)) h)))
    (some (.int .i64 (-1), h))) := by kernel_rfl
theorem f21_eq (n : Nat) (a0 : Int) (h : Heap) : bodyF P tab (eF P tab n) n 21 [.int .u8 a0] h =
  (L21_0 n n a0 0 h) := by kernel_rfl
/-! (*strings.Builder).copyCheck -/
theorem f22_eq (n : Nat) (a0 : Option Addr) (h : Heap) : bodyF P tab (eF P tab n) n 22 [.pointer a0] h =
  (a0.bind fun p1 =>
    ((ld1 (.flat .ptr) h (at_ p1 0)).bind fun x2 =>
      (cond x2.isNone
        ((a0.bind (okTo P h 39)).bind fun u3 =>
          ((a0.bind (okFrom P h 39)).bind fun u4 =>
            (a0.bind fun p5 =>
              ((stV h (at_ p5 0) [.pointer a0]).bind fun h6 =>
                (some (.tuple ⟨[]⟩, h6))))))
        (a0.bind fun p7 =>
          ((ld1 (.flat .ptr) h (at_ p7 0)).bind fun x8 =>
            ((ptrEq 2 x8 a0).bind fun q9 =>
              (cond (!q9)
                none
                (some (.tuple ⟨[]⟩, h))))))))) := by kernel_rfl
/-! internal/stringslite.IndexByte -/
theorem f23_eq (n : Nat) (a0 : ByteArray) (a1 : Int) (h : Heap) : bodyF P tab (eF P tab n) n 23 [.string a0, .int .u8 a1] h =
  ((pvD P (.int .i64) (ext25 #[.string a0, .int .u8 a1])).bind fun x1 =>
    (some (.int .i64 x1, h))) := by kernel_rfl
end Go.Proofs.Ytfkecgpcamhgkaa
