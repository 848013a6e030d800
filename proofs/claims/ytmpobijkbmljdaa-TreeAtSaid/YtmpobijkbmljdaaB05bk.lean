import Derived.Test.YtmpobijkbmljdaaEq
set_option maxRecDepth 100000
set_option maxHeartbeats 0
set_option linter.unusedVariables false
set_option linter.unusedSimpArgs false
namespace Go.Proofs.Ytmpobijkbmljdaa
open Go.Proofs.Ytmpobijkbmljdaa.Sh Go.Proofs.Ytmpobijkbmljdaa.Sh.V
/-! godown/godownlaw05.TreeAt -/
noncomputable def L8_0 (n m : Nat) (s5 : Nat) (s10 : Int) (h : VH) : VRes := loopAt P tab 8 [1, 1, 1, 1, 1, 1, 0, 1, 0] n [] m [.undef, .undef, .undef, .undef, .undef, .ptr (.ob s5 0), .undef, .undef, .undef, .undef, .int .i64 s10, .undef, .undef, .undef, .undef, .undef, .undef, .undef, .undef, .undef, .undef, .undef, .undef, .undef, .undef, .undef, .undef, .undef, .undef, .undef, .undef, .undef, .undef, .undef, .undef, .undef, .undef, .undef, .undef, .undef, .undef, .undef, .undef, .undef, .undef, .undef, .undef, .undef, .undef, .undef, .undef, .undef, .undef, .undef, .undef, .undef, .undef, .undef, .undef, .undef, .undef, .undef, .undef, .undef, .undef, .undef, .undef, .undef, .undef, .undef, .undef, .undef, .undef, .undef, .undef, .undef, .undef, .undef, .undef, .undef, .undef, .undef, .undef, .undef, .undef, .undef, .undef, .undef, .undef, .undef, .undef, .undef, .undef, .undef, .undef, .undef, .undef, .undef, .undef, .undef, .undef, .undef, .undef, .undef, .undef, .undef, .undef, .undef, .undef, .undef, .undef, .undef, .undef, .undef, .undef, .undef, .undef, .undef, .undef, .undef, .undef, .undef, .undef, .undef, .undef, .undef, .undef, .undef, .undef, .undef, .undef, .undef, .undef, .undef, .undef, .undef, .undef, .undef, .undef, .undef, .undef, .undef, .undef, .undef, .undef, .undef, .undef, .undef, .undef, .undef, .undef, .undef, .undef, .undef, .undef, .undef, .undef, .undef] h
noncomputable def L8_1 (n m0 m : Nat) (s5 : Nat) (s10 : Int) (s15 : Int) (h : VH) : VRes := loopAt P tab 8 [1, 1, 1, 1, 1, 1, 0, 1, 0, 0, 1, 0, 0, 1, 1, 1, 1, 0] n [m0] m [.undef, .undef, .undef, .undef, .undef, .ptr (.ob s5 0), .undef, .undef, .undef, .undef, .int .i64 s10, .undef, .undef, .undef, .undef, .int .i64 s15, .undef, .undef, .undef, .undef, .undef, .undef, .undef, .undef, .undef, .undef, .undef, .undef, .undef, .undef, .undef, .undef, .undef, .undef, .undef, .undef, .undef, .undef, .undef, .undef, .undef, .undef, .undef, .undef, .undef, .undef, .undef, .undef, .undef, .undef, .undef, .undef, .undef, .undef, .undef, .undef, .undef, .undef, .undef, .undef, .undef, .undef, .undef, .undef, .undef, .undef, .undef, .undef, .undef, .undef, .undef, .undef, .undef, .undef, .undef, .undef, .undef, .undef, .undef, .undef, .undef, .undef, .undef, .undef, .undef, .undef, .undef, .undef, .undef, .undef, .undef, .undef, .undef, .undef, .undef, .undef, .undef, .undef, .undef, .undef, .undef, .undef, .undef, .undef, .undef, .undef, .undef, .undef, .undef, .undef, .undef, .undef, .undef, .undef, .undef, .undef, .undef, .undef, .undef, .undef, .undef, .undef, .undef, .undef, .undef, .undef, .undef, .undef, .undef, .undef, .undef, .undef, .undef, .undef, .undef, .undef, .undef, .undef, .undef, .undef, .undef, .undef, .undef, .undef, .undef, .undef, .undef, .undef, .undef, .undef, .undef, .undef, .undef, .undef, .undef, .undef, .undef, .undef] h
theorem L8_0_eq (n m : Nat) (s5 : Nat) (s10 : Int) (h : VH) : L8_0 n (m + 1) s5 s10 h =
  ((ldV (.flat (.slice 9)) h (.ob s5 1)).bind fun x1 =>
    (cond (decide ((s10 : Int) < ((VS.len x1 : Nat) : Int)))
      ((ldV (.agg [.int .u8, .slice 9, .slice 27, .slice 5, .bool, .flt .f64, .str]) (h ++ [.slot]) (.ob s5 0)).bind fun x2 =>
        ((ldV (.flat (.slice 9)) (h ++ [.slot]) (.ob s5 1)).bind fun x3 =>
          ((ixV 1 x3 s10).bind fun p4 =>
            ((ldV (.flat .str) (h ++ [.slot]) p4).bind fun x5 =>
              (cond ((List.all [.agg [.int .u8 x2.1, .sl 9 x2.2.1, .sl 27 x2.2.2.1, .sl 5 x2.2.2.2.1, .bool x2.2.2.2.2.1, .flt .f64 x2.2.2.2.2.2.1, .str x2.2.2.2.2.2.2.1], .str x5] closedC) && true)
                ((callD (vF P tab n) P false (.tup [(.agg [.int .u8, .slice 9, .slice 27, .slice 5, .bool, .flt .f64, .str]), (.flat .bool)]) 29 [.agg [.int .u8 x2.1, .sl 9 x2.2.1, .sl 27 x2.2.2.1, .sl 5 x2.2.2.2.1, .bool x2.2.2.2.2.1, .flt .f64 x2.2.2.2.2.2.1, .str x2.2.2.2.2.2.2.1], .str x5] []).bind fun r6 =>
                  (cond (V.stays (h ++ [.slot]) (hj (heldOf p4 [.str] [.str x5]) [(.ob s5 1, .slice 9, .sl 9 x3), (.ob s5 0, .int .u8, .int .u8 x2.1), (.ob s5 1, .slice 9, .sl 9 x2.2.1), (.ob s5 2, .slice 27, .sl 27 x2.2.2.1), (.ob s5 3, .slice 5, .sl 5 x2.2.2.2.1), (.ob s5 4, .bool, .bool x2.2.2.2.2.1), (.ob s5 5, .flt .f64, .flt .f64 x2.2.2.2.2.2.1), (.ob s5 6, .str, .str x2.2.2.2.2.2.2.1)]))
                    ((slotD (h ++ [.slot]) h.length (27 + boxK) [.int .u8 0, .sl 9 .nil, .sl 27 .nil, .sl 5 .nil, .bool false, .flt .f64 0, .str ⟨#[]⟩]).bind fun h7 =>
                      ((stV h7 (.ob h.length 0) [.int .u8 r6.1.1.1, .sl 9 r6.1.1.2.1, .sl 27 r6.1.1.2.2.1, .sl 5 r6.1.1.2.2.2.1, .bool r6.1.1.2.2.2.2.1, .flt .f64 r6.1.1.2.2.2.2.2.1, .str r6.1.1.2.2.2.2.2.2.1]).bind fun h8 =>
                        ((ldV (.agg [.int .u8, .slice 9, .slice 27, .slice 5, .bool, .flt .f64, .str]) (h8 ++ [.slot]) (.ob s5 0)).bind fun x9 =>
                        ((ldV (.flat (.slice 9)) (h8 ++ [.slot]) (.ob s5 1)).bind fun x10 =>
                        ((ixV 1 x10 s10).bind fun p11 =>
                        ((ldV (.flat .str) (h8 ++ [.slot]) p11).bind fun x12 =>
                        ((catS x12 ⟨#[47]⟩).bind fun z13 =>
                        (cond ((List.all [.agg [.int .u8 x9.1, .sl 9 x9.2.1, .sl 27 x9.2.2.1, .sl 5 x9.2.2.2.1, .bool x9.2.2.2.2.1, .flt .f64 x9.2.2.2.2.2.1, .str x9.2.2.2.2.2.2.1], .str z13] closedC) && true)
                        ((callD (vF P tab n) P false (.tup [(.agg [.int .u8, .slice 9, .slice 27, .slice 5, .bool, .flt .f64, .str]), (.flat .bool)]) 29 [.agg [.int .u8 x9.1, .sl 9 x9.2.1, .sl 27 x9.2.2.1, .sl 5 x9.2.2.2.1, .bool x9.2.2.2.2.1, .flt .f64 x9.2.2.2.2.2.1, .str x9.2.2.2.2.2.2.1], .str z13] []).bind fun r14 =>
                        (cond (V.stays (h8 ++ [.slot]) (hj (heldOf p11 [.str] [.str x12]) [(.ob s5 1, .slice 9, .sl 9 x10), (.ob s5 0, .int .u8, .int .u8 x9.1), (.ob s5 1, .slice 9, .sl 9 x9.2.1), (.ob s5 2, .slice 27, .sl 27 x9.2.2.1), (.ob s5 3, .slice 5, .sl 5 x9.2.2.2.1), (.ob s5 4, .bool, .bool x9.2.2.2.2.1), (.ob s5 5, .flt .f64, .flt .f64 x9.2.2.2.2.2.1), (.ob s5 6, .str, .str x9.2.2.2.2.2.2.1)]))
                        ((slotD (h8 ++ [.slot]) h8.length (27 + boxK) [.int .u8 0, .sl 9 .nil, .sl 27 .nil, .sl 5 .nil, .bool false, .flt .f64 0, .str ⟨#[]⟩]).bind fun h15 =>
                        ((stV h15 (.ob h8.length 0) [.int .u8 r14.1.1.1, .sl 9 r14.1.1.2.1, .sl 27 r14.1.1.2.2.1, .sl 5 r14.1.1.2.2.2.1, .bool r14.1.1.2.2.2.2.1, .flt .f64 r14.1.1.2.2.2.2.2.1, .str r14.1.1.2.2.2.2.2.2.1]).bind fun h16 =>
                        (cond (!r6.1.2.1)
                        (some (.bool false, h16))
                        (cond r14.1.2.1
                        (some (.bool false, h16))
                        ((ldV (.agg [.int .u8, .slice 9, .slice 27, .slice 5, .bool, .flt .f64, .str]) h16 (.ob h.length 0)).bind fun x17 =>
                        ((ldV (.flat (.slice 27)) h16 (.ob s5 2)).bind fun x18 =>
                        ((ixV 7 x18 s10).bind fun p19 =>
                        ((ldV (.agg [.int .u8, .slice 9, .slice 27, .slice 5, .bool, .flt .f64, .str]) h16 p19).bind fun x20 =>
                        ((callD (vF P tab n) P false (.one (.flat .bool)) 22 [.agg [.int .u8 x17.1, .sl 9 x17.2.1, .sl 27 x17.2.2.1, .sl 5 x17.2.2.2.1, .bool x17.2.2.2.2.1, .flt .f64 x17.2.2.2.2.2.1, .str x17.2.2.2.2.2.2.1], .agg [.int .u8 x20.1, .sl 9 x20.2.1, .sl 27 x20.2.2.1, .sl 5 x20.2.2.2.1, .bool x20.2.2.2.2.1, .flt .f64 x20.2.2.2.2.2.1, .str x20.2.2.2.2.2.2.1]] h16).bind fun r21 =>
                        (cond (!r21.1)
                        (some (.bool false, r21.2))
                        (L8_1 n m n s5 s10 0 r21.2)))))))))))
                        none))
                        none))))))))
                    none))
                none)))))
      ((ldV (.agg [.int .u8, .slice 9, .slice 27, .slice 5, .bool, .flt .f64, .str]) h (.ob s5 0)).bind fun x22 =>
        ((callD (vF P tab n) P false (.tup [(.agg [.int .u8, .slice 9, .slice 27, .slice 5, .bool, .flt .f64, .str]), (.flat .bool)]) 29 [.agg [.int .u8 x22.1, .sl 9 x22.2.1, .sl 27 x22.2.2.1, .sl 5 x22.2.2.2.1, .bool x22.2.2.2.2.1, .flt .f64 x22.2.2.2.2.2.1, .str x22.2.2.2.2.2.2.1], .str ⟨#[]⟩] h).bind fun r23 =>
          ((stV (r23.2 ++ [.row (27 + boxK) [.int .u8 0, .sl 9 .nil, .sl 27 .nil, .sl 5 .nil, .bool false, .flt .f64 0, .str ⟨#[]⟩]]) (.ob r23.2.length 0) [.int .u8 r23.1.1.1, .sl 9 r23.1.1.2.1, .sl 27 r23.1.1.2.2.1, .sl 5 r23.1.1.2.2.2.1, .bool r23.1.1.2.2.2.2.1, .flt .f64 r23.1.1.2.2.2.2.2.1, .str r23.1.1.2.2.2.2.2.2.1]).bind fun h24 =>
            (cond r23.1.2.1
              ((ldV (.agg [.int .u8, .slice 9, .slice 27, .slice 5, .bool, .flt .f64, .str]) h24 (.ob r23.2.length 0)).bind fun x25 =>
                ((ldV (.agg [.int .u8, .slice 9, .slice 27, .slice 5, .bool, .flt .f64, .str]) h24 (.ob s5 0)).bind fun x26 =>
                  ((callD (vF P tab n) P false (.one (.flat .bool)) 22 [.agg [.int .u8 x25.1, .sl 9 x25.2.1, .sl 27 x25.2.2.1, .sl 5 x25.2.2.2.1, .bool x25.2.2.2.2.1, .flt .f64 x25.2.2.2.2.2.1, .str x25.2.2.2.2.2.2.1], .agg [.int .u8 x26.1, .sl 9 x26.2.1, .sl 27 x26.2.2.1, .sl 5 x26.2.2.2.1, .bool x26.2.2.2.2.1, .flt .f64 x26.2.2.2.2.2.1, .str x26.2.2.2.2.2.2.1]] h24).bind fun r27 =>
                    (some (.bool r27.1, r27.2)))))
              (some (.bool false, h24)))))))) := by kernel_rfl
theorem L8_1_eq (n m0 m : Nat) (s5 : Nat) (s10 : Int) (s15 : Int) (h : VH) : L8_1 n m0 (m + 1) s5 s10 s15 h =
  ((ldV (.flat (.slice 27)) h (.ob s5 2)).bind fun x1 =>
    ((ixV 7 x1 s10).bind fun p2 =>
      ((atO p2 1).bind fun p3 =>
        ((ldV (.flat (.slice 9)) h p3).bind fun x4 =>
          (cond (decide ((s15 : Int) < ((VS.len x4 : Nat) : Int)))
            ((ldV (.agg [.int .u8, .slice 9, .slice 27, .slice 5, .bool, .flt .f64, .str]) (h ++ [.slot]) (.ob s5 0)).bind fun x5 =>
              ((ldV (.flat (.slice 9)) (h ++ [.slot]) (.ob s5 1)).bind fun x6 =>
                ((ixV 1 x6 s10).bind fun p7 =>
                  ((ldV (.flat .str) (h ++ [.slot]) p7).bind fun x8 =>
                    ((catS x8 ⟨#[47]⟩).bind fun z9 =>
                      ((ldV (.flat (.slice 27)) (h ++ [.slot]) (.ob s5 2)).bind fun x10 =>
                        ((ixV 7 x10 s10).bind fun p11 =>
                        ((atO p11 1).bind fun p12 =>
                        ((ldV (.flat (.slice 9)) (h ++ [.slot]) p12).bind fun x13 =>
                        ((ixV 1 x13 s15).bind fun p14 =>
                        ((ldV (.flat .str) (h ++ [.slot]) p14).bind fun x15 =>
                        ((catS z9 x15).bind fun z16 =>
                        (cond ((List.all [.agg [.int .u8 x5.1, .sl 9 x5.2.1, .sl 27 x5.2.2.1, .sl 5 x5.2.2.2.1, .bool x5.2.2.2.2.1, .flt .f64 x5.2.2.2.2.2.1, .str x5.2.2.2.2.2.2.1], .str z16] closedC) && true)
                        ((callD (vF P tab n) P false (.tup [(.agg [.int .u8, .slice 9, .slice 27, .slice 5, .bool, .flt .f64, .str]), (.flat .bool)]) 29 [.agg [.int .u8 x5.1, .sl 9 x5.2.1, .sl 27 x5.2.2.1, .sl 5 x5.2.2.2.1, .bool x5.2.2.2.2.1, .flt .f64 x5.2.2.2.2.2.1, .str x5.2.2.2.2.2.2.1], .str z16] []).bind fun r17 =>
                        (cond (V.stays (h ++ [.slot]) (hj (heldOf p14 [.str] [.str x15]) (hj (heldOf p12 [.slice 9] [.sl 9 x13]) (hj [(.ob s5 2, .slice 27, .sl 27 x10)] (hj (heldOf p7 [.str] [.str x8]) [(.ob s5 1, .slice 9, .sl 9 x6), (.ob s5 0, .int .u8, .int .u8 x5.1), (.ob s5 1, .slice 9, .sl 9 x5.2.1), (.ob s5 2, .slice 27, .sl 27 x5.2.2.1), (.ob s5 3, .slice 5, .sl 5 x5.2.2.2.1), (.ob s5 4, .bool, .bool x5.2.2.2.2.1), (.ob s5 5, .flt .f64, .flt .f64 x5.2.2.2.2.2.1), (.ob s5 6, .str, .str x5.2.2.2.2.2.2.1)])))))
                        ((slotD (h ++ [.slot]) h.length (27 + boxK) [.int .u8 0, .sl 9 .nil, .sl 27 .nil, .sl 5 .nil, .bool false, .flt .f64 0, .str ⟨#[]⟩]).bind fun h18 =>
                        ((stV h18 (.ob h.length 0) [.int .u8 r17.1.1.1, .sl 9 r17.1.1.2.1, .sl 27 r17.1.1.2.2.1, .sl 5 r17.1.1.2.2.2.1, .bool r17.1.1.2.2.2.2.1, .flt .f64 r17.1.1.2.2.2.2.2.1, .str r17.1.1.2.2.2.2.2.2.1]).bind fun h19 =>
                        (cond (!r17.1.2.1)
                        (some (.bool false, h19))
                        ((ldV (.agg [.int .u8, .slice 9, .slice 27, .slice 5, .bool, .flt .f64, .str]) h19 (.ob h.length 0)).bind fun x20 =>
                        ((ldV (.flat (.slice 27)) h19 (.ob s5 2)).bind fun x21 =>
                        ((ixV 7 x21 s10).bind fun p22 =>
                        ((atO p22 2).bind fun p23 =>
                        ((ldV (.flat (.slice 27)) h19 p23).bind fun x24 =>
                        ((ixV 7 x24 s15).bind fun p25 =>
                        ((ldV (.agg [.int .u8, .slice 9, .slice 27, .slice 5, .bool, .flt .f64, .str]) h19 p25).bind fun x26 =>
                        ((callD (vF P tab n) P false (.one (.flat .bool)) 22 [.agg [.int .u8 x20.1, .sl 9 x20.2.1, .sl 27 x20.2.2.1, .sl 5 x20.2.2.2.1, .bool x20.2.2.2.2.1, .flt .f64 x20.2.2.2.2.2.1, .str x20.2.2.2.2.2.2.1], .agg [.int .u8 x26.1, .sl 9 x26.2.1, .sl 27 x26.2.2.1, .sl 5 x26.2.2.2.1, .bool x26.2.2.2.2.1, .flt .f64 x26.2.2.2.2.2.1, .str x26.2.2.2.2.2.2.1]] h19).bind fun r27 =>
                        (cond (!r27.1)
                        (some (.bool false, r27.2))
                        (L8_1 n m0 m s5 s10 (IntKind.wrap .i64 (s15 + 1)) r27.2)))))))))))))
                        none))
                        none)))))))))))))
            (L8_0 n m0 s5 (IntKind.wrap .i64 (s10 + 1)) h)))))) := by kernel_rfl
theorem f8_eq (n : Nat) (a0 : VS) (a1 : ByteArray) (h : VH) : bodyV P tab (vF P tab n) n 8 [.sl 55 a0, .str a1] h =
  ((callD (vF P tab n) P false (.one (.flat .bool)) 9 [] h).bind fun r1 =>
    (cond (!r1.1)
      ((callD (vF P tab n) P false (.one (.flat .bool)) 9 [] r1.2).bind fun r2 =>
        (some (.bool r2.1, r2.2)))
      ((callD (vF P tab n) P false (.one (.flat .bool)) 19 [.sl 55 a0] r1.2).bind fun r3 =>
        (cond (!r3.1)
          ((callD (vF P tab n) P false (.one (.flat .bool)) 9 [] r3.2).bind fun r4 =>
            (some (.bool r4.1, r4.2)))
          (cond (decide ((((a1).size : Int) : Int) > 60))
            ((callD (vF P tab n) P false (.one (.flat .bool)) 9 [] r3.2).bind fun r5 =>
              (some (.bool r5.1, r5.2)))
            ((callD (vF P tab n) P false (.one (.agg [.int .u8, .slice 9, .slice 27, .slice 5, .bool, .flt .f64, .str])) 20 [.sl 55 a0] r3.2).bind fun r6 =>
              ((stV (r6.2 ++ [.row (27 + boxK) [.int .u8 0, .sl 9 .nil, .sl 27 .nil, .sl 5 .nil, .bool false, .flt .f64 0, .str ⟨#[]⟩]]) (.ob r6.2.length 0) [.int .u8 r6.1.1, .sl 9 r6.1.2.1, .sl 27 r6.1.2.2.1, .sl 5 r6.1.2.2.2.1, .bool r6.1.2.2.2.2.1, .flt .f64 r6.1.2.2.2.2.2.1, .str r6.1.2.2.2.2.2.2.1]).bind fun h7 =>
                ((ldV (.agg [.int .u8, .slice 9, .slice 27, .slice 5, .bool, .flt .f64, .str]) h7 (.ob r6.2.length 0)).bind fun x8 =>
                  ((callD (vF P tab n) P false (.tup [(.agg [.int .u8, .slice 9, .slice 27, .slice 5, .bool, .flt .f64, .str]), (.flat .bool)]) 29 [.agg [.int .u8 x8.1, .sl 9 x8.2.1, .sl 27 x8.2.2.1, .sl 5 x8.2.2.2.1, .bool x8.2.2.2.2.1, .flt .f64 x8.2.2.2.2.2.1, .str x8.2.2.2.2.2.2.1], .str a1] h7).bind fun r9 =>
                    ((stV (r9.2 ++ [.row (27 + boxK) [.int .u8 0, .sl 9 .nil, .sl 27 .nil, .sl 5 .nil, .bool false, .flt .f64 0, .str ⟨#[]⟩]]) (.ob r9.2.length 0) [.int .u8 r9.1.1.1, .sl 9 r9.1.1.2.1, .sl 27 r9.1.1.2.2.1, .sl 5 r9.1.1.2.2.2.1, .bool r9.1.1.2.2.2.2.1, .flt .f64 r9.1.1.2.2.2.2.2.1, .str r9.1.1.2.2.2.2.2.2.1]).bind fun h10 =>
                      ((ldV (.agg [.int .u8, .slice 9, .slice 27, .slice 5, .bool, .flt .f64, .str]) h10 (.ob r6.2.length 0)).bind fun x11 =>
                        ((callD (vF P tab n) P false (.tup [(.agg [.int .u8, .slice 9, .slice 27, .slice 5, .bool, .flt .f64, .str]), (.flat .bool)]) 30 [.agg [.int .u8 x11.1, .sl 9 x11.2.1, .sl 27 x11.2.2.1, .sl 5 x11.2.2.2.1, .bool x11.2.2.2.2.1, .flt .f64 x11.2.2.2.2.2.1, .str x11.2.2.2.2.2.2.1], .str a1] h10).bind fun r12 =>
                        ((stV (r12.2 ++ [.row (27 + boxK) [.int .u8 0, .sl 9 .nil, .sl 27 .nil, .sl 5 .nil, .bool false, .flt .f64 0, .str ⟨#[]⟩]]) (.ob r12.2.length 0) [.int .u8 r12.1.1.1, .sl 9 r12.1.1.2.1, .sl 27 r12.1.1.2.2.1, .sl 5 r12.1.1.2.2.2.1, .bool r12.1.1.2.2.2.2.1, .flt .f64 r12.1.1.2.2.2.2.2.1, .str r12.1.1.2.2.2.2.2.2.1]).bind fun h13 =>
                        (cond (!(r9.1.2.1 == r12.1.2.1))
                        (some (.bool false, h13))
                        ((ldV (.agg [.int .u8, .slice 9, .slice 27, .slice 5, .bool, .flt .f64, .str]) h13 (.ob r9.2.length 0)).bind fun x14 =>
                        ((ldV (.agg [.int .u8, .slice 9, .slice 27, .slice 5, .bool, .flt .f64, .str]) h13 (.ob r12.2.length 0)).bind fun x15 =>
                        ((callD (vF P tab n) P false (.one (.flat .bool)) 22 [.agg [.int .u8 x14.1, .sl 9 x14.2.1, .sl 27 x14.2.2.1, .sl 5 x14.2.2.2.1, .bool x14.2.2.2.2.1, .flt .f64 x14.2.2.2.2.2.1, .str x14.2.2.2.2.2.2.1], .agg [.int .u8 x15.1, .sl 9 x15.2.1, .sl 27 x15.2.2.1, .sl 5 x15.2.2.2.1, .bool x15.2.2.2.2.1, .flt .f64 x15.2.2.2.2.2.1, .str x15.2.2.2.2.2.2.1]] h13).bind fun r16 =>
                        (cond (!r16.1)
                        (some (.bool false, r16.2))
                        (L8_0 n n r6.2.length 0 r16.2))))))))))))))))))) := by kernel_rfl

end Go.Proofs.Ytmpobijkbmljdaa
