import Derived.Test.YtgmgpandhaeniaaB14a
set_option maxRecDepth 100000
set_option maxHeartbeats 0
set_option linter.unusedVariables false
set_option linter.unusedSimpArgs false
namespace Go.Proofs.Ytgmgpandhaeniaa
open Go.Proofs.Ytgmgpandhaeniaa.Sh Go.Proofs.Ytgmgpandhaeniaa.Sh.V
abbrev Cl := FuncId → List V → VH → VRes
noncomputable def K7_2 (call : Cl) (n : Nat) : Nat → Bool → VP → Int → Int → Int → VH → VRes
  | 0, _, _, _, _, _, _ => none
  | m + 1, s2, s7, s8, s9, s14, h =>
  (cond (decide ((s14 : Int) < s8))
    ((callD call P false (.one (.flat (.slice 3))) 13 [.ptr s7, .int .i64 s14] h).bind fun r1 =>
      (cond (decide ((s14 : Int) < (IntKind.wrap .i64 (s8 - 1))))
        (cond (decide ((((VS.len r1.1 : Nat) : Int) : Int) > 0))
          (some (.bool false, r1.2))
          (cond ((s14 : Int) == (IntKind.wrap .i64 (s8 - 1)))
            ((callD call P false (.one (.flat .bool)) 15 [.sl 3 r1.1, .sl 3 (.fz [[.int .i64 50]] (.ex 1))] r1.2).bind fun r2 =>
              (cond (!r2.1)
                (some (.bool false, r2.2))
                (K7_2 call n m s2 s7 s8 s9 (IntKind.wrap .i64 (s14 + 1)) r2.2)))
            (K7_2 call n m s2 s7 s8 s9 (IntKind.wrap .i64 (s14 + 1)) r1.2)))
        (cond ((s14 : Int) == (IntKind.wrap .i64 (s8 - 1)))
          ((callD call P false (.one (.flat .bool)) 15 [.sl 3 r1.1, .sl 3 (.fz [[.int .i64 50]] (.ex 1))] r1.2).bind fun r3 =>
            (cond (!r3.1)
              (some (.bool false, r3.2))
              (K7_2 call n m s2 s7 s8 s9 (IntKind.wrap .i64 (s14 + 1)) r3.2)))
          (K7_2 call n m s2 s7 s8 s9 (IntKind.wrap .i64 (s14 + 1)) r1.2))))
    ((callD call P false (.one (.flat .bool)) 16 [.ptr s7, .str ⟨#[97]⟩] h).bind fun r4 =>
      (cond r4.1
        ((callD call P false (.one (.flat (.slice 3))) 17 [.ptr s7, .str ⟨#[97]⟩] r4.2).bind fun r5 =>
          ((callD call P false (.one (.flat .bool)) 15 [.sl 3 r5.1, .sl 3 (.fz [[.int .i64 50]] (.ex 1))] r5.2).bind fun r6 =>
            (cond r6.1
              ((callD call P false (.one (.flat (.slice 3))) 13 [.ptr s7, .int .i64 50] r6.2).bind fun r7 =>
                (cond ((((VS.len r7.1 : Nat) : Int) : Int) == s9)
                  ((callD call P false (.one (.flat (.slice 3))) 17 [.ptr s7, .str ⟨#[97]⟩] r7.2).bind fun r8 =>
                    (cond ((((VS.len r8.1 : Nat) : Int) : Int) == s9)
                      (cond s2
                        (some (.bool true, r8.2))
                        ((callD call P false (.one (.flat (.slice 3))) 18 [.ptr s7, .str ⟨#[97]⟩] r8.2).bind fun r9 =>
                        (some (.bool ((((VS.len r9.1 : Nat) : Int) : Int) == 0), r9.2))))
                      (some (.bool false, r8.2))))
                  (some (.bool false, r7.2))))
              (some (.bool false, r6.2)))))
        (some (.bool false, r4.2)))))
noncomputable def K7_1 (call : Cl) (n : Nat) : Nat → Bool → VP → Int → Int → Int → VH → VRes
  | 0, _, _, _, _, _, _ => none
  | m + 1, s2, s7, s8, s9, s13, h =>
  (cond (decide ((s13 : Int) < s9))
    ((callD call P false (.one (.flat .bool)) 12 [.ptr s7, .int .i64 (IntKind.wrap .i64 (60 + s13)), .agg [.str ⟨#[97]⟩, .bool false]] h).bind fun r1 =>
      (cond r1.1
        (some (.bool false, r1.2))
        (K7_1 call n m s2 s7 s8 s9 (IntKind.wrap .i64 (s13 + 1)) r1.2)))
    (K7_2 call n n s2 s7 s8 s9 0 h))
noncomputable def K7_0 (call : Cl) (n : Nat) : Nat → Bool → VP → Int → Int → VS → Int → VH → VRes
  | 0, _, _, _, _, _, _, _ => none
  | m + 1, s2, s7, s8, s9, s10, s11, h =>
  (cond (decide ((s11 : Int) < s8))
    ((callD call P false (.one (.flat .bool)) 12 [.ptr s7, .int .i64 s11, .agg [.str ⟨#[97]⟩, .bool false]] h).bind fun r1 =>
      (cond (!r1.1)
        (some (.bool false, r1.2))
        ((appD true r1.2 1 8 3 s10 (.fz [[.int .i64 s11]] (.ex 1))).bind fun r2 =>
          (K7_0 call n m s2 s7 s8 s9 r2.1 (IntKind.wrap .i64 (s11 + 1)) r2.2))))
    ((callD call P false (.one (.flat .bool)) 12 [.ptr s7, .int .i64 50, .agg [.str ⟨#[97]⟩, .bool true]] h).bind fun r3 =>
      (cond (!(r3.1 == ((s8 : Int) == 0)))
        (some (.bool false, r3.2))
        ((callD call P false (.one (.flat (.slice 3))) 21 [.ptr s7, .int .i64 50] r3.2).bind fun r4 =>
          ((callD call P false (.one (.flat .bool)) 15 [.sl 3 r4.1, .sl 3 s10] r4.2).bind fun r5 =>
            (cond (!r5.1)
              (cond (decide ((s8 : Int) > 0))
                (some (.bool false, r5.2))
                (K7_1 call n n s2 s7 s8 s9 0 r5.2))
              (K7_1 call n n s2 s7 s8 s9 0 r5.2)))))))
noncomputable def C7 (call : Cl) (n : Nat) (a0 : Int) (a1 : Int) (a2 : Bool) (h : VH) : VRes :=
  ((callD call P false (.one (.flat .bool)) 10 [] h).bind fun r1 =>
    (cond (!r1.1)
      (some (.bool false, r1.2))
      ((callD call P false (.one (.flat .ptr)) 11 [] r1.2).bind fun r2 =>
        ((remI a0 8).bind fun x3 =>
          ((remI a1 5).bind fun x4 =>
            (K7_0 call n n a2 r2.1 (IntKind.wrap .i64 x3) (IntKind.wrap .i64 x4) .nil 0 r2.2))))))
noncomputable def D7 (call : Cl) (n : Nat) (args : List V) (h : VH) : VRes :=
  match args with
  | [.int .u8 a0, .int .u8 a1, .bool a2] => C7 call n a0 a1 a2 h
  | args => bodyV P tab call n 7 args h
noncomputable def C11 (call : Cl) (n : Nat) (h : VH) : VRes :=
  (some (.ptr (.ob (List.length ((List.append (α := VO) (h ++ [.map .str []]) [.map (.int .i64) []]) : VH)) 0), (List.append (α := VO) (List.append (α := VO) (h ++ [.map .str []]) [.map (.int .i64) []]) [.row (62 + boxK) [.map (some h.length), .map (some (List.length ((h ++ [.map .str []]) : VH)))]])))
noncomputable def D11 (call : Cl) (n : Nat) (args : List V) (h : VH) : VRes :=
  match args with
  | [] => C11 call n h
  | args => bodyV P tab call n 11 args h
noncomputable def C12 (call : Cl) (n : Nat) (a0 : VP) (a1 : Int) (a2_0 : ByteArray) (a2_1 : Bool) (h : VH) : VRes :=
  (cond (VP.isNil a0)
    (some (.bool false, (h ++ [.row (28 + boxK) [.str a2_0, .bool a2_1]])))
    ((nn a0).bind fun p1 =>
      ((atO p1 1).bind fun p2 =>
        ((ldV (.flat .map) (h ++ [.row (28 + boxK) [.str a2_0, .bool a2_1]]) p2).bind fun x3 =>
          ((V.lookD P 9 (.flat .str) (h ++ [.row (28 + boxK) [.str a2_0, .bool a2_1]]) (.int .i64) x3 (.int .i64 a1)).bind fun x4 =>
            (cond x4.2
              (some (.bool false, (h ++ [.row (28 + boxK) [.str a2_0, .bool a2_1]])))
              ((ldV (.flat .str) (h ++ [.row (28 + boxK) [.str a2_0, .bool a2_1]]) (.ob h.length 0)).bind fun x5 =>
                ((callD call P false (.one (.flat .ptr)) 26 [.ptr a0, .str x5] (h ++ [.row (28 + boxK) [.str a2_0, .bool a2_1]])).bind fun r6 =>
                  ((nn r6.1).bind fun p7 =>
                    ((atO p7 0).bind fun p8 =>
                      ((ldV (.flat (.slice 3)) r6.2 p8).bind fun x9 =>
                        ((callD call P false (.one (.flat .bool)) 27 [.sl 3 x9, .int .i64 a1] r6.2).bind fun r10 =>
                        (cond r10.1
                        ((nn r6.1).bind fun p11 =>
                        ((atO p11 1).bind fun p12 =>
                        ((ldV (.flat .bool) r10.2 p12).bind fun x13 =>
                        (cond x13
                        (some (.bool true, r10.2))
                        ((ldV (.flat .bool) r10.2 (.ob h.length 1)).bind fun x14 =>
                        (cond (!x14)
                        (some (.bool true, r10.2))
                        ((ldV (.flat .bool) r10.2 (.ob h.length 1)).bind fun x15 =>
                        ((stV (r10.2 ++ [.row (70 + boxK) [.int .i64 0, .bool false, .bool false]]) (.ob r10.2.length 0) [.int .i64 a1, .bool x15, .bool r10.1]).bind fun h16 =>
                        ((ldV (.agg [.int .i64, .bool, .bool]) h16 (.ob r10.2.length 0)).bind fun x17 =>
                        ((callD call P false (.one (.flat .bool)) 28 [.ptr r6.1, .agg [.int .i64 x17.1, .bool x17.2.1, .bool x17.2.2.1]] h16).bind fun r18 =>
                        (cond r18.1
                        (cond r10.1
                        ((ldV (.agg [.int .i64, .bool, .bool]) r18.2 (.ob r10.2.length 0)).bind fun x19 =>
                        ((callD call P false (.tup []) 29 [.ptr r6.1, .agg [.int .i64 x19.1, .bool x19.2.1, .bool x19.2.2.1]] r18.2).bind fun r20 =>
                        (some (.bool true, r20.2))))
                        ((nn r6.1).bind fun p21 =>
                        ((atO p21 2).bind fun p22 =>
                        ((ldV (.flat (.slice 70)) r18.2 p22).bind fun x23 =>
                        (cond ((((VS.len x23 : Nat) : Int) : Int) == 0)
                        ((ldV (.agg [.int .i64, .bool, .bool]) r18.2 (.ob r10.2.length 0)).bind fun x24 =>
                        ((callD call P false (.tup []) 29 [.ptr r6.1, .agg [.int .i64 x24.1, .bool x24.2.1, .bool x24.2.2.1]] r18.2).bind fun r25 =>
                        (some (.bool true, r25.2))))
                        ((ldV (.flat .str) r18.2 (.ob h.length 0)).bind fun x26 =>
                        ((ldV (.agg [.int .i64, .bool, .bool]) r18.2 (.ob r10.2.length 0)).bind fun x27 =>
                        ((callD call P false (.tup []) 30 [.ptr a0, .str x26, .agg [.int .i64 x27.1, .bool x27.2.1, .bool x27.2.2.1]] r18.2).bind fun r28 =>
                        (some (.bool false, r28.2))))))))))
                        ((ldV (.flat .str) r18.2 (.ob h.length 0)).bind fun x29 =>
                        ((ldV (.agg [.int .i64, .bool, .bool]) r18.2 (.ob r10.2.length 0)).bind fun x30 =>
                        ((callD call P false (.tup []) 30 [.ptr a0, .str x29, .agg [.int .i64 x30.1, .bool x30.2.1, .bool x30.2.2.1]] r18.2).bind fun r31 =>
                        (some (.bool false, r31.2))))))))))))))))
                        ((ldV (.flat .bool) r10.2 (.ob h.length 1)).bind fun x32 =>
                        ((stV (r10.2 ++ [.row (70 + boxK) [.int .i64 0, .bool false, .bool false]]) (.ob r10.2.length 0) [.int .i64 a1, .bool x32, .bool r10.1]).bind fun h33 =>
                        ((ldV (.agg [.int .i64, .bool, .bool]) h33 (.ob r10.2.length 0)).bind fun x34 =>
                        ((callD call P false (.one (.flat .bool)) 28 [.ptr r6.1, .agg [.int .i64 x34.1, .bool x34.2.1, .bool x34.2.2.1]] h33).bind fun r35 =>
                        (cond r35.1
                        (cond r10.1
                        ((ldV (.agg [.int .i64, .bool, .bool]) r35.2 (.ob r10.2.length 0)).bind fun x36 =>
                        ((callD call P false (.tup []) 29 [.ptr r6.1, .agg [.int .i64 x36.1, .bool x36.2.1, .bool x36.2.2.1]] r35.2).bind fun r37 =>
                        (some (.bool true, r37.2))))
                        ((nn r6.1).bind fun p38 =>
                        ((atO p38 2).bind fun p39 =>
                        ((ldV (.flat (.slice 70)) r35.2 p39).bind fun x40 =>
                        (cond ((((VS.len x40 : Nat) : Int) : Int) == 0)
                        ((ldV (.agg [.int .i64, .bool, .bool]) r35.2 (.ob r10.2.length 0)).bind fun x41 =>
                        ((callD call P false (.tup []) 29 [.ptr r6.1, .agg [.int .i64 x41.1, .bool x41.2.1, .bool x41.2.2.1]] r35.2).bind fun r42 =>
                        (some (.bool true, r42.2))))
                        ((ldV (.flat .str) r35.2 (.ob h.length 0)).bind fun x43 =>
                        ((ldV (.agg [.int .i64, .bool, .bool]) r35.2 (.ob r10.2.length 0)).bind fun x44 =>
                        ((callD call P false (.tup []) 30 [.ptr a0, .str x43, .agg [.int .i64 x44.1, .bool x44.2.1, .bool x44.2.2.1]] r35.2).bind fun r45 =>
                        (some (.bool false, r45.2))))))))))
                        ((ldV (.flat .str) r35.2 (.ob h.length 0)).bind fun x46 =>
                        ((ldV (.agg [.int .i64, .bool, .bool]) r35.2 (.ob r10.2.length 0)).bind fun x47 =>
                        ((callD call P false (.tup []) 30 [.ptr a0, .str x46, .agg [.int .i64 x47.1, .bool x47.2.1, .bool x47.2.2.1]] r35.2).bind fun r48 =>
                        (some (.bool false, r48.2)))))))))))))))))))))))
noncomputable def D12 (call : Cl) (n : Nat) (args : List V) (h : VH) : VRes :=
  match args with
  | [.ptr a0, .int .i64 a1, .agg [.str a2_0, .bool a2_1]] => C12 call n a0 a1 a2_0 a2_1 h
  | args => bodyV P tab call n 12 args h
noncomputable def K13_0 (call : Cl) (n : Nat) : Nat → VP → Int → VS → VS → Int → Int → VH → VRes
  | 0, _, _, _, _, _, _, _ => none
  | m + 1, s0, s1, s5, s10, s11, s12, h =>
  (cond (decide ((s12 : Int) < s11))
    ((ixV 1 s10 s12).bind fun p1 =>
      ((ldV (.flat .str) h p1).bind fun x2 =>
        ((nn s0).bind fun p3 =>
          ((atO p3 0).bind fun p4 =>
            ((ldV (.flat .map) h p4).bind fun x5 =>
              ((V.lookD P 63 (.flat .ptr) h .str x5 (.str x2)).bind fun x6 =>
                ((callD call P false (.one (.flat .bool)) 32 [.ptr x6.1, .int .i64 s1] h).bind fun r7 =>
                  (cond r7.1
                    ((callD call P false (.one (.flat (.slice 3))) 33 [.ptr s0, .ptr x6.1] r7.2).bind fun r8 =>
                      ((appD true r8.2 1 8 3 s5 r8.1).bind fun r9 =>
                        ((nn x6.1).bind fun p10 =>
                        ((atO p10 0).bind fun p11 =>
                        ((ldV (.flat (.slice 3)) r9.2 p11).bind fun x12 =>
                        ((nn x6.1).bind fun p13 =>
                        ((atO p13 2).bind fun p14 =>
                        ((ldV (.flat (.slice 70)) r9.2 p14).bind fun x15 =>
                        (cond (((IntKind.wrap .i64 (((VS.len x12 : Nat) : Int) + ((VS.len x15 : Nat) : Int))) : Int) == 0)
                        ((nn s0).bind fun p16 =>
                        ((atO p16 0).bind fun p17 =>
                        ((ldV (.flat .map) r9.2 p17).bind fun x18 =>
                        ((V.cutMD r9.2 .str x18 (.str x2)).bind fun h19 =>
                        (K13_0 call n m s0 s1 r9.1 s10 s11 (IntKind.wrap .i64 (s12 + 1)) h19)))))
                        (K13_0 call n m s0 s1 r9.1 s10 s11 (IntKind.wrap .i64 (s12 + 1)) r9.2))))))))))
                    ((nn x6.1).bind fun p20 =>
                      ((atO p20 0).bind fun p21 =>
                        ((ldV (.flat (.slice 3)) r7.2 p21).bind fun x22 =>
                        ((nn x6.1).bind fun p23 =>
                        ((atO p23 2).bind fun p24 =>
                        ((ldV (.flat (.slice 70)) r7.2 p24).bind fun x25 =>
                        (cond (((IntKind.wrap .i64 (((VS.len x22 : Nat) : Int) + ((VS.len x25 : Nat) : Int))) : Int) == 0)
                        ((nn s0).bind fun p26 =>
                        ((atO p26 0).bind fun p27 =>
                        ((ldV (.flat .map) r7.2 p27).bind fun x28 =>
                        ((V.cutMD r7.2 .str x28 (.str x2)).bind fun h29 =>
                        (K13_0 call n m s0 s1 s5 s10 s11 (IntKind.wrap .i64 (s12 + 1)) h29)))))
                        (K13_0 call n m s0 s1 s5 s10 s11 (IntKind.wrap .i64 (s12 + 1)) r7.2))))))))))))))))
    (cond (!VP.isNil s0)
      ((nn s0).bind fun p30 =>
        ((atO p30 1).bind fun p31 =>
          ((ldV (.flat .map) h p31).bind fun x32 =>
            ((V.cutMD h (.int .i64) x32 (.int .i64 s1)).bind fun h33 =>
              (some (.sl 3 s5, h33))))))
      (some (.sl 3 s5, h))))
noncomputable def C13 (call : Cl) (n : Nat) (a0 : VP) (a1 : Int) (h : VH) : VRes :=
  ((callD call P false (.one (.flat (.slice 9))) 31 [.ptr a0] h).bind fun r1 =>
    (K13_0 call n n a0 a1 .nil r1.1 ((VS.len r1.1 : Nat) : Int) 0 r1.2))
noncomputable def D13 (call : Cl) (n : Nat) (args : List V) (h : VH) : VRes :=
  match args with
  | [.ptr a0, .int .i64 a1] => C13 call n a0 a1 h
  | args => bodyV P tab call n 13 args h
noncomputable def C14 (call : Cl) (n : Nat) (a0 : VP) (h : VH) : VRes :=
  ((callD call P false (.one (.flat (.slice 9))) 31 [.ptr a0] h).bind fun r1 =>
    (some (.int .i64 ((VS.len r1.1 : Nat) : Int), r1.2)))
noncomputable def D14 (call : Cl) (n : Nat) (args : List V) (h : VH) : VRes :=
  match args with
  | [.ptr a0] => C14 call n a0 h
  | args => bodyV P tab call n 14 args h
noncomputable def K15_0 (call : Cl) (n : Nat) : Nat → VS → VS → Int → VH → VRes
  | 0, _, _, _, _ => none
  | m + 1, s0, s1, s5, h =>
  (cond (decide ((s5 : Int) < ((VS.len s0 : Nat) : Int)))
    ((ixV 1 s0 s5).bind fun p1 =>
      ((ldV (.flat (.int .i64)) h p1).bind fun x2 =>
        ((ixV 1 s1 s5).bind fun p3 =>
          ((ldV (.flat (.int .i64)) h p3).bind fun x4 =>
            (cond ((x2 : Int) != x4)
              (some (.bool false, h))
              (K15_0 call n m s0 s1 (IntKind.wrap .i64 (s5 + 1)) h))))))
    (some (.bool true, h)))
noncomputable def C15 (call : Cl) (n : Nat) (a0 : VS) (a1 : VS) (h : VH) : VRes :=
  (cond ((((VS.len a0 : Nat) : Int) : Int) != ((VS.len a1 : Nat) : Int))
    (some (.bool false, h))
    (K15_0 call n n a0 a1 0 h))
noncomputable def D15 (call : Cl) (n : Nat) (args : List V) (h : VH) : VRes :=
  match args with
  | [.sl 3 a0, .sl 3 a1] => C15 call n a0 a1 h
  | args => bodyV P tab call n 15 args h
noncomputable def C16 (call : Cl) (n : Nat) (a0 : VP) (a1 : ByteArray) (h : VH) : VRes :=
  ((callD call P false (.one (.agg [.slice 3, .bool, .slice 70])) 34 [.ptr a0, .str a1] h).bind fun r1 =>
    (some (.bool r1.1.2.1, r1.2)))
noncomputable def D16 (call : Cl) (n : Nat) (args : List V) (h : VH) : VRes :=
  match args with
  | [.ptr a0, .str a1] => C16 call n a0 a1 h
  | args => bodyV P tab call n 16 args h
noncomputable def C17 (call : Cl) (n : Nat) (a0 : VP) (a1 : ByteArray) (h : VH) : VRes :=
  ((callD call P false (.one (.agg [.slice 3, .bool, .slice 70])) 34 [.ptr a0, .str a1] h).bind fun r1 =>
    ((callD call P false (.one (.flat (.slice 3))) 35 [.sl 3 r1.1.1] r1.2).bind fun r2 =>
      (some (.sl 3 r2.1, r2.2))))
noncomputable def D17 (call : Cl) (n : Nat) (args : List V) (h : VH) : VRes :=
  match args with
  | [.ptr a0, .str a1] => C17 call n a0 a1 h
  | args => bodyV P tab call n 17 args h
noncomputable def K18_0 (call : Cl) (n : Nat) : Nat → VS → VS → Int → Int → VH → VRes
  | 0, _, _, _, _, _ => none
  | m + 1, s5, s11, s12, s13, h =>
  (cond (decide ((s13 : Int) < s12))
    ((ixV 3 s11 s13).bind fun p1 =>
      ((ldV (.agg [.int .i64, .bool, .bool]) h p1).bind fun x2 =>
        ((stV (h ++ [.row (70 + boxK) [.int .i64 0, .bool false, .bool false]]) (.ob h.length 0) [.int .i64 x2.1, .bool x2.2.1, .bool x2.2.2.1]).bind fun h3 =>
          ((ldV (.flat (.int .i64)) h3 (.ob h.length 0)).bind fun x4 =>
            ((appD true h3 1 8 3 s5 (.fz [[.int .i64 x4]] (.ex 1))).bind fun r5 =>
              (K18_0 call n m r5.1 s11 s12 (IntKind.wrap .i64 (s13 + 1)) r5.2))))))
    (some (.sl 3 s5, h)))
noncomputable def C18 (call : Cl) (n : Nat) (a0 : VP) (a1 : ByteArray) (h : VH) : VRes :=
  ((callD call P false (.one (.agg [.slice 3, .bool, .slice 70])) 34 [.ptr a0, .str a1] h).bind fun r1 =>
    (K18_0 call n n .nil r1.1.2.2.1 ((VS.len r1.1.2.2.1 : Nat) : Int) 0 r1.2))
noncomputable def D18 (call : Cl) (n : Nat) (args : List V) (h : VH) : VRes :=
  match args with
  | [.ptr a0, .str a1] => C18 call n a0 a1 h
  | args => bodyV P tab call n 18 args h
noncomputable def C19 (call : Cl) (n : Nat) (a0_0 : Int) (a0_1 : Int) (a0_2 : Int) (h : VH) : VRes :=
  ((ldV (.flat (.int .u8)) (h ++ [.row (39 + boxK) [.int .u8 a0_0, .int .u8 a0_1, .int .u8 a0_2]]) (.ob h.length 1)).bind fun x1 =>
    ((remI x1 4).bind fun x2 =>
      ((strV (h ++ [.row (39 + boxK) [.int .u8 a0_0, .int .u8 a0_1, .int .u8 a0_2]]) 5 (.fz [[.int .u8 (IntKind.wrap .u8 (97 + x2))]] (.ex 1))).bind fun z3 =>
        ((ldV (.flat (.int .u8)) (h ++ [.row (39 + boxK) [.int .u8 a0_0, .int .u8 a0_1, .int .u8 a0_2]]) (.ob h.length 2)).bind fun x4 =>
          ((quoI .u8 x4 4).bind fun x5 =>
            ((remI x5 2).bind fun x6 =>
              (some (.tup [.str z3, .bool ((x6 : Int) == 0)], (h ++ [.row (39 + boxK) [.int .u8 a0_0, .int .u8 a0_1, .int .u8 a0_2]])))))))))
noncomputable def D19 (call : Cl) (n : Nat) (args : List V) (h : VH) : VRes :=
  match args with
  | [.agg [.int .u8 a0_0, .int .u8 a0_1, .int .u8 a0_2]] => C19 call n a0_0 a0_1 a0_2 h
  | args => bodyV P tab call n 19 args h
noncomputable def K20_0 (call : Cl) (n : Nat) : Nat → Int → Nat → ByteArray → Bool → VS → Int → Int → VH → VRes
  | 0, _, _, _, _, _, _, _, _ => none
  | m + 1, s1, s4, s6, s7, s25, s26, s27, h =>
  (cond (decide ((s27 : Int) < s26))
    ((ixV 3 s25 s27).bind fun p1 =>
      ((ldV (.agg [.int .i64, .bool, .bool]) h p1).bind fun x2 =>
        ((stV (h ++ [.row (70 + boxK) [.int .i64 0, .bool false, .bool false]]) (.ob h.length 0) [.int .i64 x2.1, .bool x2.2.1, .bool x2.2.2.1]).bind fun h3 =>
          (cond s7
            ((ldV (.flat (.int .i64)) h3 (.ob h.length 0)).bind fun x4 =>
              (cond ((x4 : Int) == s1)
                ((ldV (.flat .bool) h3 (.ob h.length 1)).bind fun x5 =>
                  ((stV h3 (.ob s4 0) [.str s6, .bool x5]).bind fun h6 =>
                    (((ldV (.agg [.str, .bool]) h6 (.ob s4 0)).bind fun x7 =>
                        some (.tup [.agg [.str x7.1, .bool x7.2.1], .bool true], h6)))))
                (K20_0 call n m s1 s4 s6 s7 s25 s26 (IntKind.wrap .i64 (s27 + 1)) h3)))
            (K20_0 call n m s1 s4 s6 s7 s25 s26 (IntKind.wrap .i64 (s27 + 1)) h3)))))
    ((stV h (.ob s4 0) [.str ⟨#[]⟩, .bool false]).bind fun h8 =>
      (((ldV (.agg [.str, .bool]) h8 (.ob s4 0)).bind fun x9 =>
          some (.tup [.agg [.str x9.1, .bool x9.2.1], .bool false], h8)))))
noncomputable def C20 (call : Cl) (n : Nat) (a0 : VP) (a1 : Int) (h : VH) : VRes :=
  (cond (VP.isNil a0)
    ((stV (h ++ [.row (28 + boxK) [.str ⟨#[]⟩, .bool false]]) (.ob h.length 0) [.str ⟨#[]⟩, .bool false]).bind fun h1 =>
      (((ldV (.agg [.str, .bool]) h1 (.ob h.length 0)).bind fun x2 =>
          some (.tup [.agg [.str x2.1, .bool x2.2.1], .bool false], h1))))
    ((nn a0).bind fun p3 =>
      ((atO p3 1).bind fun p4 =>
        ((ldV (.flat .map) (h ++ [.row (28 + boxK) [.str ⟨#[]⟩, .bool false]]) p4).bind fun x5 =>
          ((V.lookD P 9 (.flat .str) (h ++ [.row (28 + boxK) [.str ⟨#[]⟩, .bool false]]) (.int .i64) x5 (.int .i64 a1)).bind fun x6 =>
            ((callD call P false (.one (.agg [.slice 3, .bool, .slice 70])) 34 [.ptr a0, .str x6.1] (h ++ [.row (28 + boxK) [.str ⟨#[]⟩, .bool false]])).bind fun r7 =>
              (K20_0 call n n a1 h.length x6.1 x6.2 r7.1.2.2.1 ((VS.len r7.1.2.2.1 : Nat) : Int) 0 r7.2)))))))
noncomputable def D20 (call : Cl) (n : Nat) (args : List V) (h : VH) : VRes :=
  match args with
  | [.ptr a0, .int .i64 a1] => C20 call n a0 a1 h
  | args => bodyV P tab call n 20 args h
noncomputable def K21_1 (call : Cl) (n : Nat) : Nat → Int → VS → VS → Int → Int → VH → VRes
  | 0, _, _, _, _, _, _ => none
  | m + 1, s1, s8, s58, s59, s60, h =>
  (cond (decide ((s60 : Int) < s59))
    ((ixV 3 s58 s60).bind fun p1 =>
      ((ldV (.agg [.int .i64, .bool, .bool]) h p1).bind fun x2 =>
        ((stV (h ++ [.row (70 + boxK) [.int .i64 0, .bool false, .bool false]]) (.ob h.length 0) [.int .i64 x2.1, .bool x2.2.1, .bool x2.2.2.1]).bind fun h3 =>
          ((ldV (.flat (.int .i64)) h3 (.ob h.length 0)).bind fun x4 =>
            (cond ((x4 : Int) == s1)
              ((callD call P false (.tup []) 36 [.sl 3 s8] h3).bind fun r5 =>
                ((callD call P false (.one (.flat (.slice 3))) 37 [.sl 3 s8] r5.2).bind fun r6 =>
                  (some (.sl 3 r6.1, r6.2))))
              ((ldV (.flat (.int .i64)) h3 (.ob h.length 0)).bind fun x7 =>
                ((appD false (h3 ++ [.row 3 [.int .i64 x7]]) 1 8 3 s8 (.hp h3.length 0 1)).bind fun r8 =>
                  (K21_1 call n m s1 r8.1 s58 s59 (IntKind.wrap .i64 (s60 + 1)) r8.2))))))))
    ((callD call P false (.tup []) 36 [.sl 3 s8] h).bind fun r9 =>
      ((callD call P false (.one (.flat (.slice 3))) 37 [.sl 3 s8] r9.2).bind fun r10 =>
        (some (.sl 3 r10.1, r10.2)))))
noncomputable def K21_0 (call : Cl) (n : Nat) : Nat → Int → Nat → VP → VS → VS → Int → Int → VH → VRes
  | 0, _, _, _, _, _, _, _, _ => none
  | m + 1, s1, s5, s7, s8, s31, s32, s33, h =>
  (cond (decide ((s33 : Int) < s32))
    ((ixV 1 s31 s33).bind fun p1 =>
      ((ldV (.flat (.int .i64)) h p1).bind fun x2 =>
        (cond ((x2 : Int) != s1)
          ((ldV (.flat .bool) h (.ob s5 1)).bind fun x3 =>
            (cond x3
              ((appD false (h ++ [.row 3 [.int .i64 x2]]) 1 8 3 s8 (.hp h.length 0 1)).bind fun r4 =>
                (K21_0 call n m s1 s5 s7 r4.1 s31 s32 (IntKind.wrap .i64 (s33 + 1)) r4.2))
              ((nn s7).bind fun p5 =>
                ((atO p5 1).bind fun p6 =>
                  ((ldV (.flat .bool) h p6).bind fun x7 =>
                    (cond x7
                      ((appD false (h ++ [.row 3 [.int .i64 x2]]) 1 8 3 s8 (.hp h.length 0 1)).bind fun r8 =>
                        (K21_0 call n m s1 s5 s7 r8.1 s31 s32 (IntKind.wrap .i64 (s33 + 1)) r8.2))
                      (K21_0 call n m s1 s5 s7 s8 s31 s32 (IntKind.wrap .i64 (s33 + 1)) h)))))))
          (K21_0 call n m s1 s5 s7 s8 s31 s32 (IntKind.wrap .i64 (s33 + 1)) h))))
    ((nn s7).bind fun p9 =>
      ((atO p9 2).bind fun p10 =>
        ((ldV (.flat (.slice 70)) h p10).bind fun x11 =>
          (K21_1 call n n s1 s8 x11 ((VS.len x11 : Nat) : Int) 0 h)))))
noncomputable def C21 (call : Cl) (n : Nat) (a0 : VP) (a1 : Int) (h : VH) : VRes :=
  ((callD call P false (.tup [(.agg [.str, .bool]), (.flat .bool)]) 20 [.ptr a0, .int .i64 a1] h).bind fun r1 =>
    ((stV (r1.2 ++ [.row (28 + boxK) [.str ⟨#[]⟩, .bool false]]) (.ob r1.2.length 0) [.str r1.1.1.1, .bool r1.1.1.2.1]).bind fun h2 =>
      (cond (!r1.1.2.1)
        (some (.sl 3 .nil, h2))
        ((nn a0).bind fun p3 =>
          ((atO p3 0).bind fun p4 =>
            ((ldV (.flat .map) h2 p4).bind fun x5 =>
              ((ldV (.flat .str) h2 (.ob r1.2.length 0)).bind fun x6 =>
                ((V.lookD P 63 (.flat .ptr) h2 .str x5 (.str x6)).bind fun x7 =>
                  ((nn x7.1).bind fun p8 =>
                    ((atO p8 0).bind fun p9 =>
                      ((ldV (.flat (.slice 3)) h2 p9).bind fun x10 =>
                        (K21_0 call n n a1 r1.2.length x7.1 .nil x10 ((VS.len x10 : Nat) : Int) 0 h2))))))))))))
noncomputable def D21 (call : Cl) (n : Nat) (args : List V) (h : VH) : VRes :=
  match args with
  | [.ptr a0, .int .i64 a1] => C21 call n a0 a1 h
  | args => bodyV P tab call n 21 args h
noncomputable def C26 (call : Cl) (n : Nat) (a0 : VP) (a1 : ByteArray) (h : VH) : VRes :=
  ((nn a0).bind fun p1 =>
    ((atO p1 0).bind fun p2 =>
      ((ldV (.flat .map) h p2).bind fun x3 =>
        ((V.lookD P 63 (.flat .ptr) h .str x3 (.str a1)).bind fun x4 =>
          (cond (VP.isNil x4.1)
            ((nn a0).bind fun p5 =>
              ((atO p5 0).bind fun p6 =>
                ((ldV (.flat .map) (h ++ [.row (68 + boxK) [.sl 3 .nil, .bool false, .sl 70 .nil]]) p6).bind fun x7 =>
                  ((V.putD (h ++ [.row (68 + boxK) [.sl 3 .nil, .bool false, .sl 70 .nil]]) .str x7 (.str a1) (.ptr (.ob h.length 0))).bind fun h8 =>
                    (some (.ptr (.ob h.length 0), h8))))))
            (some (.ptr x4.1, h)))))))
noncomputable def D26 (call : Cl) (n : Nat) (args : List V) (h : VH) : VRes :=
  match args with
  | [.ptr a0, .str a1] => C26 call n a0 a1 h
  | args => bodyV P tab call n 26 args h
noncomputable def C27 (call : Cl) (n : Nat) (a0 : VS) (a1 : Int) (h : VH) : VRes :=
  ((callD call P false (.one (.flat (.int .i64))) 48 [.sl 3 a0, .int .i64 a1] h).bind fun r1 =>
    (some (.bool (decide ((r1.1 : Int) ≥ 0)), r1.2)))
noncomputable def D27 (call : Cl) (n : Nat) (args : List V) (h : VH) : VRes :=
  match args with
  | [.sl 3 a0, .int .i64 a1] => C27 call n a0 a1 h
  | args => bodyV P tab call n 27 args h
noncomputable def C28 (call : Cl) (n : Nat) (a0 : VP) (a1_0 : Int) (a1_1 : Bool) (a1_2 : Bool) (h : VH) : VRes :=
  ((ldV (.flat .bool) (h ++ [.row (70 + boxK) [.int .i64 a1_0, .bool a1_1, .bool a1_2]]) (.ob h.length 2)).bind fun x1 =>
    (cond x1
      ((nn a0).bind fun p2 =>
        ((atO p2 0).bind fun p3 =>
          ((ldV (.flat (.slice 3)) (h ++ [.row (70 + boxK) [.int .i64 a1_0, .bool a1_1, .bool a1_2]]) p3).bind fun x4 =>
            (some (.bool ((((VS.len x4 : Nat) : Int) : Int) == 1), (h ++ [.row (70 + boxK) [.int .i64 a1_0, .bool a1_1, .bool a1_2]]))))))
      ((ldV (.flat .bool) (h ++ [.row (70 + boxK) [.int .i64 a1_0, .bool a1_1, .bool a1_2]]) (.ob h.length 1)).bind fun x5 =>
        (cond x5
          ((nn a0).bind fun p6 =>
            ((atO p6 0).bind fun p7 =>
              ((ldV (.flat (.slice 3)) (h ++ [.row (70 + boxK) [.int .i64 a1_0, .bool a1_1, .bool a1_2]]) p7).bind fun x8 =>
                (some (.bool ((((VS.len x8 : Nat) : Int) : Int) == 0), (h ++ [.row (70 + boxK) [.int .i64 a1_0, .bool a1_1, .bool a1_2]]))))))
          ((nn a0).bind fun p9 =>
            ((atO p9 1).bind fun p10 =>
              ((ldV (.flat .bool) (h ++ [.row (70 + boxK) [.int .i64 a1_0, .bool a1_1, .bool a1_2]]) p10).bind fun x11 =>
                (some (.bool (!x11), (h ++ [.row (70 + boxK) [.int .i64 a1_0, .bool a1_1, .bool a1_2]]))))))))))
noncomputable def D28 (call : Cl) (n : Nat) (args : List V) (h : VH) : VRes :=
  match args with
  | [.ptr a0, .agg [.int .i64 a1_0, .bool a1_1, .bool a1_2]] => C28 call n a0 a1_0 a1_1 a1_2 h
  | args => bodyV P tab call n 28 args h
noncomputable def C29 (call : Cl) (n : Nat) (a0 : VP) (a1_0 : Int) (a1_1 : Bool) (a1_2 : Bool) (h : VH) : VRes :=
  ((ldV (.flat .bool) (h ++ [.row (70 + boxK) [.int .i64 a1_0, .bool a1_1, .bool a1_2]]) (.ob h.length 2)).bind fun x1 =>
    (cond (!x1)
      ((nn a0).bind fun p2 =>
        ((atO p2 0).bind fun p3 =>
          ((ldV (.flat (.slice 3)) (h ++ [.row (70 + boxK) [.int .i64 a1_0, .bool a1_1, .bool a1_2]]) p3).bind fun x4 =>
            ((ldV (.flat (.int .i64)) (h ++ [.row (70 + boxK) [.int .i64 a1_0, .bool a1_1, .bool a1_2]]) (.ob h.length 0)).bind fun x5 =>
              (cond (V.stays (h ++ [.row (70 + boxK) [.int .i64 a1_0, .bool a1_1, .bool a1_2]]) (hj (heldOf p3 [.slice 3] [.sl 3 x4]) []))
                (cond (V.stays (List.append (α := VO) (h ++ [.row (70 + boxK) [.int .i64 a1_0, .bool a1_1, .bool a1_2]]) [.row 3 [.int .i64 x5]]) (hj (heldOf p3 [.slice 3] [.sl 3 x4]) []))
                  ((appD false (List.append (α := VO) (h ++ [.row (70 + boxK) [.int .i64 a1_0, .bool a1_1, .bool a1_2]]) [.row 3 [.int .i64 x5]]) 1 8 3 x4 (.hp (List.length ((h ++ [.row (70 + boxK) [.int .i64 a1_0, .bool a1_1, .bool a1_2]]) : VH)) 0 1)).bind fun r6 =>
                    ((nn a0).bind fun p7 =>
                      ((atO p7 0).bind fun p8 =>
                        ((stV r6.2 p8 [.sl 3 r6.1]).bind fun h9 =>
                        ((nn a0).bind fun p10 =>
                        ((atO p10 0).bind fun p11 =>
                        ((ldV (.flat (.slice 3)) h9 p11).bind fun x12 =>
                        ((callD call P false (.tup []) 36 [.sl 3 x12] h9).bind fun r13 =>
                        ((ldV (.flat .bool) r13.2 (.ob h.length 1)).bind fun x14 =>
                        ((nn a0).bind fun p15 =>
                        ((atO p15 1).bind fun p16 =>
                        ((stV r13.2 p16 [.bool x14]).bind fun h17 =>
                        (some (.tup [], h17))))))))))))))
                  none)
                none)))))
      ((ldV (.flat .bool) (h ++ [.row (70 + boxK) [.int .i64 a1_0, .bool a1_1, .bool a1_2]]) (.ob h.length 1)).bind fun x18 =>
        ((nn a0).bind fun p19 =>
          ((atO p19 1).bind fun p20 =>
            ((stV (h ++ [.row (70 + boxK) [.int .i64 a1_0, .bool a1_1, .bool a1_2]]) p20 [.bool x18]).bind fun h21 =>
              (some (.tup [], h21))))))))
noncomputable def D29 (call : Cl) (n : Nat) (args : List V) (h : VH) : VRes :=
  match args with
  | [.ptr a0, .agg [.int .i64 a1_0, .bool a1_1, .bool a1_2]] => C29 call n a0 a1_0 a1_1 a1_2 h
  | args => bodyV P tab call n 29 args h
noncomputable def K30_0 (call : Cl) (n : Nat) : Nat → VP → ByteArray → Nat → VP → Int → VH → VRes
  | 0, _, _, _, _, _, _ => none
  | m + 1, s0, s1, s5, s6, s7, h =>
  ((nn s6).bind fun p1 =>
    ((atO p1 2).bind fun p2 =>
      ((ldV (.flat (.slice 70)) h p2).bind fun x3 =>
        (cond (decide ((s7 : Int) < ((VS.len x3 : Nat) : Int)))
          ((ldV (.flat .bool) h (.ob s5 2)).bind fun x4 =>
            (cond (!x4)
              (K30_0 call n m s0 s1 s5 s6 (IntKind.wrap .i64 (s7 + 1)) h)
              ((nn s6).bind fun p5 =>
                ((atO p5 2).bind fun p6 =>
                  ((ldV (.flat (.slice 70)) h p6).bind fun x7 =>
                    ((ixV 3 x7 s7).bind fun p8 =>
                      ((atO p8 2).bind fun p9 =>
                        ((ldV (.flat .bool) h p9).bind fun x10 =>
                        (cond x10
                        (K30_0 call n m s0 s1 s5 s6 (IntKind.wrap .i64 (s7 + 1)) h)
                        ((nn s6).bind fun p11 =>
                        ((atO p11 2).bind fun p12 =>
                        ((ldV (.flat (.slice 70)) h p12).bind fun x13 =>
                        ((ldV (.agg [.int .i64, .bool, .bool]) h (.ob s5 0)).bind fun x14 =>
                        (cond (V.stays h (hj (heldOf p12 [.slice 70] [.sl 70 x13]) []))
                        (cond (V.stays h (hj (heldOf p12 [.slice 70] [.sl 70 x13]) []))
                        ((callD call P false (.one (.flat (.slice 70))) 49 [.sl 70 x13, .int .i64 s7, .sl 70 (.fz [[.int .i64 x14.1, .bool x14.2.1, .bool x14.2.2.1]] (.ex 1))] h).bind fun r15 =>
                        ((nn s6).bind fun p16 =>
                        ((atO p16 2).bind fun p17 =>
                        ((stV r15.2 p17 [.sl 70 r15.1]).bind fun h18 =>
                        ((nn s0).bind fun p19 =>
                        ((atO p19 1).bind fun p20 =>
                        ((ldV (.flat .map) h18 p20).bind fun x21 =>
                        ((ldV (.flat (.int .i64)) h18 (.ob s5 0)).bind fun x22 =>
                        ((V.putD h18 (.int .i64) x21 (.int .i64 x22) (.str s1)).bind fun h23 =>
                        (some (.tup [], h23)))))))))))
                        none)
                        none))))))))))))))
          ((nn s6).bind fun p24 =>
            ((atO p24 2).bind fun p25 =>
              ((ldV (.flat (.slice 70)) h p25).bind fun x26 =>
                ((ldV (.agg [.int .i64, .bool, .bool]) h (.ob s5 0)).bind fun x27 =>
                  (cond (V.stays h (hj (heldOf p25 [.slice 70] [.sl 70 x26]) []))
                    (cond (V.stays h (hj (heldOf p25 [.slice 70] [.sl 70 x26]) []))
                      ((callD call P false (.one (.flat (.slice 70))) 49 [.sl 70 x26, .int .i64 s7, .sl 70 (.fz [[.int .i64 x27.1, .bool x27.2.1, .bool x27.2.2.1]] (.ex 1))] h).bind fun r28 =>
                        ((nn s6).bind fun p29 =>
                        ((atO p29 2).bind fun p30 =>
                        ((stV r28.2 p30 [.sl 70 r28.1]).bind fun h31 =>
                        ((nn s0).bind fun p32 =>
                        ((atO p32 1).bind fun p33 =>
                        ((ldV (.flat .map) h31 p33).bind fun x34 =>
                        ((ldV (.flat (.int .i64)) h31 (.ob s5 0)).bind fun x35 =>
                        ((V.putD h31 (.int .i64) x34 (.int .i64 x35) (.str s1)).bind fun h36 =>
                        (some (.tup [], h36)))))))))))
                      none)
                    none)))))))))
noncomputable def C30 (call : Cl) (n : Nat) (a0 : VP) (a1 : ByteArray) (a2_0 : Int) (a2_1 : Bool) (a2_2 : Bool) (h : VH) : VRes :=
  ((callD call P false (.one (.flat .ptr)) 26 [.ptr a0, .str a1] (h ++ [.row (70 + boxK) [.int .i64 a2_0, .bool a2_1, .bool a2_2]])).bind fun r1 =>
    (K30_0 call n n a0 a1 h.length r1.1 0 r1.2))
noncomputable def D30 (call : Cl) (n : Nat) (args : List V) (h : VH) : VRes :=
  match args with
  | [.ptr a0, .str a1, .agg [.int .i64 a2_0, .bool a2_1, .bool a2_2]] => C30 call n a0 a1 a2_0 a2_1 a2_2 h
  | args => bodyV P tab call n 30 args h
noncomputable def C31 (call : Cl) (n : Nat) (a0 : VP) (h : VH) : VRes :=
  (cond (VP.isNil a0)
    (some (.sl 9 .nil, h))
    ((nn a0).bind fun p1 =>
      ((atO p1 0).bind fun p2 =>
        ((ldV (.flat .map) h p2).bind fun x3 =>
          ((callD call P false (.one (.flat .any)) 51 [.map x3] h).bind fun r4 =>
            ((callD call P false (.one (.flat (.slice 9))) 50 [r4.1] r4.2).bind fun r5 =>
              (some (.sl 9 r5.1, r5.2))))))))
noncomputable def D31 (call : Cl) (n : Nat) (args : List V) (h : VH) : VRes :=
  match args with
  | [.ptr a0] => C31 call n a0 h
  | args => bodyV P tab call n 31 args h
noncomputable def C32 (call : Cl) (n : Nat) (a0 : VP) (a1 : Int) (h : VH) : VRes :=
  ((nn a0).bind fun p1 =>
    ((atO p1 0).bind fun p2 =>
      ((ldV (.flat (.slice 3)) (h ++ [.row (3 + boxK) [.int .i64 a1]]) p2).bind fun x3 =>
        ((nn a0).bind fun p4 =>
          ((atO p4 2).bind fun p5 =>
            ((ldV (.flat (.slice 70)) (h ++ [.row (3 + boxK) [.int .i64 a1]]) p5).bind fun x6 =>
              ((nn a0).bind fun p7 =>
                ((atO p7 0).bind fun p8 =>
                  ((ldV (.flat (.slice 3)) (h ++ [.row (3 + boxK) [.int .i64 a1]]) p8).bind fun x9 =>
                    ((ldV (.flat (.int .i64)) (h ++ [.row (3 + boxK) [.int .i64 a1]]) (.ob h.length 0)).bind fun x10 =>
                      ((callD call P false (.one (.flat .bool)) 27 [.sl 3 x9, .int .i64 x10] (h ++ [.row (3 + boxK) [.int .i64 a1]])).bind fun r11 =>
                        (cond r11.1
                        ((nn a0).bind fun p12 =>
                        ((atO p12 1).bind fun p13 =>
                        ((stV r11.2 p13 [.bool false]).bind fun h14 =>
                        ((nn a0).bind fun p15 =>
                        ((atO p15 0).bind fun p16 =>
                        ((ldV (.flat (.slice 3)) h14 p16).bind fun x17 =>
                        ((callD call P false (.one (.flat (.slice 3))) 52 [.sl 3 x17, .func (.func 53) [] [.ptr (.ob h.length 0)]] h14).bind fun r18 =>
                        ((nn a0).bind fun p19 =>
                        ((atO p19 0).bind fun p20 =>
                        ((stV r18.2 p20 [.sl 3 r18.1]).bind fun h21 =>
                        ((nn a0).bind fun p22 =>
                        ((atO p22 2).bind fun p23 =>
                        ((ldV (.flat (.slice 70)) h21 p23).bind fun x24 =>
                        ((callD call P false (.one (.flat (.slice 70))) 54 [.sl 70 x24, .func (.func 55) [] [.ptr (.ob h.length 0)]] h21).bind fun r25 =>
                        ((nn a0).bind fun p26 =>
                        ((atO p26 2).bind fun p27 =>
                        ((stV r25.2 p27 [.sl 70 r25.1]).bind fun h28 =>
                        ((nn a0).bind fun p29 =>
                        ((atO p29 0).bind fun p30 =>
                        ((ldV (.flat (.slice 3)) h28 p30).bind fun x31 =>
                        ((nn a0).bind fun p32 =>
                        ((atO p32 2).bind fun p33 =>
                        ((ldV (.flat (.slice 70)) h28 p33).bind fun x34 =>
                        (some (.bool (decide (((IntKind.wrap .i64 (((VS.len x31 : Nat) : Int) + ((VS.len x34 : Nat) : Int))) : Int) < (IntKind.wrap .i64 (((VS.len x3 : Nat) : Int) + ((VS.len x6 : Nat) : Int))))), h28)))))))))))))))))))))))))
                        ((nn a0).bind fun p35 =>
                        ((atO p35 0).bind fun p36 =>
                        ((ldV (.flat (.slice 3)) r11.2 p36).bind fun x37 =>
                        ((callD call P false (.one (.flat (.slice 3))) 52 [.sl 3 x37, .func (.func 53) [] [.ptr (.ob h.length 0)]] r11.2).bind fun r38 =>
                        ((nn a0).bind fun p39 =>
                        ((atO p39 0).bind fun p40 =>
                        ((stV r38.2 p40 [.sl 3 r38.1]).bind fun h41 =>
                        ((nn a0).bind fun p42 =>
                        ((atO p42 2).bind fun p43 =>
                        ((ldV (.flat (.slice 70)) h41 p43).bind fun x44 =>
                        ((callD call P false (.one (.flat (.slice 70))) 54 [.sl 70 x44, .func (.func 55) [] [.ptr (.ob h.length 0)]] h41).bind fun r45 =>
                        ((nn a0).bind fun p46 =>
                        ((atO p46 2).bind fun p47 =>
                        ((stV r45.2 p47 [.sl 70 r45.1]).bind fun h48 =>
                        ((nn a0).bind fun p49 =>
                        ((atO p49 0).bind fun p50 =>
                        ((ldV (.flat (.slice 3)) h48 p50).bind fun x51 =>
                        ((nn a0).bind fun p52 =>
                        ((atO p52 2).bind fun p53 =>
                        ((ldV (.flat (.slice 70)) h48 p53).bind fun x54 =>
                        (some (.bool (decide (((IntKind.wrap .i64 (((VS.len x51 : Nat) : Int) + ((VS.len x54 : Nat) : Int))) : Int) < (IntKind.wrap .i64 (((VS.len x3 : Nat) : Int) + ((VS.len x6 : Nat) : Int))))), h48))))))))))))))))))))))))))))))))))
noncomputable def D32 (call : Cl) (n : Nat) (args : List V) (h : VH) : VRes :=
  match args with
  | [.ptr a0, .int .i64 a1] => C32 call n a0 a1 h
  | args => bodyV P tab call n 32 args h
noncomputable def K33_0 (call : Cl) (n : Nat) : Nat → VP → VP → VS → VH → VRes
  | 0, _, _, _, _ => none
  | m + 1, s0, s1, s5, h =>
  ((nn s1).bind fun p1 =>
    ((atO p1 2).bind fun p2 =>
      ((ldV (.flat (.slice 70)) h p2).bind fun x3 =>
        (cond (decide ((((VS.len x3 : Nat) : Int) : Int) > 0))
          ((nn s1).bind fun p4 =>
            ((atO p4 2).bind fun p5 =>
              ((ldV (.flat (.slice 70)) h p5).bind fun x6 =>
                ((ixV 3 x6 0).bind fun p7 =>
                  ((ldV (.agg [.int .i64, .bool, .bool]) h p7).bind fun x8 =>
                    ((callD call P false (.one (.flat .bool)) 28 [.ptr s1, .agg [.int .i64 x8.1, .bool x8.2.1, .bool x8.2.2.1]] h).bind fun r9 =>
                      (cond r9.1
                        ((nn s1).bind fun p10 =>
                        ((atO p10 2).bind fun p11 =>
                        ((ldV (.flat (.slice 70)) r9.2 p11).bind fun x12 =>
                        ((ixV 3 x12 0).bind fun p13 =>
                        ((ldV (.agg [.int .i64, .bool, .bool]) r9.2 p13).bind fun x14 =>
                        ((stV (r9.2 ++ [.row (70 + boxK) [.int .i64 0, .bool false, .bool false]]) (.ob r9.2.length 0) [.int .i64 x14.1, .bool x14.2.1, .bool x14.2.2.1]).bind fun h15 =>
                        ((nn s1).bind fun p16 =>
                        ((atO p16 2).bind fun p17 =>
                        ((ldV (.flat (.slice 70)) h15 p17).bind fun x18 =>
                        ((cutD h15 70 3 x18 (some 1) none none).bind fun z19 =>
                        ((nn s1).bind fun p20 =>
                        ((atO p20 2).bind fun p21 =>
                        ((stV h15 p21 [.sl 70 z19]).bind fun h22 =>
                        ((ldV (.agg [.int .i64, .bool, .bool]) h22 (.ob r9.2.length 0)).bind fun x23 =>
                        ((callD call P false (.tup []) 29 [.ptr s1, .agg [.int .i64 x23.1, .bool x23.2.1, .bool x23.2.2.1]] h22).bind fun r24 =>
                        ((nn s0).bind fun p25 =>
                        ((atO p25 1).bind fun p26 =>
                        ((ldV (.flat .map) r24.2 p26).bind fun x27 =>
                        ((ldV (.flat (.int .i64)) r24.2 (.ob r9.2.length 0)).bind fun x28 =>
                        ((V.cutMD r24.2 (.int .i64) x27 (.int .i64 x28)).bind fun h29 =>
                        ((ldV (.flat (.int .i64)) h29 (.ob r9.2.length 0)).bind fun x30 =>
                        ((appD true h29 1 8 3 s5 (.fz [[.int .i64 x30]] (.ex 1))).bind fun r31 =>
                        (K33_0 call n m s0 s1 r31.1 r31.2)))))))))))))))))))))))
                        (some (.sl 3 s5, r9.2)))))))))
          (some (.sl 3 s5, h))))))
noncomputable def C33 (call : Cl) (n : Nat) (a0 : VP) (a1 : VP) (h : VH) : VRes :=
  (K33_0 call n n a0 a1 .nil h)
noncomputable def D33 (call : Cl) (n : Nat) (args : List V) (h : VH) : VRes :=
  match args with
  | [.ptr a0, .ptr a1] => C33 call n a0 a1 h
  | args => bodyV P tab call n 33 args h
noncomputable def C34 (call : Cl) (n : Nat) (a0 : VP) (a1 : ByteArray) (h : VH) : VRes :=
  (cond (VP.isNil a0)
    ((stV (h ++ [.row (68 + boxK) [.sl 3 .nil, .bool false, .sl 70 .nil]]) (.ob h.length 0) [.sl 3 .nil, .bool false, .sl 70 .nil]).bind fun h1 =>
      (((ldV (.agg [.slice 3, .bool, .slice 70]) h1 (.ob h.length 0)).bind fun x2 =>
          some (.agg [.sl 3 x2.1, .bool x2.2.1, .sl 70 x2.2.2.1], h1))))
    ((nn a0).bind fun p3 =>
      ((atO p3 0).bind fun p4 =>
        ((ldV (.flat .map) (h ++ [.row (68 + boxK) [.sl 3 .nil, .bool false, .sl 70 .nil]]) p4).bind fun x5 =>
          ((V.lookD P 63 (.flat .ptr) (h ++ [.row (68 + boxK) [.sl 3 .nil, .bool false, .sl 70 .nil]]) .str x5 (.str a1)).bind fun x6 =>
            (cond (VP.isNil x6.1)
              ((stV (h ++ [.row (68 + boxK) [.sl 3 .nil, .bool false, .sl 70 .nil]]) (.ob h.length 0) [.sl 3 .nil, .bool false, .sl 70 .nil]).bind fun h7 =>
                (((ldV (.agg [.slice 3, .bool, .slice 70]) h7 (.ob h.length 0)).bind fun x8 =>
                    some (.agg [.sl 3 x8.1, .bool x8.2.1, .sl 70 x8.2.2.1], h7))))
              ((nn a0).bind fun p9 =>
                ((atO p9 0).bind fun p10 =>
                  ((ldV (.flat .map) (h ++ [.row (68 + boxK) [.sl 3 .nil, .bool false, .sl 70 .nil]]) p10).bind fun x11 =>
                    ((V.lookD P 63 (.flat .ptr) (h ++ [.row (68 + boxK) [.sl 3 .nil, .bool false, .sl 70 .nil]]) .str x11 (.str a1)).bind fun x12 =>
                      ((nn x12.1).bind fun p13 =>
                        ((ldV (.agg [.slice 3, .bool, .slice 70]) (h ++ [.row (68 + boxK) [.sl 3 .nil, .bool false, .sl 70 .nil]]) p13).bind fun x14 =>
                        ((stV (h ++ [.row (68 + boxK) [.sl 3 .nil, .bool false, .sl 70 .nil]]) (.ob h.length 0) [.sl 3 x14.1, .bool x14.2.1, .sl 70 x14.2.2.1]).bind fun h15 =>
                        (((ldV (.agg [.slice 3, .bool, .slice 70]) h15 (.ob h.length 0)).bind fun x16 =>
                        some (.agg [.sl 3 x16.1, .bool x16.2.1, .sl 70 x16.2.2.1], h15))))))))))))))))
noncomputable def D34 (call : Cl) (n : Nat) (args : List V) (h : VH) : VRes :=
  match args with
  | [.ptr a0, .str a1] => C34 call n a0 a1 h
  | args => bodyV P tab call n 34 args h
noncomputable def C35 (call : Cl) (n : Nat) (a0 : VS) (h : VH) : VRes :=
  (cond (VS.isNil a0)
    (some (.sl 3 .nil, h))
    ((appD true h 1 8 3 (.fz [] (.ex 0)) a0).bind fun r1 =>
      (some (.sl 3 r1.1, r1.2))))
noncomputable def D35 (call : Cl) (n : Nat) (args : List V) (h : VH) : VRes :=
  match args with
  | [.sl 3 a0] => C35 call n a0 h
  | args => bodyV P tab call n 35 args h
noncomputable def C36 (call : Cl) (n : Nat) (a0 : VS) (h : VH) : VRes :=
  ((callD call P false (.one (.flat (.int .i64))) 57 [.int .u64 (IntKind.wrap .u64 ((VS.len a0 : Nat) : Int))] h).bind fun r1 =>
    ((callD call P false (.tup []) 56 [.sl 3 a0, .int .i64 0, .int .i64 ((VS.len a0 : Nat) : Int), .int .i64 r1.1] r1.2).bind fun r2 =>
      (some (.tup [], r2.2))))
noncomputable def D36 (call : Cl) (n : Nat) (args : List V) (h : VH) : VRes :=
  match args with
  | [.sl 3 a0] => C36 call n a0 h
  | args => bodyV P tab call n 36 args h
noncomputable def K48_0 (call : Cl) (n : Nat) : Nat → VS → Int → Int → Int → VH → VRes
  | 0, _, _, _, _, _ => none
  | m + 1, s0, s1, s7, s8, h =>
  (cond (decide ((s8 : Int) < s7))
    ((ixV 1 s0 s8).bind fun p1 =>
      ((ldV (.flat (.int .i64)) h p1).bind fun x2 =>
        (cond ((s1 : Int) == x2)
          (some (.int .i64 s8, h))
          (K48_0 call n m s0 s1 s7 (IntKind.wrap .i64 (s8 + 1)) h))))
    (some (.int .i64 (-1), h)))
noncomputable def C48 (call : Cl) (n : Nat) (a0 : VS) (a1 : Int) (h : VH) : VRes :=
  (K48_0 call n n a0 a1 ((VS.len a0 : Nat) : Int) 0 h)
noncomputable def D48 (call : Cl) (n : Nat) (args : List V) (h : VH) : VRes :=
  match args with
  | [.sl 3 a0, .int .i64 a1] => C48 call n a0 a1 h
  | args => bodyV P tab call n 48 args h
noncomputable def C51 (call : Cl) (n : Nat) (a0 : Option Nat) (h : VH) : VRes :=
  (some (.func (.func 63) [] [.ptr (.ob h.length 0)], (h ++ [.row (59 + boxK) [.map a0]])))
noncomputable def D51 (call : Cl) (n : Nat) (args : List V) (h : VH) : VRes :=
  match args with
  | [.map a0] => C51 call n a0 h
  | args => bodyV P tab call n 51 args h
noncomputable def K56_0 (call : Cl) (n : Nat) : Nat → VS → Int → Int → Int → Bool → Bool → VH → VRes
  | 0, _, _, _, _, _, _, _ => none
  | m + 1, s0, s1, s2, s3, s8, s9, h =>
  (cond (decide (((IntKind.wrap .i64 (s2 - s1)) : Int) ≤ 12))
    ((callD call P false (.tup []) 66 [.sl 3 s0, .int .i64 s1, .int .i64 s2] h).bind fun r1 =>
      (some (.tup [], r1.2)))
    (cond ((s3 : Int) == 0)
      ((callD call P false (.tup []) 67 [.sl 3 s0, .int .i64 s1, .int .i64 s2] h).bind fun r2 =>
        (some (.tup [], r2.2)))
      (cond (!s8)
        ((callD call P false (.tup []) 68 [.sl 3 s0, .int .i64 s1, .int .i64 s2] h).bind fun r3 =>
          ((callD call P false (.tup [(.flat (.int .i64)), (.flat (.int .i64))]) 69 [.sl 3 s0, .int .i64 s1, .int .i64 s2] r3.2).bind fun r4 =>
            (cond ((r4.1.2.1 : Int) == 2)
              ((callD call P false (.tup []) 70 [.sl 3 s0, .int .i64 s1, .int .i64 s2] r4.2).bind fun r5 =>
                (cond s8
                  (cond s9
                    ((callD call P false (.one (.flat .bool)) 71 [.sl 3 s0, .int .i64 s1, .int .i64 s2] r5.2).bind fun r6 =>
                      (cond r6.1
                        (some (.tup [], r6.2))
                        (cond (decide ((s1 : Int) > 0))
                        ((ixV 1 s0 (IntKind.wrap .i64 (s1 - 1))).bind fun p7 =>
                        ((ldV (.flat (.int .i64)) r6.2 p7).bind fun x8 =>
                        ((ixV 1 s0 (IntKind.wrap .i64 ((IntKind.wrap .i64 (s2 - 1)) - (IntKind.wrap .i64 (r4.1.1 - s1))))).bind fun p9 =>
                        ((ldV (.flat (.int .i64)) r6.2 p9).bind fun x10 =>
                        ((callD call P false (.one (.flat .bool)) 72 [.int .i64 x8, .int .i64 x10] r6.2).bind fun r11 =>
                        (cond (!r11.1)
                        ((callD call P false (.one (.flat (.int .i64))) 73 [.sl 3 s0, .int .i64 s1, .int .i64 s2, .int .i64 (IntKind.wrap .i64 ((IntKind.wrap .i64 (s2 - 1)) - (IntKind.wrap .i64 (r4.1.1 - s1))))] r11.2).bind fun r12 =>
                        (K56_0 call n m s0 r12.1 s2 (IntKind.wrap .i64 (s3 - 1)) s8 s9 r12.2))
                        ((callD call P false (.tup [(.flat (.int .i64)), (.flat .bool)]) 74 [.sl 3 s0, .int .i64 s1, .int .i64 s2, .int .i64 (IntKind.wrap .i64 ((IntKind.wrap .i64 (s2 - 1)) - (IntKind.wrap .i64 (r4.1.1 - s1))))] r11.2).bind fun r13 =>
                        ((quoI .i64 (IntKind.wrap .i64 (s2 - s1)) 8).bind fun x14 =>
                        (cond (decide (((IntKind.wrap .i64 (r13.1.1 - s1)) : Int) < (IntKind.wrap .i64 (s2 - r13.1.1))))
                        ((callD call P false (.tup []) 56 [.sl 3 s0, .int .i64 s1, .int .i64 r13.1.1, .int .i64 (IntKind.wrap .i64 (s3 - 1))] r13.2).bind fun r15 =>
                        (K56_0 call n m s0 (IntKind.wrap .i64 (r13.1.1 + 1)) s2 (IntKind.wrap .i64 (s3 - 1)) (decide (((IntKind.wrap .i64 (r13.1.1 - s1)) : Int) ≥ x14)) r13.1.2.1 r15.2))
                        ((callD call P false (.tup []) 56 [.sl 3 s0, .int .i64 (IntKind.wrap .i64 (r13.1.1 + 1)), .int .i64 s2, .int .i64 (IntKind.wrap .i64 (s3 - 1))] r13.2).bind fun r16 =>
                        (K56_0 call n m s0 s1 r13.1.1 (IntKind.wrap .i64 (s3 - 1)) (decide (((IntKind.wrap .i64 (s2 - r13.1.1)) : Int) ≥ x14)) r13.1.2.1 r16.2)))))))))))
                        ((callD call P false (.tup [(.flat (.int .i64)), (.flat .bool)]) 74 [.sl 3 s0, .int .i64 s1, .int .i64 s2, .int .i64 (IntKind.wrap .i64 ((IntKind.wrap .i64 (s2 - 1)) - (IntKind.wrap .i64 (r4.1.1 - s1))))] r6.2).bind fun r17 =>
                        ((quoI .i64 (IntKind.wrap .i64 (s2 - s1)) 8).bind fun x18 =>
                        (cond (decide (((IntKind.wrap .i64 (r17.1.1 - s1)) : Int) < (IntKind.wrap .i64 (s2 - r17.1.1))))
                        ((callD call P false (.tup []) 56 [.sl 3 s0, .int .i64 s1, .int .i64 r17.1.1, .int .i64 (IntKind.wrap .i64 (s3 - 1))] r17.2).bind fun r19 =>
                        (K56_0 call n m s0 (IntKind.wrap .i64 (r17.1.1 + 1)) s2 (IntKind.wrap .i64 (s3 - 1)) (decide (((IntKind.wrap .i64 (r17.1.1 - s1)) : Int) ≥ x18)) r17.1.2.1 r19.2))
                        ((callD call P false (.tup []) 56 [.sl 3 s0, .int .i64 (IntKind.wrap .i64 (r17.1.1 + 1)), .int .i64 s2, .int .i64 (IntKind.wrap .i64 (s3 - 1))] r17.2).bind fun r20 =>
                        (K56_0 call n m s0 s1 r17.1.1 (IntKind.wrap .i64 (s3 - 1)) (decide (((IntKind.wrap .i64 (s2 - r17.1.1)) : Int) ≥ x18)) r17.1.2.1 r20.2))))))))
                    (cond (decide ((s1 : Int) > 0))
                      ((ixV 1 s0 (IntKind.wrap .i64 (s1 - 1))).bind fun p21 =>
                        ((ldV (.flat (.int .i64)) r5.2 p21).bind fun x22 =>
                        ((ixV 1 s0 (IntKind.wrap .i64 ((IntKind.wrap .i64 (s2 - 1)) - (IntKind.wrap .i64 (r4.1.1 - s1))))).bind fun p23 =>
                        ((ldV (.flat (.int .i64)) r5.2 p23).bind fun x24 =>
                        ((callD call P false (.one (.flat .bool)) 72 [.int .i64 x22, .int .i64 x24] r5.2).bind fun r25 =>
                        (cond (!r25.1)
                        ((callD call P false (.one (.flat (.int .i64))) 73 [.sl 3 s0, .int .i64 s1, .int .i64 s2, .int .i64 (IntKind.wrap .i64 ((IntKind.wrap .i64 (s2 - 1)) - (IntKind.wrap .i64 (r4.1.1 - s1))))] r25.2).bind fun r26 =>
                        (K56_0 call n m s0 r26.1 s2 (IntKind.wrap .i64 (s3 - 1)) s8 s9 r26.2))
                        ((callD call P false (.tup [(.flat (.int .i64)), (.flat .bool)]) 74 [.sl 3 s0, .int .i64 s1, .int .i64 s2, .int .i64 (IntKind.wrap .i64 ((IntKind.wrap .i64 (s2 - 1)) - (IntKind.wrap .i64 (r4.1.1 - s1))))] r25.2).bind fun r27 =>
                        ((quoI .i64 (IntKind.wrap .i64 (s2 - s1)) 8).bind fun x28 =>
                        (cond (decide (((IntKind.wrap .i64 (r27.1.1 - s1)) : Int) < (IntKind.wrap .i64 (s2 - r27.1.1))))
                        ((callD call P false (.tup []) 56 [.sl 3 s0, .int .i64 s1, .int .i64 r27.1.1, .int .i64 (IntKind.wrap .i64 (s3 - 1))] r27.2).bind fun r29 =>
                        (K56_0 call n m s0 (IntKind.wrap .i64 (r27.1.1 + 1)) s2 (IntKind.wrap .i64 (s3 - 1)) (decide (((IntKind.wrap .i64 (r27.1.1 - s1)) : Int) ≥ x28)) r27.1.2.1 r29.2))
                        ((callD call P false (.tup []) 56 [.sl 3 s0, .int .i64 (IntKind.wrap .i64 (r27.1.1 + 1)), .int .i64 s2, .int .i64 (IntKind.wrap .i64 (s3 - 1))] r27.2).bind fun r30 =>
                        (K56_0 call n m s0 s1 r27.1.1 (IntKind.wrap .i64 (s3 - 1)) (decide (((IntKind.wrap .i64 (s2 - r27.1.1)) : Int) ≥ x28)) r27.1.2.1 r30.2)))))))))))
                      ((callD call P false (.tup [(.flat (.int .i64)), (.flat .bool)]) 74 [.sl 3 s0, .int .i64 s1, .int .i64 s2, .int .i64 (IntKind.wrap .i64 ((IntKind.wrap .i64 (s2 - 1)) - (IntKind.wrap .i64 (r4.1.1 - s1))))] r5.2).bind fun r31 =>
                        ((quoI .i64 (IntKind.wrap .i64 (s2 - s1)) 8).bind fun x32 =>
                        (cond (decide (((IntKind.wrap .i64 (r31.1.1 - s1)) : Int) < (IntKind.wrap .i64 (s2 - r31.1.1))))
                        ((callD call P false (.tup []) 56 [.sl 3 s0, .int .i64 s1, .int .i64 r31.1.1, .int .i64 (IntKind.wrap .i64 (s3 - 1))] r31.2).bind fun r33 =>
                        (K56_0 call n m s0 (IntKind.wrap .i64 (r31.1.1 + 1)) s2 (IntKind.wrap .i64 (s3 - 1)) (decide (((IntKind.wrap .i64 (r31.1.1 - s1)) : Int) ≥ x32)) r31.1.2.1 r33.2))
                        ((callD call P false (.tup []) 56 [.sl 3 s0, .int .i64 (IntKind.wrap .i64 (r31.1.1 + 1)), .int .i64 s2, .int .i64 (IntKind.wrap .i64 (s3 - 1))] r31.2).bind fun r34 =>
                        (K56_0 call n m s0 s1 r31.1.1 (IntKind.wrap .i64 (s3 - 1)) (decide (((IntKind.wrap .i64 (s2 - r31.1.1)) : Int) ≥ x32)) r31.1.2.1 r34.2)))))))
                  (cond (decide ((s1 : Int) > 0))
                    ((ixV 1 s0 (IntKind.wrap .i64 (s1 - 1))).bind fun p35 =>
                      ((ldV (.flat (.int .i64)) r5.2 p35).bind fun x36 =>
                        ((ixV 1 s0 (IntKind.wrap .i64 ((IntKind.wrap .i64 (s2 - 1)) - (IntKind.wrap .i64 (r4.1.1 - s1))))).bind fun p37 =>
                        ((ldV (.flat (.int .i64)) r5.2 p37).bind fun x38 =>
                        ((callD call P false (.one (.flat .bool)) 72 [.int .i64 x36, .int .i64 x38] r5.2).bind fun r39 =>
                        (cond (!r39.1)
                        ((callD call P false (.one (.flat (.int .i64))) 73 [.sl 3 s0, .int .i64 s1, .int .i64 s2, .int .i64 (IntKind.wrap .i64 ((IntKind.wrap .i64 (s2 - 1)) - (IntKind.wrap .i64 (r4.1.1 - s1))))] r39.2).bind fun r40 =>
                        (K56_0 call n m s0 r40.1 s2 (IntKind.wrap .i64 (s3 - 1)) s8 s9 r40.2))
                        ((callD call P false (.tup [(.flat (.int .i64)), (.flat .bool)]) 74 [.sl 3 s0, .int .i64 s1, .int .i64 s2, .int .i64 (IntKind.wrap .i64 ((IntKind.wrap .i64 (s2 - 1)) - (IntKind.wrap .i64 (r4.1.1 - s1))))] r39.2).bind fun r41 =>
                        ((quoI .i64 (IntKind.wrap .i64 (s2 - s1)) 8).bind fun x42 =>
                        (cond (decide (((IntKind.wrap .i64 (r41.1.1 - s1)) : Int) < (IntKind.wrap .i64 (s2 - r41.1.1))))
                        ((callD call P false (.tup []) 56 [.sl 3 s0, .int .i64 s1, .int .i64 r41.1.1, .int .i64 (IntKind.wrap .i64 (s3 - 1))] r41.2).bind fun r43 =>
                        (K56_0 call n m s0 (IntKind.wrap .i64 (r41.1.1 + 1)) s2 (IntKind.wrap .i64 (s3 - 1)) (decide (((IntKind.wrap .i64 (r41.1.1 - s1)) : Int) ≥ x42)) r41.1.2.1 r43.2))
                        ((callD call P false (.tup []) 56 [.sl 3 s0, .int .i64 (IntKind.wrap .i64 (r41.1.1 + 1)), .int .i64 s2, .int .i64 (IntKind.wrap .i64 (s3 - 1))] r41.2).bind fun r44 =>
                        (K56_0 call n m s0 s1 r41.1.1 (IntKind.wrap .i64 (s3 - 1)) (decide (((IntKind.wrap .i64 (s2 - r41.1.1)) : Int) ≥ x42)) r41.1.2.1 r44.2)))))))))))
                    ((callD call P false (.tup [(.flat (.int .i64)), (.flat .bool)]) 74 [.sl 3 s0, .int .i64 s1, .int .i64 s2, .int .i64 (IntKind.wrap .i64 ((IntKind.wrap .i64 (s2 - 1)) - (IntKind.wrap .i64 (r4.1.1 - s1))))] r5.2).bind fun r45 =>
                      ((quoI .i64 (IntKind.wrap .i64 (s2 - s1)) 8).bind fun x46 =>
                        (cond (decide (((IntKind.wrap .i64 (r45.1.1 - s1)) : Int) < (IntKind.wrap .i64 (s2 - r45.1.1))))
                        ((callD call P false (.tup []) 56 [.sl 3 s0, .int .i64 s1, .int .i64 r45.1.1, .int .i64 (IntKind.wrap .i64 (s3 - 1))] r45.2).bind fun r47 =>
                        (K56_0 call n m s0 (IntKind.wrap .i64 (r45.1.1 + 1)) s2 (IntKind.wrap .i64 (s3 - 1)) (decide (((IntKind.wrap .i64 (r45.1.1 - s1)) : Int) ≥ x46)) r45.1.2.1 r47.2))
                        ((callD call P false (.tup []) 56 [.sl 3 s0, .int .i64 (IntKind.wrap .i64 (r45.1.1 + 1)), .int .i64 s2, .int .i64 (IntKind.wrap .i64 (s3 - 1))] r45.2).bind fun r48 =>
                        (K56_0 call n m s0 s1 r45.1.1 (IntKind.wrap .i64 (s3 - 1)) (decide (((IntKind.wrap .i64 (s2 - r45.1.1)) : Int) ≥ x46)) r45.1.2.1 r48.2))))))))
              (cond s8
                (cond s9
                  (cond ((r4.1.2.1 : Int) == 1)
                    ((callD call P false (.one (.flat .bool)) 71 [.sl 3 s0, .int .i64 s1, .int .i64 s2] r4.2).bind fun r49 =>
                      (cond r49.1
                        (some (.tup [], r49.2))
                        (cond (decide ((s1 : Int) > 0))
                        ((ixV 1 s0 (IntKind.wrap .i64 (s1 - 1))).bind fun p50 =>
                        ((ldV (.flat (.int .i64)) r49.2 p50).bind fun x51 =>
                        ((ixV 1 s0 r4.1.1).bind fun p52 =>
                        ((ldV (.flat (.int .i64)) r49.2 p52).bind fun x53 =>
                        ((callD call P false (.one (.flat .bool)) 72 [.int .i64 x51, .int .i64 x53] r49.2).bind fun r54 =>
                        (cond (!r54.1)
                        ((callD call P false (.one (.flat (.int .i64))) 73 [.sl 3 s0, .int .i64 s1, .int .i64 s2, .int .i64 r4.1.1] r54.2).bind fun r55 =>
                        (K56_0 call n m s0 r55.1 s2 (IntKind.wrap .i64 (s3 - 1)) s8 s9 r55.2))
                        ((callD call P false (.tup [(.flat (.int .i64)), (.flat .bool)]) 74 [.sl 3 s0, .int .i64 s1, .int .i64 s2, .int .i64 r4.1.1] r54.2).bind fun r56 =>
                        ((quoI .i64 (IntKind.wrap .i64 (s2 - s1)) 8).bind fun x57 =>
                        (cond (decide (((IntKind.wrap .i64 (r56.1.1 - s1)) : Int) < (IntKind.wrap .i64 (s2 - r56.1.1))))
                        ((callD call P false (.tup []) 56 [.sl 3 s0, .int .i64 s1, .int .i64 r56.1.1, .int .i64 (IntKind.wrap .i64 (s3 - 1))] r56.2).bind fun r58 =>
                        (K56_0 call n m s0 (IntKind.wrap .i64 (r56.1.1 + 1)) s2 (IntKind.wrap .i64 (s3 - 1)) (decide (((IntKind.wrap .i64 (r56.1.1 - s1)) : Int) ≥ x57)) r56.1.2.1 r58.2))
                        ((callD call P false (.tup []) 56 [.sl 3 s0, .int .i64 (IntKind.wrap .i64 (r56.1.1 + 1)), .int .i64 s2, .int .i64 (IntKind.wrap .i64 (s3 - 1))] r56.2).bind fun r59 =>
                        (K56_0 call n m s0 s1 r56.1.1 (IntKind.wrap .i64 (s3 - 1)) (decide (((IntKind.wrap .i64 (s2 - r56.1.1)) : Int) ≥ x57)) r56.1.2.1 r59.2)))))))))))
                        ((callD call P false (.tup [(.flat (.int .i64)), (.flat .bool)]) 74 [.sl 3 s0, .int .i64 s1, .int .i64 s2, .int .i64 r4.1.1] r49.2).bind fun r60 =>
                        ((quoI .i64 (IntKind.wrap .i64 (s2 - s1)) 8).bind fun x61 =>
                        (cond (decide (((IntKind.wrap .i64 (r60.1.1 - s1)) : Int) < (IntKind.wrap .i64 (s2 - r60.1.1))))
                        ((callD call P false (.tup []) 56 [.sl 3 s0, .int .i64 s1, .int .i64 r60.1.1, .int .i64 (IntKind.wrap .i64 (s3 - 1))] r60.2).bind fun r62 =>
                        (K56_0 call n m s0 (IntKind.wrap .i64 (r60.1.1 + 1)) s2 (IntKind.wrap .i64 (s3 - 1)) (decide (((IntKind.wrap .i64 (r60.1.1 - s1)) : Int) ≥ x61)) r60.1.2.1 r62.2))
                        ((callD call P false (.tup []) 56 [.sl 3 s0, .int .i64 (IntKind.wrap .i64 (r60.1.1 + 1)), .int .i64 s2, .int .i64 (IntKind.wrap .i64 (s3 - 1))] r60.2).bind fun r63 =>
                        (K56_0 call n m s0 s1 r60.1.1 (IntKind.wrap .i64 (s3 - 1)) (decide (((IntKind.wrap .i64 (s2 - r60.1.1)) : Int) ≥ x61)) r60.1.2.1 r63.2))))))))
                    (cond (decide ((s1 : Int) > 0))
                      ((ixV 1 s0 (IntKind.wrap .i64 (s1 - 1))).bind fun p64 =>
                        ((ldV (.flat (.int .i64)) r4.2 p64).bind fun x65 =>
                        ((ixV 1 s0 r4.1.1).bind fun p66 =>
                        ((ldV (.flat (.int .i64)) r4.2 p66).bind fun x67 =>
                        ((callD call P false (.one (.flat .bool)) 72 [.int .i64 x65, .int .i64 x67] r4.2).bind fun r68 =>
                        (cond (!r68.1)
                        ((callD call P false (.one (.flat (.int .i64))) 73 [.sl 3 s0, .int .i64 s1, .int .i64 s2, .int .i64 r4.1.1] r68.2).bind fun r69 =>
                        (K56_0 call n m s0 r69.1 s2 (IntKind.wrap .i64 (s3 - 1)) s8 s9 r69.2))
                        ((callD call P false (.tup [(.flat (.int .i64)), (.flat .bool)]) 74 [.sl 3 s0, .int .i64 s1, .int .i64 s2, .int .i64 r4.1.1] r68.2).bind fun r70 =>
                        ((quoI .i64 (IntKind.wrap .i64 (s2 - s1)) 8).bind fun x71 =>
                        (cond (decide (((IntKind.wrap .i64 (r70.1.1 - s1)) : Int) < (IntKind.wrap .i64 (s2 - r70.1.1))))
                        ((callD call P false (.tup []) 56 [.sl 3 s0, .int .i64 s1, .int .i64 r70.1.1, .int .i64 (IntKind.wrap .i64 (s3 - 1))] r70.2).bind fun r72 =>
                        (K56_0 call n m s0 (IntKind.wrap .i64 (r70.1.1 + 1)) s2 (IntKind.wrap .i64 (s3 - 1)) (decide (((IntKind.wrap .i64 (r70.1.1 - s1)) : Int) ≥ x71)) r70.1.2.1 r72.2))
                        ((callD call P false (.tup []) 56 [.sl 3 s0, .int .i64 (IntKind.wrap .i64 (r70.1.1 + 1)), .int .i64 s2, .int .i64 (IntKind.wrap .i64 (s3 - 1))] r70.2).bind fun r73 =>
                        (K56_0 call n m s0 s1 r70.1.1 (IntKind.wrap .i64 (s3 - 1)) (decide (((IntKind.wrap .i64 (s2 - r70.1.1)) : Int) ≥ x71)) r70.1.2.1 r73.2)))))))))))
                      ((callD call P false (.tup [(.flat (.int .i64)), (.flat .bool)]) 74 [.sl 3 s0, .int .i64 s1, .int .i64 s2, .int .i64 r4.1.1] r4.2).bind fun r74 =>
                        ((quoI .i64 (IntKind.wrap .i64 (s2 - s1)) 8).bind fun x75 =>
                        (cond (decide (((IntKind.wrap .i64 (r74.1.1 - s1)) : Int) < (IntKind.wrap .i64 (s2 - r74.1.1))))
                        ((callD call P false (.tup []) 56 [.sl 3 s0, .int .i64 s1, .int .i64 r74.1.1, .int .i64 (IntKind.wrap .i64 (s3 - 1))] r74.2).bind fun r76 =>
                        (K56_0 call n m s0 (IntKind.wrap .i64 (r74.1.1 + 1)) s2 (IntKind.wrap .i64 (s3 - 1)) (decide (((IntKind.wrap .i64 (r74.1.1 - s1)) : Int) ≥ x75)) r74.1.2.1 r76.2))
                        ((callD call P false (.tup []) 56 [.sl 3 s0, .int .i64 (IntKind.wrap .i64 (r74.1.1 + 1)), .int .i64 s2, .int .i64 (IntKind.wrap .i64 (s3 - 1))] r74.2).bind fun r77 =>
                        (K56_0 call n m s0 s1 r74.1.1 (IntKind.wrap .i64 (s3 - 1)) (decide (((IntKind.wrap .i64 (s2 - r74.1.1)) : Int) ≥ x75)) r74.1.2.1 r77.2)))))))
                  (cond (decide ((s1 : Int) > 0))
                    ((ixV 1 s0 (IntKind.wrap .i64 (s1 - 1))).bind fun p78 =>
                      ((ldV (.flat (.int .i64)) r4.2 p78).bind fun x79 =>
                        ((ixV 1 s0 r4.1.1).bind fun p80 =>
                        ((ldV (.flat (.int .i64)) r4.2 p80).bind fun x81 =>
                        ((callD call P false (.one (.flat .bool)) 72 [.int .i64 x79, .int .i64 x81] r4.2).bind fun r82 =>
                        (cond (!r82.1)
                        ((callD call P false (.one (.flat (.int .i64))) 73 [.sl 3 s0, .int .i64 s1, .int .i64 s2, .int .i64 r4.1.1] r82.2).bind fun r83 =>
                        (K56_0 call n m s0 r83.1 s2 (IntKind.wrap .i64 (s3 - 1)) s8 s9 r83.2))
                        ((callD call P false (.tup [(.flat (.int .i64)), (.flat .bool)]) 74 [.sl 3 s0, .int .i64 s1, .int .i64 s2, .int .i64 r4.1.1] r82.2).bind fun r84 =>
                        ((quoI .i64 (IntKind.wrap .i64 (s2 - s1)) 8).bind fun x85 =>
                        (cond (decide (((IntKind.wrap .i64 (r84.1.1 - s1)) : Int) < (IntKind.wrap .i64 (s2 - r84.1.1))))
                        ((callD call P false (.tup []) 56 [.sl 3 s0, .int .i64 s1, .int .i64 r84.1.1, .int .i64 (IntKind.wrap .i64 (s3 - 1))] r84.2).bind fun r86 =>
                        (K56_0 call n m s0 (IntKind.wrap .i64 (r84.1.1 + 1)) s2 (IntKind.wrap .i64 (s3 - 1)) (decide (((IntKind.wrap .i64 (r84.1.1 - s1)) : Int) ≥ x85)) r84.1.2.1 r86.2))
                        ((callD call P false (.tup []) 56 [.sl 3 s0, .int .i64 (IntKind.wrap .i64 (r84.1.1 + 1)), .int .i64 s2, .int .i64 (IntKind.wrap .i64 (s3 - 1))] r84.2).bind fun r87 =>
                        (K56_0 call n m s0 s1 r84.1.1 (IntKind.wrap .i64 (s3 - 1)) (decide (((IntKind.wrap .i64 (s2 - r84.1.1)) : Int) ≥ x85)) r84.1.2.1 r87.2)))))))))))
                    ((callD call P false (.tup [(.flat (.int .i64)), (.flat .bool)]) 74 [.sl 3 s0, .int .i64 s1, .int .i64 s2, .int .i64 r4.1.1] r4.2).bind fun r88 =>
                      ((quoI .i64 (IntKind.wrap .i64 (s2 - s1)) 8).bind fun x89 =>
                        (cond (decide (((IntKind.wrap .i64 (r88.1.1 - s1)) : Int) < (IntKind.wrap .i64 (s2 - r88.1.1))))
                        ((callD call P false (.tup []) 56 [.sl 3 s0, .int .i64 s1, .int .i64 r88.1.1, .int .i64 (IntKind.wrap .i64 (s3 - 1))] r88.2).bind fun r90 =>
                        (K56_0 call n m s0 (IntKind.wrap .i64 (r88.1.1 + 1)) s2 (IntKind.wrap .i64 (s3 - 1)) (decide (((IntKind.wrap .i64 (r88.1.1 - s1)) : Int) ≥ x89)) r88.1.2.1 r90.2))
                        ((callD call P false (.tup []) 56 [.sl 3 s0, .int .i64 (IntKind.wrap .i64 (r88.1.1 + 1)), .int .i64 s2, .int .i64 (IntKind.wrap .i64 (s3 - 1))] r88.2).bind fun r91 =>
                        (K56_0 call n m s0 s1 r88.1.1 (IntKind.wrap .i64 (s3 - 1)) (decide (((IntKind.wrap .i64 (s2 - r88.1.1)) : Int) ≥ x89)) r88.1.2.1 r91.2)))))))
                (cond (decide ((s1 : Int) > 0))
                  ((ixV 1 s0 (IntKind.wrap .i64 (s1 - 1))).bind fun p92 =>
                    ((ldV (.flat (.int .i64)) r4.2 p92).bind fun x93 =>
                      ((ixV 1 s0 r4.1.1).bind fun p94 =>
                        ((ldV (.flat (.int .i64)) r4.2 p94).bind fun x95 =>
                        ((callD call P false (.one (.flat .bool)) 72 [.int .i64 x93, .int .i64 x95] r4.2).bind fun r96 =>
                        (cond (!r96.1)
                        ((callD call P false (.one (.flat (.int .i64))) 73 [.sl 3 s0, .int .i64 s1, .int .i64 s2, .int .i64 r4.1.1] r96.2).bind fun r97 =>
                        (K56_0 call n m s0 r97.1 s2 (IntKind.wrap .i64 (s3 - 1)) s8 s9 r97.2))
                        ((callD call P false (.tup [(.flat (.int .i64)), (.flat .bool)]) 74 [.sl 3 s0, .int .i64 s1, .int .i64 s2, .int .i64 r4.1.1] r96.2).bind fun r98 =>
                        ((quoI .i64 (IntKind.wrap .i64 (s2 - s1)) 8).bind fun x99 =>
                        (cond (decide (((IntKind.wrap .i64 (r98.1.1 - s1)) : Int) < (IntKind.wrap .i64 (s2 - r98.1.1))))
                        ((callD call P false (.tup []) 56 [.sl 3 s0, .int .i64 s1, .int .i64 r98.1.1, .int .i64 (IntKind.wrap .i64 (s3 - 1))] r98.2).bind fun r100 =>
                        (K56_0 call n m s0 (IntKind.wrap .i64 (r98.1.1 + 1)) s2 (IntKind.wrap .i64 (s3 - 1)) (decide (((IntKind.wrap .i64 (r98.1.1 - s1)) : Int) ≥ x99)) r98.1.2.1 r100.2))
                        ((callD call P false (.tup []) 56 [.sl 3 s0, .int .i64 (IntKind.wrap .i64 (r98.1.1 + 1)), .int .i64 s2, .int .i64 (IntKind.wrap .i64 (s3 - 1))] r98.2).bind fun r101 =>
                        (K56_0 call n m s0 s1 r98.1.1 (IntKind.wrap .i64 (s3 - 1)) (decide (((IntKind.wrap .i64 (s2 - r98.1.1)) : Int) ≥ x99)) r98.1.2.1 r101.2)))))))))))
                  ((callD call P false (.tup [(.flat (.int .i64)), (.flat .bool)]) 74 [.sl 3 s0, .int .i64 s1, .int .i64 s2, .int .i64 r4.1.1] r4.2).bind fun r102 =>
                    ((quoI .i64 (IntKind.wrap .i64 (s2 - s1)) 8).bind fun x103 =>
                      (cond (decide (((IntKind.wrap .i64 (r102.1.1 - s1)) : Int) < (IntKind.wrap .i64 (s2 - r102.1.1))))
                        ((callD call P false (.tup []) 56 [.sl 3 s0, .int .i64 s1, .int .i64 r102.1.1, .int .i64 (IntKind.wrap .i64 (s3 - 1))] r102.2).bind fun r104 =>
                        (K56_0 call n m s0 (IntKind.wrap .i64 (r102.1.1 + 1)) s2 (IntKind.wrap .i64 (s3 - 1)) (decide (((IntKind.wrap .i64 (r102.1.1 - s1)) : Int) ≥ x103)) r102.1.2.1 r104.2))
                        ((callD call P false (.tup []) 56 [.sl 3 s0, .int .i64 (IntKind.wrap .i64 (r102.1.1 + 1)), .int .i64 s2, .int .i64 (IntKind.wrap .i64 (s3 - 1))] r102.2).bind fun r105 =>
                        (K56_0 call n m s0 s1 r102.1.1 (IntKind.wrap .i64 (s3 - 1)) (decide (((IntKind.wrap .i64 (s2 - r102.1.1)) : Int) ≥ x103)) r102.1.2.1 r105.2))))))))))
        ((callD call P false (.tup [(.flat (.int .i64)), (.flat (.int .i64))]) 69 [.sl 3 s0, .int .i64 s1, .int .i64 s2] h).bind fun r106 =>
          (cond ((r106.1.2.1 : Int) == 2)
            ((callD call P false (.tup []) 70 [.sl 3 s0, .int .i64 s1, .int .i64 s2] r106.2).bind fun r107 =>
              (cond s8
                (cond s9
                  ((callD call P false (.one (.flat .bool)) 71 [.sl 3 s0, .int .i64 s1, .int .i64 s2] r107.2).bind fun r108 =>
                    (cond r108.1
                      (some (.tup [], r108.2))
                      (cond (decide ((s1 : Int) > 0))
                        ((ixV 1 s0 (IntKind.wrap .i64 (s1 - 1))).bind fun p109 =>
                        ((ldV (.flat (.int .i64)) r108.2 p109).bind fun x110 =>
                        ((ixV 1 s0 (IntKind.wrap .i64 ((IntKind.wrap .i64 (s2 - 1)) - (IntKind.wrap .i64 (r106.1.1 - s1))))).bind fun p111 =>
                        ((ldV (.flat (.int .i64)) r108.2 p111).bind fun x112 =>
                        ((callD call P false (.one (.flat .bool)) 72 [.int .i64 x110, .int .i64 x112] r108.2).bind fun r113 =>
                        (cond (!r113.1)
                        ((callD call P false (.one (.flat (.int .i64))) 73 [.sl 3 s0, .int .i64 s1, .int .i64 s2, .int .i64 (IntKind.wrap .i64 ((IntKind.wrap .i64 (s2 - 1)) - (IntKind.wrap .i64 (r106.1.1 - s1))))] r113.2).bind fun r114 =>
                        (K56_0 call n m s0 r114.1 s2 s3 s8 s9 r114.2))
                        ((callD call P false (.tup [(.flat (.int .i64)), (.flat .bool)]) 74 [.sl 3 s0, .int .i64 s1, .int .i64 s2, .int .i64 (IntKind.wrap .i64 ((IntKind.wrap .i64 (s2 - 1)) - (IntKind.wrap .i64 (r106.1.1 - s1))))] r113.2).bind fun r115 =>
                        ((quoI .i64 (IntKind.wrap .i64 (s2 - s1)) 8).bind fun x116 =>
                        (cond (decide (((IntKind.wrap .i64 (r115.1.1 - s1)) : Int) < (IntKind.wrap .i64 (s2 - r115.1.1))))
                        ((callD call P false (.tup []) 56 [.sl 3 s0, .int .i64 s1, .int .i64 r115.1.1, .int .i64 s3] r115.2).bind fun r117 =>
                        (K56_0 call n m s0 (IntKind.wrap .i64 (r115.1.1 + 1)) s2 s3 (decide (((IntKind.wrap .i64 (r115.1.1 - s1)) : Int) ≥ x116)) r115.1.2.1 r117.2))
                        ((callD call P false (.tup []) 56 [.sl 3 s0, .int .i64 (IntKind.wrap .i64 (r115.1.1 + 1)), .int .i64 s2, .int .i64 s3] r115.2).bind fun r118 =>
                        (K56_0 call n m s0 s1 r115.1.1 s3 (decide (((IntKind.wrap .i64 (s2 - r115.1.1)) : Int) ≥ x116)) r115.1.2.1 r118.2)))))))))))
                        ((callD call P false (.tup [(.flat (.int .i64)), (.flat .bool)]) 74 [.sl 3 s0, .int .i64 s1, .int .i64 s2, .int .i64 (IntKind.wrap .i64 ((IntKind.wrap .i64 (s2 - 1)) - (IntKind.wrap .i64 (r106.1.1 - s1))))] r108.2).bind fun r119 =>
                        ((quoI .i64 (IntKind.wrap .i64 (s2 - s1)) 8).bind fun x120 =>
                        (cond (decide (((IntKind.wrap .i64 (r119.1.1 - s1)) : Int) < (IntKind.wrap .i64 (s2 - r119.1.1))))
                        ((callD call P false (.tup []) 56 [.sl 3 s0, .int .i64 s1, .int .i64 r119.1.1, .int .i64 s3] r119.2).bind fun r121 =>
                        (K56_0 call n m s0 (IntKind.wrap .i64 (r119.1.1 + 1)) s2 s3 (decide (((IntKind.wrap .i64 (r119.1.1 - s1)) : Int) ≥ x120)) r119.1.2.1 r121.2))
                        ((callD call P false (.tup []) 56 [.sl 3 s0, .int .i64 (IntKind.wrap .i64 (r119.1.1 + 1)), .int .i64 s2, .int .i64 s3] r119.2).bind fun r122 =>
                        (K56_0 call n m s0 s1 r119.1.1 s3 (decide (((IntKind.wrap .i64 (s2 - r119.1.1)) : Int) ≥ x120)) r119.1.2.1 r122.2))))))))
                  (cond (decide ((s1 : Int) > 0))
                    ((ixV 1 s0 (IntKind.wrap .i64 (s1 - 1))).bind fun p123 =>
                      ((ldV (.flat (.int .i64)) r107.2 p123).bind fun x124 =>
                        ((ixV 1 s0 (IntKind.wrap .i64 ((IntKind.wrap .i64 (s2 - 1)) - (IntKind.wrap .i64 (r106.1.1 - s1))))).bind fun p125 =>
                        ((ldV (.flat (.int .i64)) r107.2 p125).bind fun x126 =>
                        ((callD call P false (.one (.flat .bool)) 72 [.int .i64 x124, .int .i64 x126] r107.2).bind fun r127 =>
                        (cond (!r127.1)
                        ((callD call P false (.one (.flat (.int .i64))) 73 [.sl 3 s0, .int .i64 s1, .int .i64 s2, .int .i64 (IntKind.wrap .i64 ((IntKind.wrap .i64 (s2 - 1)) - (IntKind.wrap .i64 (r106.1.1 - s1))))] r127.2).bind fun r128 =>
                        (K56_0 call n m s0 r128.1 s2 s3 s8 s9 r128.2))
                        ((callD call P false (.tup [(.flat (.int .i64)), (.flat .bool)]) 74 [.sl 3 s0, .int .i64 s1, .int .i64 s2, .int .i64 (IntKind.wrap .i64 ((IntKind.wrap .i64 (s2 - 1)) - (IntKind.wrap .i64 (r106.1.1 - s1))))] r127.2).bind fun r129 =>
                        ((quoI .i64 (IntKind.wrap .i64 (s2 - s1)) 8).bind fun x130 =>
                        (cond (decide (((IntKind.wrap .i64 (r129.1.1 - s1)) : Int) < (IntKind.wrap .i64 (s2 - r129.1.1))))
                        ((callD call P false (.tup []) 56 [.sl 3 s0, .int .i64 s1, .int .i64 r129.1.1, .int .i64 s3] r129.2).bind fun r131 =>
                        (K56_0 call n m s0 (IntKind.wrap .i64 (r129.1.1 + 1)) s2 s3 (decide (((IntKind.wrap .i64 (r129.1.1 - s1)) : Int) ≥ x130)) r129.1.2.1 r131.2))
                        ((callD call P false (.tup []) 56 [.sl 3 s0, .int .i64 (IntKind.wrap .i64 (r129.1.1 + 1)), .int .i64 s2, .int .i64 s3] r129.2).bind fun r132 =>
                        (K56_0 call n m s0 s1 r129.1.1 s3 (decide (((IntKind.wrap .i64 (s2 - r129.1.1)) : Int) ≥ x130)) r129.1.2.1 r132.2)))))))))))
                    ((callD call P false (.tup [(.flat (.int .i64)), (.flat .bool)]) 74 [.sl 3 s0, .int .i64 s1, .int .i64 s2, .int .i64 (IntKind.wrap .i64 ((IntKind.wrap .i64 (s2 - 1)) - (IntKind.wrap .i64 (r106.1.1 - s1))))] r107.2).bind fun r133 =>
                      ((quoI .i64 (IntKind.wrap .i64 (s2 - s1)) 8).bind fun x134 =>
                        (cond (decide (((IntKind.wrap .i64 (r133.1.1 - s1)) : Int) < (IntKind.wrap .i64 (s2 - r133.1.1))))
                        ((callD call P false (.tup []) 56 [.sl 3 s0, .int .i64 s1, .int .i64 r133.1.1, .int .i64 s3] r133.2).bind fun r135 =>
                        (K56_0 call n m s0 (IntKind.wrap .i64 (r133.1.1 + 1)) s2 s3 (decide (((IntKind.wrap .i64 (r133.1.1 - s1)) : Int) ≥ x134)) r133.1.2.1 r135.2))
                        ((callD call P false (.tup []) 56 [.sl 3 s0, .int .i64 (IntKind.wrap .i64 (r133.1.1 + 1)), .int .i64 s2, .int .i64 s3] r133.2).bind fun r136 =>
                        (K56_0 call n m s0 s1 r133.1.1 s3 (decide (((IntKind.wrap .i64 (s2 - r133.1.1)) : Int) ≥ x134)) r133.1.2.1 r136.2)))))))
                (cond (decide ((s1 : Int) > 0))
                  ((ixV 1 s0 (IntKind.wrap .i64 (s1 - 1))).bind fun p137 =>
                    ((ldV (.flat (.int .i64)) r107.2 p137).bind fun x138 =>
                      ((ixV 1 s0 (IntKind.wrap .i64 ((IntKind.wrap .i64 (s2 - 1)) - (IntKind.wrap .i64 (r106.1.1 - s1))))).bind fun p139 =>
                        ((ldV (.flat (.int .i64)) r107.2 p139).bind fun x140 =>
                        ((callD call P false (.one (.flat .bool)) 72 [.int .i64 x138, .int .i64 x140] r107.2).bind fun r141 =>
                        (cond (!r141.1)
                        ((callD call P false (.one (.flat (.int .i64))) 73 [.sl 3 s0, .int .i64 s1, .int .i64 s2, .int .i64 (IntKind.wrap .i64 ((IntKind.wrap .i64 (s2 - 1)) - (IntKind.wrap .i64 (r106.1.1 - s1))))] r141.2).bind fun r142 =>
                        (K56_0 call n m s0 r142.1 s2 s3 s8 s9 r142.2))
                        ((callD call P false (.tup [(.flat (.int .i64)), (.flat .bool)]) 74 [.sl 3 s0, .int .i64 s1, .int .i64 s2, .int .i64 (IntKind.wrap .i64 ((IntKind.wrap .i64 (s2 - 1)) - (IntKind.wrap .i64 (r106.1.1 - s1))))] r141.2).bind fun r143 =>
                        ((quoI .i64 (IntKind.wrap .i64 (s2 - s1)) 8).bind fun x144 =>
                        (cond (decide (((IntKind.wrap .i64 (r143.1.1 - s1)) : Int) < (IntKind.wrap .i64 (s2 - r143.1.1))))
                        ((callD call P false (.tup []) 56 [.sl 3 s0, .int .i64 s1, .int .i64 r143.1.1, .int .i64 s3] r143.2).bind fun r145 =>
                        (K56_0 call n m s0 (IntKind.wrap .i64 (r143.1.1 + 1)) s2 s3 (decide (((IntKind.wrap .i64 (r143.1.1 - s1)) : Int) ≥ x144)) r143.1.2.1 r145.2))
                        ((callD call P false (.tup []) 56 [.sl 3 s0, .int .i64 (IntKind.wrap .i64 (r143.1.1 + 1)), .int .i64 s2, .int .i64 s3] r143.2).bind fun r146 =>
                        (K56_0 call n m s0 s1 r143.1.1 s3 (decide (((IntKind.wrap .i64 (s2 - r143.1.1)) : Int) ≥ x144)) r143.1.2.1 r146.2)))))))))))
                  ((callD call P false (.tup [(.flat (.int .i64)), (.flat .bool)]) 74 [.sl 3 s0, .int .i64 s1, .int .i64 s2, .int .i64 (IntKind.wrap .i64 ((IntKind.wrap .i64 (s2 - 1)) - (IntKind.wrap .i64 (r106.1.1 - s1))))] r107.2).bind fun r147 =>
                    ((quoI .i64 (IntKind.wrap .i64 (s2 - s1)) 8).bind fun x148 =>
                      (cond (decide (((IntKind.wrap .i64 (r147.1.1 - s1)) : Int) < (IntKind.wrap .i64 (s2 - r147.1.1))))
                        ((callD call P false (.tup []) 56 [.sl 3 s0, .int .i64 s1, .int .i64 r147.1.1, .int .i64 s3] r147.2).bind fun r149 =>
                        (K56_0 call n m s0 (IntKind.wrap .i64 (r147.1.1 + 1)) s2 s3 (decide (((IntKind.wrap .i64 (r147.1.1 - s1)) : Int) ≥ x148)) r147.1.2.1 r149.2))
                        ((callD call P false (.tup []) 56 [.sl 3 s0, .int .i64 (IntKind.wrap .i64 (r147.1.1 + 1)), .int .i64 s2, .int .i64 s3] r147.2).bind fun r150 =>
                        (K56_0 call n m s0 s1 r147.1.1 s3 (decide (((IntKind.wrap .i64 (s2 - r147.1.1)) : Int) ≥ x148)) r147.1.2.1 r150.2))))))))
            (cond s8
              (cond s9
                (cond ((r106.1.2.1 : Int) == 1)
                  ((callD call P false (.one (.flat .bool)) 71 [.sl 3 s0, .int .i64 s1, .int .i64 s2] r106.2).bind fun r151 =>
                    (cond r151.1
                      (some (.tup [], r151.2))
                      (cond (decide ((s1 : Int) > 0))
                        ((ixV 1 s0 (IntKind.wrap .i64 (s1 - 1))).bind fun p152 =>
                        ((ldV (.flat (.int .i64)) r151.2 p152).bind fun x153 =>
                        ((ixV 1 s0 r106.1.1).bind fun p154 =>
                        ((ldV (.flat (.int .i64)) r151.2 p154).bind fun x155 =>
                        ((callD call P false (.one (.flat .bool)) 72 [.int .i64 x153, .int .i64 x155] r151.2).bind fun r156 =>
                        (cond (!r156.1)
                        ((callD call P false (.one (.flat (.int .i64))) 73 [.sl 3 s0, .int .i64 s1, .int .i64 s2, .int .i64 r106.1.1] r156.2).bind fun r157 =>
                        (K56_0 call n m s0 r157.1 s2 s3 s8 s9 r157.2))
                        ((callD call P false (.tup [(.flat (.int .i64)), (.flat .bool)]) 74 [.sl 3 s0, .int .i64 s1, .int .i64 s2, .int .i64 r106.1.1] r156.2).bind fun r158 =>
                        ((quoI .i64 (IntKind.wrap .i64 (s2 - s1)) 8).bind fun x159 =>
                        (cond (decide (((IntKind.wrap .i64 (r158.1.1 - s1)) : Int) < (IntKind.wrap .i64 (s2 - r158.1.1))))
                        ((callD call P false (.tup []) 56 [.sl 3 s0, .int .i64 s1, .int .i64 r158.1.1, .int .i64 s3] r158.2).bind fun r160 =>
                        (K56_0 call n m s0 (IntKind.wrap .i64 (r158.1.1 + 1)) s2 s3 (decide (((IntKind.wrap .i64 (r158.1.1 - s1)) : Int) ≥ x159)) r158.1.2.1 r160.2))
                        ((callD call P false (.tup []) 56 [.sl 3 s0, .int .i64 (IntKind.wrap .i64 (r158.1.1 + 1)), .int .i64 s2, .int .i64 s3] r158.2).bind fun r161 =>
                        (K56_0 call n m s0 s1 r158.1.1 s3 (decide (((IntKind.wrap .i64 (s2 - r158.1.1)) : Int) ≥ x159)) r158.1.2.1 r161.2)))))))))))
                        ((callD call P false (.tup [(.flat (.int .i64)), (.flat .bool)]) 74 [.sl 3 s0, .int .i64 s1, .int .i64 s2, .int .i64 r106.1.1] r151.2).bind fun r162 =>
                        ((quoI .i64 (IntKind.wrap .i64 (s2 - s1)) 8).bind fun x163 =>
                        (cond (decide (((IntKind.wrap .i64 (r162.1.1 - s1)) : Int) < (IntKind.wrap .i64 (s2 - r162.1.1))))
                        ((callD call P false (.tup []) 56 [.sl 3 s0, .int .i64 s1, .int .i64 r162.1.1, .int .i64 s3] r162.2).bind fun r164 =>
                        (K56_0 call n m s0 (IntKind.wrap .i64 (r162.1.1 + 1)) s2 s3 (decide (((IntKind.wrap .i64 (r162.1.1 - s1)) : Int) ≥ x163)) r162.1.2.1 r164.2))
                        ((callD call P false (.tup []) 56 [.sl 3 s0, .int .i64 (IntKind.wrap .i64 (r162.1.1 + 1)), .int .i64 s2, .int .i64 s3] r162.2).bind fun r165 =>
                        (K56_0 call n m s0 s1 r162.1.1 s3 (decide (((IntKind.wrap .i64 (s2 - r162.1.1)) : Int) ≥ x163)) r162.1.2.1 r165.2))))))))
                  (cond (decide ((s1 : Int) > 0))
                    ((ixV 1 s0 (IntKind.wrap .i64 (s1 - 1))).bind fun p166 =>
                      ((ldV (.flat (.int .i64)) r106.2 p166).bind fun x167 =>
                        ((ixV 1 s0 r106.1.1).bind fun p168 =>
                        ((ldV (.flat (.int .i64)) r106.2 p168).bind fun x169 =>
                        ((callD call P false (.one (.flat .bool)) 72 [.int .i64 x167, .int .i64 x169] r106.2).bind fun r170 =>
                        (cond (!r170.1)
                        ((callD call P false (.one (.flat (.int .i64))) 73 [.sl 3 s0, .int .i64 s1, .int .i64 s2, .int .i64 r106.1.1] r170.2).bind fun r171 =>
                        (K56_0 call n m s0 r171.1 s2 s3 s8 s9 r171.2))
                        ((callD call P false (.tup [(.flat (.int .i64)), (.flat .bool)]) 74 [.sl 3 s0, .int .i64 s1, .int .i64 s2, .int .i64 r106.1.1] r170.2).bind fun r172 =>
                        ((quoI .i64 (IntKind.wrap .i64 (s2 - s1)) 8).bind fun x173 =>
                        (cond (decide (((IntKind.wrap .i64 (r172.1.1 - s1)) : Int) < (IntKind.wrap .i64 (s2 - r172.1.1))))
                        ((callD call P false (.tup []) 56 [.sl 3 s0, .int .i64 s1, .int .i64 r172.1.1, .int .i64 s3] r172.2).bind fun r174 =>
                        (K56_0 call n m s0 (IntKind.wrap .i64 (r172.1.1 + 1)) s2 s3 (decide (((IntKind.wrap .i64 (r172.1.1 - s1)) : Int) ≥ x173)) r172.1.2.1 r174.2))
                        ((callD call P false (.tup []) 56 [.sl 3 s0, .int .i64 (IntKind.wrap .i64 (r172.1.1 + 1)), .int .i64 s2, .int .i64 s3] r172.2).bind fun r175 =>
                        (K56_0 call n m s0 s1 r172.1.1 s3 (decide (((IntKind.wrap .i64 (s2 - r172.1.1)) : Int) ≥ x173)) r172.1.2.1 r175.2)))))))))))
                    ((callD call P false (.tup [(.flat (.int .i64)), (.flat .bool)]) 74 [.sl 3 s0, .int .i64 s1, .int .i64 s2, .int .i64 r106.1.1] r106.2).bind fun r176 =>
                      ((quoI .i64 (IntKind.wrap .i64 (s2 - s1)) 8).bind fun x177 =>
                        (cond (decide (((IntKind.wrap .i64 (r176.1.1 - s1)) : Int) < (IntKind.wrap .i64 (s2 - r176.1.1))))
                        ((callD call P false (.tup []) 56 [.sl 3 s0, .int .i64 s1, .int .i64 r176.1.1, .int .i64 s3] r176.2).bind fun r178 =>
                        (K56_0 call n m s0 (IntKind.wrap .i64 (r176.1.1 + 1)) s2 s3 (decide (((IntKind.wrap .i64 (r176.1.1 - s1)) : Int) ≥ x177)) r176.1.2.1 r178.2))
                        ((callD call P false (.tup []) 56 [.sl 3 s0, .int .i64 (IntKind.wrap .i64 (r176.1.1 + 1)), .int .i64 s2, .int .i64 s3] r176.2).bind fun r179 =>
                        (K56_0 call n m s0 s1 r176.1.1 s3 (decide (((IntKind.wrap .i64 (s2 - r176.1.1)) : Int) ≥ x177)) r176.1.2.1 r179.2)))))))
                (cond (decide ((s1 : Int) > 0))
                  ((ixV 1 s0 (IntKind.wrap .i64 (s1 - 1))).bind fun p180 =>
                    ((ldV (.flat (.int .i64)) r106.2 p180).bind fun x181 =>
                      ((ixV 1 s0 r106.1.1).bind fun p182 =>
                        ((ldV (.flat (.int .i64)) r106.2 p182).bind fun x183 =>
                        ((callD call P false (.one (.flat .bool)) 72 [.int .i64 x181, .int .i64 x183] r106.2).bind fun r184 =>
                        (cond (!r184.1)
                        ((callD call P false (.one (.flat (.int .i64))) 73 [.sl 3 s0, .int .i64 s1, .int .i64 s2, .int .i64 r106.1.1] r184.2).bind fun r185 =>
                        (K56_0 call n m s0 r185.1 s2 s3 s8 s9 r185.2))
                        ((callD call P false (.tup [(.flat (.int .i64)), (.flat .bool)]) 74 [.sl 3 s0, .int .i64 s1, .int .i64 s2, .int .i64 r106.1.1] r184.2).bind fun r186 =>
                        ((quoI .i64 (IntKind.wrap .i64 (s2 - s1)) 8).bind fun x187 =>
                        (cond (decide (((IntKind.wrap .i64 (r186.1.1 - s1)) : Int) < (IntKind.wrap .i64 (s2 - r186.1.1))))
                        ((callD call P false (.tup []) 56 [.sl 3 s0, .int .i64 s1, .int .i64 r186.1.1, .int .i64 s3] r186.2).bind fun r188 =>
                        (K56_0 call n m s0 (IntKind.wrap .i64 (r186.1.1 + 1)) s2 s3 (decide (((IntKind.wrap .i64 (r186.1.1 - s1)) : Int) ≥ x187)) r186.1.2.1 r188.2))
                        ((callD call P false (.tup []) 56 [.sl 3 s0, .int .i64 (IntKind.wrap .i64 (r186.1.1 + 1)), .int .i64 s2, .int .i64 s3] r186.2).bind fun r189 =>
                        (K56_0 call n m s0 s1 r186.1.1 s3 (decide (((IntKind.wrap .i64 (s2 - r186.1.1)) : Int) ≥ x187)) r186.1.2.1 r189.2)))))))))))
                  ((callD call P false (.tup [(.flat (.int .i64)), (.flat .bool)]) 74 [.sl 3 s0, .int .i64 s1, .int .i64 s2, .int .i64 r106.1.1] r106.2).bind fun r190 =>
                    ((quoI .i64 (IntKind.wrap .i64 (s2 - s1)) 8).bind fun x191 =>
                      (cond (decide (((IntKind.wrap .i64 (r190.1.1 - s1)) : Int) < (IntKind.wrap .i64 (s2 - r190.1.1))))
                        ((callD call P false (.tup []) 56 [.sl 3 s0, .int .i64 s1, .int .i64 r190.1.1, .int .i64 s3] r190.2).bind fun r192 =>
                        (K56_0 call n m s0 (IntKind.wrap .i64 (r190.1.1 + 1)) s2 s3 (decide (((IntKind.wrap .i64 (r190.1.1 - s1)) : Int) ≥ x191)) r190.1.2.1 r192.2))
                        ((callD call P false (.tup []) 56 [.sl 3 s0, .int .i64 (IntKind.wrap .i64 (r190.1.1 + 1)), .int .i64 s2, .int .i64 s3] r190.2).bind fun r193 =>
                        (K56_0 call n m s0 s1 r190.1.1 s3 (decide (((IntKind.wrap .i64 (s2 - r190.1.1)) : Int) ≥ x191)) r190.1.2.1 r193.2)))))))
              (cond (decide ((s1 : Int) > 0))
                ((ixV 1 s0 (IntKind.wrap .i64 (s1 - 1))).bind fun p194 =>
                  ((ldV (.flat (.int .i64)) r106.2 p194).bind fun x195 =>
                    ((ixV 1 s0 r106.1.1).bind fun p196 =>
                      ((ldV (.flat (.int .i64)) r106.2 p196).bind fun x197 =>
                        ((callD call P false (.one (.flat .bool)) 72 [.int .i64 x195, .int .i64 x197] r106.2).bind fun r198 =>
                        (cond (!r198.1)
                        ((callD call P false (.one (.flat (.int .i64))) 73 [.sl 3 s0, .int .i64 s1, .int .i64 s2, .int .i64 r106.1.1] r198.2).bind fun r199 =>
                        (K56_0 call n m s0 r199.1 s2 s3 s8 s9 r199.2))
                        ((callD call P false (.tup [(.flat (.int .i64)), (.flat .bool)]) 74 [.sl 3 s0, .int .i64 s1, .int .i64 s2, .int .i64 r106.1.1] r198.2).bind fun r200 =>
                        ((quoI .i64 (IntKind.wrap .i64 (s2 - s1)) 8).bind fun x201 =>
                        (cond (decide (((IntKind.wrap .i64 (r200.1.1 - s1)) : Int) < (IntKind.wrap .i64 (s2 - r200.1.1))))
                        ((callD call P false (.tup []) 56 [.sl 3 s0, .int .i64 s1, .int .i64 r200.1.1, .int .i64 s3] r200.2).bind fun r202 =>
                        (K56_0 call n m s0 (IntKind.wrap .i64 (r200.1.1 + 1)) s2 s3 (decide (((IntKind.wrap .i64 (r200.1.1 - s1)) : Int) ≥ x201)) r200.1.2.1 r202.2))
                        ((callD call P false (.tup []) 56 [.sl 3 s0, .int .i64 (IntKind.wrap .i64 (r200.1.1 + 1)), .int .i64 s2, .int .i64 s3] r200.2).bind fun r203 =>
                        (K56_0 call n m s0 s1 r200.1.1 s3 (decide (((IntKind.wrap .i64 (s2 - r200.1.1)) : Int) ≥ x201)) r200.1.2.1 r203.2)))))))))))
                ((callD call P false (.tup [(.flat (.int .i64)), (.flat .bool)]) 74 [.sl 3 s0, .int .i64 s1, .int .i64 s2, .int .i64 r106.1.1] r106.2).bind fun r204 =>
                  ((quoI .i64 (IntKind.wrap .i64 (s2 - s1)) 8).bind fun x205 =>
                    (cond (decide (((IntKind.wrap .i64 (r204.1.1 - s1)) : Int) < (IntKind.wrap .i64 (s2 - r204.1.1))))
                      ((callD call P false (.tup []) 56 [.sl 3 s0, .int .i64 s1, .int .i64 r204.1.1, .int .i64 s3] r204.2).bind fun r206 =>
                        (K56_0 call n m s0 (IntKind.wrap .i64 (r204.1.1 + 1)) s2 s3 (decide (((IntKind.wrap .i64 (r204.1.1 - s1)) : Int) ≥ x205)) r204.1.2.1 r206.2))
                      ((callD call P false (.tup []) 56 [.sl 3 s0, .int .i64 (IntKind.wrap .i64 (r204.1.1 + 1)), .int .i64 s2, .int .i64 s3] r204.2).bind fun r207 =>
                        (K56_0 call n m s0 s1 r204.1.1 s3 (decide (((IntKind.wrap .i64 (s2 - r204.1.1)) : Int) ≥ x205)) r204.1.2.1 r207.2))))))))))))
noncomputable def C56 (call : Cl) (n : Nat) (a0 : VS) (a1 : Int) (a2 : Int) (a3 : Int) (h : VH) : VRes :=
  (K56_0 call n n a0 a1 a2 a3 true true h)
noncomputable def D56 (call : Cl) (n : Nat) (args : List V) (h : VH) : VRes :=
  match args with
  | [.sl 3 a0, .int .i64 a1, .int .i64 a2, .int .i64 a3] => C56 call n a0 a1 a2 a3 h
  | args => bodyV P tab call n 56 args h
noncomputable def C57 (call : Cl) (n : Nat) (a0 : Int) (h : VH) : VRes :=
  ((callD call P false (.one (.flat (.int .i64))) 76 [.int .u64 a0] h).bind fun r1 =>
    (some (.int .i64 r1.1, r1.2)))
noncomputable def D57 (call : Cl) (n : Nat) (args : List V) (h : VH) : VRes :=
  match args with
  | [.int .u64 a0] => C57 call n a0 h
  | args => bodyV P tab call n 57 args h
noncomputable def K66_1 (call : Cl) (n : Nat) (out : VS → Int → Int → Int → VH → VRes) : Nat → VS → Int → Int → Int → Int → VH → VRes
  | 0, _, _, _, _, _, _ => none
  | m + 1, s0, s1, s2, s6, s7, h =>
  (cond (decide ((s7 : Int) > s1))
    ((ixV 1 s0 s7).bind fun p1 =>
      ((ldV (.flat (.int .i64)) h p1).bind fun x2 =>
        ((ixV 1 s0 (IntKind.wrap .i64 (s7 - 1))).bind fun p3 =>
          ((ldV (.flat (.int .i64)) h p3).bind fun x4 =>
            ((callD call P false (.one (.flat .bool)) 72 [.int .i64 x2, .int .i64 x4] h).bind fun r5 =>
              (cond r5.1
                ((ixV 1 s0 (IntKind.wrap .i64 (s7 - 1))).bind fun p6 =>
                  ((ldV (.flat (.int .i64)) r5.2 p6).bind fun x7 =>
                    ((ixV 1 s0 s7).bind fun p8 =>
                      ((ldV (.flat (.int .i64)) r5.2 p8).bind fun x9 =>
                        (cond (V.stays r5.2 (hj (heldOf p6 [.int .i64] [.int .i64 x7]) []))
                        ((ixV 1 s0 s7).bind fun p10 =>
                        ((stV r5.2 p10 [.int .i64 x7]).bind fun h11 =>
                        ((ixV 1 s0 (IntKind.wrap .i64 (s7 - 1))).bind fun p12 =>
                        ((stV h11 p12 [.int .i64 x9]).bind fun h13 =>
                        (K66_1 call n out m s0 s1 s2 s6 (IntKind.wrap .i64 (s7 - 1)) h13)))))
                        none)))))
                (out s0 s1 s2 (IntKind.wrap .i64 (s6 + 1)) r5.2)))))))
    (out s0 s1 s2 (IntKind.wrap .i64 (s6 + 1)) h))
noncomputable def K66_0 (call : Cl) (n : Nat) : Nat → VS → Int → Int → Int → VH → VRes
  | 0, _, _, _, _, _ => none
  | m + 1, s0, s1, s2, s6, h =>
  (cond (decide ((s6 : Int) < s2))
    (K66_1 call n (K66_0 call n m) n s0 s1 s2 s6 s6 h)
    (some (.tup [], h)))
noncomputable def C66 (call : Cl) (n : Nat) (a0 : VS) (a1 : Int) (a2 : Int) (h : VH) : VRes :=
  (K66_0 call n n a0 a1 a2 (IntKind.wrap .i64 (a1 + 1)) h)
noncomputable def D66 (call : Cl) (n : Nat) (args : List V) (h : VH) : VRes :=
  match args with
  | [.sl 3 a0, .int .i64 a1, .int .i64 a2] => C66 call n a0 a1 a2 h
  | args => bodyV P tab call n 66 args h
noncomputable def C72 (call : Cl) (n : Nat) (a0 : Int) (a1 : Int) (h : VH) : VRes :=
  ((callD call P false (.one (.flat .bool)) 85 [.int .i64 a0] h).bind fun r1 =>
    (cond r1.1
      ((callD call P false (.one (.flat .bool)) 85 [.int .i64 a1] r1.2).bind fun r2 =>
        (cond (!r2.1)
          (some (.bool true, r2.2))
          (some (.bool (decide ((a0 : Int) < a1)), r2.2))))
      (some (.bool (decide ((a0 : Int) < a1)), r1.2))))
noncomputable def D72 (call : Cl) (n : Nat) (args : List V) (h : VH) : VRes :=
  match args with
  | [.int .i64 a0, .int .i64 a1] => C72 call n a0 a1 h
  | args => bodyV P tab call n 72 args h
noncomputable def C85 (call : Cl) (n : Nat) (a0 : Int) (h : VH) : VRes :=
  (some (.bool ((a0 : Int) != a0), h))
noncomputable def D85 (call : Cl) (n : Nat) (args : List V) (h : VH) : VRes :=
  match args with
  | [.int .i64 a0] => C85 call n a0 h
  | args => bodyV P tab call n 85 args h
noncomputable def cB (call : Cl) (n : Nat) (f : FuncId) (args : List V) (h : VH) : VRes :=
  cond (Nat.beq f 7) (D7 call n args h) (
  cond (Nat.beq f 11) (D11 call n args h) (
  cond (Nat.beq f 12) (D12 call n args h) (
  cond (Nat.beq f 13) (D13 call n args h) (
  cond (Nat.beq f 14) (D14 call n args h) (
  cond (Nat.beq f 15) (D15 call n args h) (
  cond (Nat.beq f 16) (D16 call n args h) (
  cond (Nat.beq f 17) (D17 call n args h) (
  cond (Nat.beq f 18) (D18 call n args h) (
  cond (Nat.beq f 19) (D19 call n args h) (
  cond (Nat.beq f 20) (D20 call n args h) (
  cond (Nat.beq f 21) (D21 call n args h) (
  cond (Nat.beq f 26) (D26 call n args h) (
  cond (Nat.beq f 27) (D27 call n args h) (
  cond (Nat.beq f 28) (D28 call n args h) (
  cond (Nat.beq f 29) (D29 call n args h) (
  cond (Nat.beq f 30) (D30 call n args h) (
  cond (Nat.beq f 31) (D31 call n args h) (
  cond (Nat.beq f 32) (D32 call n args h) (
  cond (Nat.beq f 33) (D33 call n args h) (
  cond (Nat.beq f 34) (D34 call n args h) (
  cond (Nat.beq f 35) (D35 call n args h) (
  cond (Nat.beq f 36) (D36 call n args h) (
  cond (Nat.beq f 48) (D48 call n args h) (
  cond (Nat.beq f 51) (D51 call n args h) (
  cond (Nat.beq f 56) (D56 call n args h) (
  cond (Nat.beq f 57) (D57 call n args h) (
  cond (Nat.beq f 66) (D66 call n args h) (
  cond (Nat.beq f 72) (D72 call n args h) (
  cond (Nat.beq f 85) (D85 call n args h) (
  bodyV P tab call n f args h))))))))))))))))))))))))))))))
noncomputable def cF : Nat → Cl
  | 0, _, _, _ => none
  | n + 1, f, args, H => alone (tab.lone f) args H (cB (cF n) n f)
theorem k7_2 (n : Nat) : ∀ m, K7_2 (vF P tab n) n m = L7_2 n m := by
  intro m
  induction m with
  | zero => funext s2 s7 s8 s9 s14 h; exact Eq.symm (by kernel_rfl)
  | succ m ih => funext s2 s7 s8 s9 s14 h; rw [L7_2_eq, ← ih]; rfl
theorem k7_1 (n : Nat) : ∀ m, K7_1 (vF P tab n) n m = L7_1 n m := by
  intro m
  induction m with
  | zero => funext s2 s7 s8 s9 s13 h; exact Eq.symm (by kernel_rfl)
  | succ m ih => funext s2 s7 s8 s9 s13 h; rw [L7_1_eq, ← k7_2 n, ← ih]; rfl
theorem k7_0 (n : Nat) : ∀ m, K7_0 (vF P tab n) n m = L7_0 n m := by
  intro m
  induction m with
  | zero => funext s2 s7 s8 s9 s10 s11 h; exact Eq.symm (by kernel_rfl)
  | succ m ih => funext s2 s7 s8 s9 s10 s11 h; rw [L7_0_eq, ← k7_1 n, ← ih]; rfl
theorem c7_eq (n : Nat) (a0 : Int) (a1 : Int) (a2 : Bool) (h : VH) : C7 (vF P tab n) n a0 a1 a2 h = bodyV P tab (vF P tab n) n 7 [.int .u8 a0, .int .u8 a1, .bool a2] h := by
  rw [f7_eq, ← k7_0 n]; rfl
theorem d7_eq (n : Nat) (args : List V) (h : VH) : D7 (vF P tab n) n args h = bodyV P tab (vF P tab n) n 7 args h := by
  unfold D7
  split
  · exact c7_eq ..
  · rfl
theorem c11_eq (n : Nat) (h : VH) : C11 (vF P tab n) n h = bodyV P tab (vF P tab n) n 11 [] h := by
  rw [f11_eq]; rfl
theorem d11_eq (n : Nat) (args : List V) (h : VH) : D11 (vF P tab n) n args h = bodyV P tab (vF P tab n) n 11 args h := by
  unfold D11
  split
  · exact c11_eq ..
  · rfl
theorem c12_eq (n : Nat) (a0 : VP) (a1 : Int) (a2_0 : ByteArray) (a2_1 : Bool) (h : VH) : C12 (vF P tab n) n a0 a1 a2_0 a2_1 h = bodyV P tab (vF P tab n) n 12 [.ptr a0, .int .i64 a1, .agg [.str a2_0, .bool a2_1]] h := by
  rw [f12_eq]; rfl
theorem d12_eq (n : Nat) (args : List V) (h : VH) : D12 (vF P tab n) n args h = bodyV P tab (vF P tab n) n 12 args h := by
  unfold D12
  split
  · exact c12_eq ..
  · rfl
theorem k13_0 (n : Nat) : ∀ m, K13_0 (vF P tab n) n m = L13_0 n m := by
  intro m
  induction m with
  | zero => funext s0 s1 s5 s10 s11 s12 h; exact Eq.symm (by kernel_rfl)
  | succ m ih => funext s0 s1 s5 s10 s11 s12 h; rw [L13_0_eq, ← ih]; rfl
theorem c13_eq (n : Nat) (a0 : VP) (a1 : Int) (h : VH) : C13 (vF P tab n) n a0 a1 h = bodyV P tab (vF P tab n) n 13 [.ptr a0, .int .i64 a1] h := by
  rw [f13_eq, ← k13_0 n]; rfl
theorem d13_eq (n : Nat) (args : List V) (h : VH) : D13 (vF P tab n) n args h = bodyV P tab (vF P tab n) n 13 args h := by
  unfold D13
  split
  · exact c13_eq ..
  · rfl
theorem c14_eq (n : Nat) (a0 : VP) (h : VH) : C14 (vF P tab n) n a0 h = bodyV P tab (vF P tab n) n 14 [.ptr a0] h := by
  rw [f14_eq]; rfl
theorem d14_eq (n : Nat) (args : List V) (h : VH) : D14 (vF P tab n) n args h = bodyV P tab (vF P tab n) n 14 args h := by
  unfold D14
  split
  · exact c14_eq ..
  · rfl
theorem k15_0 (n : Nat) : ∀ m, K15_0 (vF P tab n) n m = L15_0 n m := by
  intro m
  induction m with
  | zero => funext s0 s1 s5 h; exact Eq.symm (by kernel_rfl)
  | succ m ih => funext s0 s1 s5 h; rw [L15_0_eq, ← ih]; rfl
theorem c15_eq (n : Nat) (a0 : VS) (a1 : VS) (h : VH) : C15 (vF P tab n) n a0 a1 h = bodyV P tab (vF P tab n) n 15 [.sl 3 a0, .sl 3 a1] h := by
  rw [f15_eq, ← k15_0 n]; rfl
theorem d15_eq (n : Nat) (args : List V) (h : VH) : D15 (vF P tab n) n args h = bodyV P tab (vF P tab n) n 15 args h := by
  unfold D15
  split
  · exact c15_eq ..
  · rfl
theorem c16_eq (n : Nat) (a0 : VP) (a1 : ByteArray) (h : VH) : C16 (vF P tab n) n a0 a1 h = bodyV P tab (vF P tab n) n 16 [.ptr a0, .str a1] h := by
  rw [f16_eq]; rfl
theorem d16_eq (n : Nat) (args : List V) (h : VH) : D16 (vF P tab n) n args h = bodyV P tab (vF P tab n) n 16 args h := by
  unfold D16
  split
  · exact c16_eq ..
  · rfl
theorem c17_eq (n : Nat) (a0 : VP) (a1 : ByteArray) (h : VH) : C17 (vF P tab n) n a0 a1 h = bodyV P tab (vF P tab n) n 17 [.ptr a0, .str a1] h := by
  rw [f17_eq]; rfl
theorem d17_eq (n : Nat) (args : List V) (h : VH) : D17 (vF P tab n) n args h = bodyV P tab (vF P tab n) n 17 args h := by
  unfold D17
  split
  · exact c17_eq ..
  · rfl
theorem k18_0 (n : Nat) : ∀ m, K18_0 (vF P tab n) n m = L18_0 n m := by
  intro m
  induction m with
  | zero => funext s5 s11 s12 s13 h; exact Eq.symm (by kernel_rfl)
  | succ m ih => funext s5 s11 s12 s13 h; rw [L18_0_eq, ← ih]; rfl
theorem c18_eq (n : Nat) (a0 : VP) (a1 : ByteArray) (h : VH) : C18 (vF P tab n) n a0 a1 h = bodyV P tab (vF P tab n) n 18 [.ptr a0, .str a1] h := by
  rw [f18_eq, ← k18_0 n]; rfl
theorem d18_eq (n : Nat) (args : List V) (h : VH) : D18 (vF P tab n) n args h = bodyV P tab (vF P tab n) n 18 args h := by
  unfold D18
  split
  · exact c18_eq ..
  · rfl
theorem c19_eq (n : Nat) (a0_0 : Int) (a0_1 : Int) (a0_2 : Int) (h : VH) : C19 (vF P tab n) n a0_0 a0_1 a0_2 h = bodyV P tab (vF P tab n) n 19 [.agg [.int .u8 a0_0, .int .u8 a0_1, .int .u8 a0_2]] h := by
  rw [f19_eq]; rfl
theorem d19_eq (n : Nat) (args : List V) (h : VH) : D19 (vF P tab n) n args h = bodyV P tab (vF P tab n) n 19 args h := by
  unfold D19
  split
  · exact c19_eq ..
  · rfl
theorem k20_0 (n : Nat) : ∀ m, K20_0 (vF P tab n) n m = L20_0 n m := by
  intro m
  induction m with
  | zero => funext s1 s4 s6 s7 s25 s26 s27 h; exact Eq.symm (by kernel_rfl)
  | succ m ih => funext s1 s4 s6 s7 s25 s26 s27 h; rw [L20_0_eq, ← ih]; rfl
theorem c20_eq (n : Nat) (a0 : VP) (a1 : Int) (h : VH) : C20 (vF P tab n) n a0 a1 h = bodyV P tab (vF P tab n) n 20 [.ptr a0, .int .i64 a1] h := by
  rw [f20_eq, ← k20_0 n]; rfl
theorem d20_eq (n : Nat) (args : List V) (h : VH) : D20 (vF P tab n) n args h = bodyV P tab (vF P tab n) n 20 args h := by
  unfold D20
  split
  · exact c20_eq ..
  · rfl
theorem k21_1 (n : Nat) : ∀ m, K21_1 (vF P tab n) n m = L21_1 n m := by
  intro m
  induction m with
  | zero => funext s1 s8 s58 s59 s60 h; exact Eq.symm (by kernel_rfl)
  | succ m ih => funext s1 s8 s58 s59 s60 h; rw [L21_1_eq, ← ih]; rfl
theorem k21_0 (n : Nat) : ∀ m, K21_0 (vF P tab n) n m = L21_0 n m := by
  intro m
  induction m with
  | zero => funext s1 s5 s7 s8 s31 s32 s33 h; exact Eq.symm (by kernel_rfl)
  | succ m ih => funext s1 s5 s7 s8 s31 s32 s33 h; rw [L21_0_eq, ← k21_1 n, ← ih]; rfl
theorem c21_eq (n : Nat) (a0 : VP) (a1 : Int) (h : VH) : C21 (vF P tab n) n a0 a1 h = bodyV P tab (vF P tab n) n 21 [.ptr a0, .int .i64 a1] h := by
  rw [f21_eq, ← k21_0 n]; rfl
theorem d21_eq (n : Nat) (args : List V) (h : VH) : D21 (vF P tab n) n args h = bodyV P tab (vF P tab n) n 21 args h := by
  unfold D21
  split
  · exact c21_eq ..
  · rfl
theorem c26_eq (n : Nat) (a0 : VP) (a1 : ByteArray) (h : VH) : C26 (vF P tab n) n a0 a1 h = bodyV P tab (vF P tab n) n 26 [.ptr a0, .str a1] h := by
  rw [f26_eq]; rfl
theorem d26_eq (n : Nat) (args : List V) (h : VH) : D26 (vF P tab n) n args h = bodyV P tab (vF P tab n) n 26 args h := by
  unfold D26
  split
  · exact c26_eq ..
  · rfl
theorem c27_eq (n : Nat) (a0 : VS) (a1 : Int) (h : VH) : C27 (vF P tab n) n a0 a1 h = bodyV P tab (vF P tab n) n 27 [.sl 3 a0, .int .i64 a1] h := by
  rw [f27_eq]; rfl
theorem d27_eq (n : Nat) (args : List V) (h : VH) : D27 (vF P tab n) n args h = bodyV P tab (vF P tab n) n 27 args h := by
  unfold D27
  split
  · exact c27_eq ..
  · rfl
theorem c28_eq (n : Nat) (a0 : VP) (a1_0 : Int) (a1_1 : Bool) (a1_2 : Bool) (h : VH) : C28 (vF P tab n) n a0 a1_0 a1_1 a1_2 h = bodyV P tab (vF P tab n) n 28 [.ptr a0, .agg [.int .i64 a1_0, .bool a1_1, .bool a1_2]] h := by
  rw [f28_eq]; rfl
theorem d28_eq (n : Nat) (args : List V) (h : VH) : D28 (vF P tab n) n args h = bodyV P tab (vF P tab n) n 28 args h := by
  unfold D28
  split
  · exact c28_eq ..
  · rfl
theorem c29_eq (n : Nat) (a0 : VP) (a1_0 : Int) (a1_1 : Bool) (a1_2 : Bool) (h : VH) : C29 (vF P tab n) n a0 a1_0 a1_1 a1_2 h = bodyV P tab (vF P tab n) n 29 [.ptr a0, .agg [.int .i64 a1_0, .bool a1_1, .bool a1_2]] h := by
  rw [f29_eq]; rfl
theorem d29_eq (n : Nat) (args : List V) (h : VH) : D29 (vF P tab n) n args h = bodyV P tab (vF P tab n) n 29 args h := by
  unfold D29
  split
  · exact c29_eq ..
  · rfl
theorem k30_0 (n : Nat) : ∀ m, K30_0 (vF P tab n) n m = L30_0 n m := by
  intro m
  induction m with
  | zero => funext s0 s1 s5 s6 s7 h; exact Eq.symm (by kernel_rfl)
  | succ m ih => funext s0 s1 s5 s6 s7 h; rw [L30_0_eq, ← ih]; rfl
theorem c30_eq (n : Nat) (a0 : VP) (a1 : ByteArray) (a2_0 : Int) (a2_1 : Bool) (a2_2 : Bool) (h : VH) : C30 (vF P tab n) n a0 a1 a2_0 a2_1 a2_2 h = bodyV P tab (vF P tab n) n 30 [.ptr a0, .str a1, .agg [.int .i64 a2_0, .bool a2_1, .bool a2_2]] h := by
  rw [f30_eq, ← k30_0 n]; rfl
theorem d30_eq (n : Nat) (args : List V) (h : VH) : D30 (vF P tab n) n args h = bodyV P tab (vF P tab n) n 30 args h := by
  unfold D30
  split
  · exact c30_eq ..
  · rfl
theorem c31_eq (n : Nat) (a0 : VP) (h : VH) : C31 (vF P tab n) n a0 h = bodyV P tab (vF P tab n) n 31 [.ptr a0] h := by
  rw [f31_eq]; rfl
theorem d31_eq (n : Nat) (args : List V) (h : VH) : D31 (vF P tab n) n args h = bodyV P tab (vF P tab n) n 31 args h := by
  unfold D31
  split
  · exact c31_eq ..
  · rfl
theorem c32_eq (n : Nat) (a0 : VP) (a1 : Int) (h : VH) : C32 (vF P tab n) n a0 a1 h = bodyV P tab (vF P tab n) n 32 [.ptr a0, .int .i64 a1] h := by
  rw [f32_eq]; rfl
theorem d32_eq (n : Nat) (args : List V) (h : VH) : D32 (vF P tab n) n args h = bodyV P tab (vF P tab n) n 32 args h := by
  unfold D32
  split
  · exact c32_eq ..
  · rfl
theorem k33_0 (n : Nat) : ∀ m, K33_0 (vF P tab n) n m = L33_0 n m := by
  intro m
  induction m with
  | zero => funext s0 s1 s5 h; exact Eq.symm (by kernel_rfl)
  | succ m ih => funext s0 s1 s5 h; rw [L33_0_eq, ← ih]; rfl
theorem c33_eq (n : Nat) (a0 : VP) (a1 : VP) (h : VH) : C33 (vF P tab n) n a0 a1 h = bodyV P tab (vF P tab n) n 33 [.ptr a0, .ptr a1] h := by
  rw [f33_eq, ← k33_0 n]; rfl
theorem d33_eq (n : Nat) (args : List V) (h : VH) : D33 (vF P tab n) n args h = bodyV P tab (vF P tab n) n 33 args h := by
  unfold D33
  split
  · exact c33_eq ..
  · rfl
theorem c34_eq (n : Nat) (a0 : VP) (a1 : ByteArray) (h : VH) : C34 (vF P tab n) n a0 a1 h = bodyV P tab (vF P tab n) n 34 [.ptr a0, .str a1] h := by
  rw [f34_eq]; rfl
theorem d34_eq (n : Nat) (args : List V) (h : VH) : D34 (vF P tab n) n args h = bodyV P tab (vF P tab n) n 34 args h := by
  unfold D34
  split
  · exact c34_eq ..
  · rfl
theorem c35_eq (n : Nat) (a0 : VS) (h : VH) : C35 (vF P tab n) n a0 h = bodyV P tab (vF P tab n) n 35 [.sl 3 a0] h := by
  rw [f35_eq]; rfl
theorem d35_eq (n : Nat) (args : List V) (h : VH) : D35 (vF P tab n) n args h = bodyV P tab (vF P tab n) n 35 args h := by
  unfold D35
  split
  · exact c35_eq ..
  · rfl
theorem c36_eq (n : Nat) (a0 : VS) (h : VH) : C36 (vF P tab n) n a0 h = bodyV P tab (vF P tab n) n 36 [.sl 3 a0] h := by
  rw [f36_eq]; rfl
theorem d36_eq (n : Nat) (args : List V) (h : VH) : D36 (vF P tab n) n args h = bodyV P tab (vF P tab n) n 36 args h := by
  unfold D36
  split
  · exact c36_eq ..
  · rfl
theorem k48_0 (n : Nat) : ∀ m, K48_0 (vF P tab n) n m = L48_0 n m := by
  intro m
  induction m with
  | zero => funext s0 s1 s7 s8 h; exact Eq.symm (by kernel_rfl)
  | succ m ih => funext s0 s1 s7 s8 h; rw [L48_0_eq, ← ih]; rfl
theorem c48_eq (n : Nat) (a0 : VS) (a1 : Int) (h : VH) : C48 (vF P tab n) n a0 a1 h = bodyV P tab (vF P tab n) n 48 [.sl 3 a0, .int .i64 a1] h := by
  rw [f48_eq, ← k48_0 n]; rfl
theorem d48_eq (n : Nat) (args : List V) (h : VH) : D48 (vF P tab n) n args h = bodyV P tab (vF P tab n) n 48 args h := by
  unfold D48
  split
  · exact c48_eq ..
  · rfl
theorem c51_eq (n : Nat) (a0 : Option Nat) (h : VH) : C51 (vF P tab n) n a0 h = bodyV P tab (vF P tab n) n 51 [.map a0] h := by
  rw [f51_eq]; rfl
theorem d51_eq (n : Nat) (args : List V) (h : VH) : D51 (vF P tab n) n args h = bodyV P tab (vF P tab n) n 51 args h := by
  unfold D51
  split
  · exact c51_eq ..
  · rfl
theorem k56_0 (n : Nat) : ∀ m, K56_0 (vF P tab n) n m = L56_0 n m := by
  intro m
  induction m with
  | zero => funext s0 s1 s2 s3 s8 s9 h; exact Eq.symm (by kernel_rfl)
  | succ m ih => funext s0 s1 s2 s3 s8 s9 h; rw [L56_0_eq, ← ih]; rfl
theorem c56_eq (n : Nat) (a0 : VS) (a1 : Int) (a2 : Int) (a3 : Int) (h : VH) : C56 (vF P tab n) n a0 a1 a2 a3 h = bodyV P tab (vF P tab n) n 56 [.sl 3 a0, .int .i64 a1, .int .i64 a2, .int .i64 a3] h := by
  rw [f56_eq, ← k56_0 n]; rfl
theorem d56_eq (n : Nat) (args : List V) (h : VH) : D56 (vF P tab n) n args h = bodyV P tab (vF P tab n) n 56 args h := by
  unfold D56
  split
  · exact c56_eq ..
  · rfl
theorem c57_eq (n : Nat) (a0 : Int) (h : VH) : C57 (vF P tab n) n a0 h = bodyV P tab (vF P tab n) n 57 [.int .u64 a0] h := by
  rw [f57_eq]; rfl
theorem d57_eq (n : Nat) (args : List V) (h : VH) : D57 (vF P tab n) n args h = bodyV P tab (vF P tab n) n 57 args h := by
  unfold D57
  split
  · exact c57_eq ..
  · rfl
theorem k66_1 (n m0 : Nat) : ∀ m, K66_1 (vF P tab n) n (L66_0 n m0) m = L66_1 n m0 m := by
  intro m
  induction m with
  | zero => funext s0 s1 s2 s6 s7 h; exact Eq.symm (by kernel_rfl)
  | succ m ih => funext s0 s1 s2 s6 s7 h; rw [L66_1_eq, ← ih]; rfl
theorem k66_0 (n : Nat) : ∀ m, K66_0 (vF P tab n) n m = L66_0 n m := by
  intro m
  induction m with
  | zero => funext s0 s1 s2 s6 h; exact Eq.symm (by kernel_rfl)
  | succ m ih => funext s0 s1 s2 s6 h; rw [L66_0_eq, ← k66_1 n m, ← ih]; rfl
theorem c66_eq (n : Nat) (a0 : VS) (a1 : Int) (a2 : Int) (h : VH) : C66 (vF P tab n) n a0 a1 a2 h = bodyV P tab (vF P tab n) n 66 [.sl 3 a0, .int .i64 a1, .int .i64 a2] h := by
  rw [f66_eq, ← k66_0 n]; rfl
theorem d66_eq (n : Nat) (args : List V) (h : VH) : D66 (vF P tab n) n args h = bodyV P tab (vF P tab n) n 66 args h := by
  unfold D66
  split
  · exact c66_eq ..
  · rfl
theorem c72_eq (n : Nat) (a0 : Int) (a1 : Int) (h : VH) : C72 (vF P tab n) n a0 a1 h = bodyV P tab (vF P tab n) n 72 [.int .i64 a0, .int .i64 a1] h := by
  rw [f72_eq]; rfl
theorem d72_eq (n : Nat) (args : List V) (h : VH) : D72 (vF P tab n) n args h = bodyV P tab (vF P tab n) n 72 args h := by
  unfold D72
  split
  · exact c72_eq ..
  · rfl
theorem c85_eq (n : Nat) (a0 : Int) (h : VH) : C85 (vF P tab n) n a0 h = bodyV P tab (vF P tab n) n 85 [.int .i64 a0] h := by
  rw [f85_eq]; rfl
theorem d85_eq (n : Nat) (args : List V) (h : VH) : D85 (vF P tab n) n args h = bodyV P tab (vF P tab n) n 85 args h := by
  unfold D85
  split
  · exact c85_eq ..
  · rfl
theorem cB_eq (n : Nat) (f : FuncId) (args : List V) (h : VH) : cB (vF P tab n) n f args h = bodyV P tab (vF P tab n) n f args h := by
  unfold cB
  cases h7 : Nat.beq f 7 with
  | true => rw [cond_true, Nat.eq_of_beq_eq_true h7]; exact d7_eq ..
  | false =>
  rw [cond_false]
  cases h11 : Nat.beq f 11 with
  | true => rw [cond_true, Nat.eq_of_beq_eq_true h11]; exact d11_eq ..
  | false =>
  rw [cond_false]
  cases h12 : Nat.beq f 12 with
  | true => rw [cond_true, Nat.eq_of_beq_eq_true h12]; exact d12_eq ..
  | false =>
  rw [cond_false]
  cases h13 : Nat.beq f 13 with
  | true => rw [cond_true, Nat.eq_of_beq_eq_true h13]; exact d13_eq ..
  | false =>
  rw [cond_false]
  cases h14 : Nat.beq f 14 with
  | true => rw [cond_true, Nat.eq_of_beq_eq_true h14]; exact d14_eq ..
  | false =>
  rw [cond_false]
  cases h15 : Nat.beq f 15 with
  | true => rw [cond_true, Nat.eq_of_beq_eq_true h15]; exact d15_eq ..
  | false =>
  rw [cond_false]
  cases h16 : Nat.beq f 16 with
  | true => rw [cond_true, Nat.eq_of_beq_eq_true h16]; exact d16_eq ..
  | false =>
  rw [cond_false]
  cases h17 : Nat.beq f 17 with
  | true => rw [cond_true, Nat.eq_of_beq_eq_true h17]; exact d17_eq ..
  | false =>
  rw [cond_false]
  cases h18 : Nat.beq f 18 with
  | true => rw [cond_true, Nat.eq_of_beq_eq_true h18]; exact d18_eq ..
  | false =>
  rw [cond_false]
  cases h19 : Nat.beq f 19 with
  | true => rw [cond_true, Nat.eq_of_beq_eq_true h19]; exact d19_eq ..
  | false =>
  rw [cond_false]
  cases h20 : Nat.beq f 20 with
  | true => rw [cond_true, Nat.eq_of_beq_eq_true h20]; exact d20_eq ..
  | false =>
  rw [cond_false]
  cases h21 : Nat.beq f 21 with
  | true => rw [cond_true, Nat.eq_of_beq_eq_true h21]; exact d21_eq ..
  | false =>
  rw [cond_false]
  cases h26 : Nat.beq f 26 with
  | true => rw [cond_true, Nat.eq_of_beq_eq_true h26]; exact d26_eq ..
  | false =>
  rw [cond_false]
  cases h27 : Nat.beq f 27 with
  | true => rw [cond_true, Nat.eq_of_beq_eq_true h27]; exact d27_eq ..
  | false =>
  rw [cond_false]
  cases h28 : Nat.beq f 28 with
  | true => rw [cond_true, Nat.eq_of_beq_eq_true h28]; exact d28_eq ..
  | false =>
  rw [cond_false]
  cases h29 : Nat.beq f 29 with
  | true => rw [cond_true, Nat.eq_of_beq_eq_true h29]; exact d29_eq ..
  | false =>
  rw [cond_false]
  cases h30 : Nat.beq f 30 with
  | true => rw [cond_true, Nat.eq_of_beq_eq_true h30]; exact d30_eq ..
  | false =>
  rw [cond_false]
  cases h31 : Nat.beq f 31 with
  | true => rw [cond_true, Nat.eq_of_beq_eq_true h31]; exact d31_eq ..
  | false =>
  rw [cond_false]
  cases h32 : Nat.beq f 32 with
  | true => rw [cond_true, Nat.eq_of_beq_eq_true h32]; exact d32_eq ..
  | false =>
  rw [cond_false]
  cases h33 : Nat.beq f 33 with
  | true => rw [cond_true, Nat.eq_of_beq_eq_true h33]; exact d33_eq ..
  | false =>
  rw [cond_false]
  cases h34 : Nat.beq f 34 with
  | true => rw [cond_true, Nat.eq_of_beq_eq_true h34]; exact d34_eq ..
  | false =>
  rw [cond_false]
  cases h35 : Nat.beq f 35 with
  | true => rw [cond_true, Nat.eq_of_beq_eq_true h35]; exact d35_eq ..
  | false =>
  rw [cond_false]
  cases h36 : Nat.beq f 36 with
  | true => rw [cond_true, Nat.eq_of_beq_eq_true h36]; exact d36_eq ..
  | false =>
  rw [cond_false]
  cases h48 : Nat.beq f 48 with
  | true => rw [cond_true, Nat.eq_of_beq_eq_true h48]; exact d48_eq ..
  | false =>
  rw [cond_false]
  cases h51 : Nat.beq f 51 with
  | true => rw [cond_true, Nat.eq_of_beq_eq_true h51]; exact d51_eq ..
  | false =>
  rw [cond_false]
  cases h56 : Nat.beq f 56 with
  | true => rw [cond_true, Nat.eq_of_beq_eq_true h56]; exact d56_eq ..
  | false =>
  rw [cond_false]
  cases h57 : Nat.beq f 57 with
  | true => rw [cond_true, Nat.eq_of_beq_eq_true h57]; exact d57_eq ..
  | false =>
  rw [cond_false]
  cases h66 : Nat.beq f 66 with
  | true => rw [cond_true, Nat.eq_of_beq_eq_true h66]; exact d66_eq ..
  | false =>
  rw [cond_false]
  cases h72 : Nat.beq f 72 with
  | true => rw [cond_true, Nat.eq_of_beq_eq_true h72]; exact d72_eq ..
  | false =>
  rw [cond_false]
  cases h85 : Nat.beq f 85 with
  | true => rw [cond_true, Nat.eq_of_beq_eq_true h85]; exact d85_eq ..
  | false =>
  rw [cond_false]
theorem cF_eq : ∀ n, cF n = vF P tab n
  | 0 => rfl
  | n + 1 => by
    funext f args H
    show alone (tab.lone f) args H (cB (cF n) n f) = alone (tab.lone f) args H (bodyV P tab (vF P tab n) n f)
    rw [cF_eq n]
    congr 1
    funext args h
    exact cB_eq n f args h
end Go.Proofs.Ytgmgpandhaeniaa
