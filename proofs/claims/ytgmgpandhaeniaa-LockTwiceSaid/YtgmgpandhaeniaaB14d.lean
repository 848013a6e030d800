import Derived.Test.YtgmgpandhaeniaaB14c
set_option maxRecDepth 100000
set_option linter.unusedVariables false
set_option linter.unusedSimpArgs false
namespace Go.Proofs.Ytgmgpandhaeniaa
open Go.Proofs.Ytgmgpandhaeniaa.Sh Go.Proofs.Ytgmgpandhaeniaa.Sh.V Go.RowKit
/-! ### LockTwice: what comes behind the keys -/
noncomputable def rest6 (n : Nat) (k1 : ByteArray) (b1 : Bool) (k2 : ByteArray) (b2 only : Bool) (t : VP) (h : VH) : VRes :=
  ((callD (vF P tab n) P false (.one (.flat .bool)) 12 [.ptr t, .int .i64 1, .agg [.str k1, .bool b1]] h).bind fun r7 =>
                  (cond (!r7.1)
                    (some (.bool false, r7.2))
                    ((callD (vF P tab n) P false (.one (.flat .bool)) 12 [.ptr t, .int .i64 1, .agg [.str k1, .bool b1]] r7.2).bind fun r8 =>
                      (cond (!r8.1)
                        (some (.bool false, r8.2))
                        ((callD (vF P tab n) P false (.one (.flat .bool)) 12 [.ptr t, .int .i64 1, .agg [.str k1, .bool false]] r8.2).bind fun r9 =>
                        (cond (!r9.1)
                        (some (.bool false, r9.2))
                        ((callD (vF P tab n) P false (.one (.flat .bool)) 12 [.ptr t, .int .i64 2, .agg [.str ⟨#[122]⟩, .bool true]] r9.2).bind fun r10 =>
                        ((callD (vF P tab n) P false (.one (.flat .bool)) 12 [.ptr t, .int .i64 1, .agg [.str ⟨#[122]⟩, .bool only]] r10.2).bind fun r11 =>
                        ((callD (vF P tab n) P false (.one (.flat .bool)) 12 [.ptr t, .int .i64 1, .agg [.str k2, .bool b2]] r11.2).bind fun r12 =>
                        ((callD (vF P tab n) P false (.tup [(.agg [.str, .bool]), (.flat .bool)]) 20 [.ptr t, .int .i64 1] r12.2).bind fun r13 =>
                        ((stV (r13.2 ++ [.row (28 + boxK) [.str ⟨#[]⟩, .bool false]]) (.ob r13.2.length 0) [.str r13.1.1.1, .bool r13.1.1.2.1]).bind fun h14 =>
                        (cond (!r11.1)
                        (cond (!r12.1)
                        (cond r13.1.2.1
                        ((ldV (.flat .str) h14 (.ob r13.2.length 0)).bind fun x15 =>
                        (cond (strEq x15 ⟨#[122]⟩)
                        ((ldV (.flat .bool) h14 (.ob r13.2.length 1)).bind fun x16 =>
                        (cond (x16 == only)
                        ((callD (vF P tab n) P false (.one (.flat (.slice 3))) 21 [.ptr t, .int .i64 1] h14).bind fun r17 =>
                        ((callD (vF P tab n) P false (.one (.flat .bool)) 15 [.sl 3 r17.1, .sl 3 (.fz [[.int .i64 2]] (.ex 1))] r17.2).bind fun r18 =>
                        (cond r18.1
                        ((callD (vF P tab n) P false (.one (.flat (.slice 3))) 13 [.ptr t, .int .i64 1] r18.2).bind fun r19 =>
                        (cond ((((VS.len r19.1 : Nat) : Int) : Int) == 0)
                        ((callD (vF P tab n) P false (.one (.flat (.int .i64))) 14 [.ptr t] r19.2).bind fun r20 =>
                        (some (.bool ((r20.1 : Int) == 1), r20.2)))
                        (some (.bool false, r19.2))))
                        (some (.bool false, r18.2)))))
                        (some (.bool false, h14))))
                        (some (.bool false, h14))))
                        (some (.bool false, h14)))
                        (some (.bool false, h14)))
                        (some (.bool false, h14))))))))))))))
abbrev hpT (o k d o' k' d' : Int) : VH := [.row (39 + boxK) [.int .u8 o, .int .u8 k, .int .u8 d], .row (39 + boxK) [.int .u8 o', .int .u8 k', .int .u8 d'], .map .str [], .map (.int .i64) [], .row (62 + boxK) [.map (some 2), .map (some 3)]]
theorem twice00 (o k d o' k' d' : Int) (k2 : ByteArray) (b2 : Bool) : (List.all [0, 1, 2, 3] fun i => okB (rest6 60 (kb i) false k2 b2 false (.ob 4 0) (hpT o k d o' k' d'))) = true := by kernel_rfl
theorem twice01 (o k d o' k' d' : Int) (k2 : ByteArray) (b2 : Bool) : (List.all [0, 1, 2, 3] fun i => okB (rest6 60 (kb i) false k2 b2 true (.ob 4 0) (hpT o k d o' k' d'))) = true := by kernel_rfl
theorem twice10 (o k d o' k' d' : Int) (k2 : ByteArray) (b2 : Bool) : (List.all [0, 1, 2, 3] fun i => okB (rest6 60 (kb i) true k2 b2 false (.ob 4 0) (hpT o k d o' k' d'))) = true := by kernel_rfl
theorem twice11 (o k d o' k' d' : Int) (k2 : ByteArray) (b2 : Bool) : (List.all [0, 1, 2, 3] fun i => okB (rest6 60 (kb i) true k2 b2 true (.ob 4 0) (hpT o k d o' k' d'))) = true := by kernel_rfl
end Go.Proofs.Ytgmgpandhaeniaa
