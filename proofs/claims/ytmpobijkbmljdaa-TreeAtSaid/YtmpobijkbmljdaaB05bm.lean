import Derived.Test.YtmpobijkbmljdaaB05bl
import Derived.Test.YtmpobijkbmljdaaB05bk
set_option maxRecDepth 100000
set_option linter.unusedVariables false
set_option linter.unusedSimpArgs false
namespace Go.Proofs.Ytmpobijkbmljdaa
open Go.Proofs.Ytmpobijkbmljdaa.Sh Go.Proofs.Ytmpobijkbmljdaa.Sh.V Go.RowKit
/-! ### TreeAt -/
theorem slotBox (H : VH) (k : Nat) (s1 s2 s3 : VS) (run : Bool) (st : Nat) (tg : List UInt8) {β : Type} (f : VH → Option β) : ∃ H', ((slotD (H ++ [.slot]) H.length (27 + boxK) [.int .u8 0, .sl 9 .nil, .sl 27 .nil, .sl 5 .nil, .bool false, .flt .f64 0, .str ⟨#[]⟩]).bind fun h7 => ((stV h7 (.ob H.length 0) [.int .u8 (k : Int), .sl 9 s1, .sl 27 s2, .sl 5 s3, .bool run, .flt .f64 st, .str ⟨tg.toArray⟩]).bind f)) = f H' ∧ H'[H.length]? = some (.row NT (cellsN k s1 s2 s3 run st tg)) ∧ (∀ (i : Nat) c, H[i]? = some c → H'[i]? = some c) := by
  have hs : (H ++ [VO.slot])[H.length]? = some .slot := by simp
  have h2 : ((H ++ [VO.slot]).set H.length (.row NT ZN))[H.length]? = some (.row NT ZN) := by rw [List.getElem?_set_self (by simp)]
  refine ⟨((H ++ [VO.slot]).set H.length (.row NT ZN)).set H.length (.row NT (cellsN k s1 s2 s3 run st tg)), ?_, ?_, fun i c h => ?_⟩
  · rw [slotD_of hs, Option.bind_some, st_row h2 (by simp) rfl, Option.bind_some]
    rfl
  · rw [List.getElem?_set_self (by simp)]
  · have hi := (List.getElem?_eq_some_iff.1 h).1
    rw [List.getElem?_set_ne (by omega), List.getElem?_set_ne (by omega), List.getElem?_append_left hi]
    exact h
theorem at1 (k : Nat) (s1 s2 s3 : VS) (run : Bool) (st : Nat) (tg : List UInt8) : atO (.fz (cellsN k s1 s2 s3 run st tg)) 1 = some (.fz [.sl 9 s1, .sl 27 s2, .sl 5 s3, .bool run, .flt .f64 st, .str ⟨tg.toArray⟩]) := rfl
theorem at2 (k : Nat) (s1 s2 s3 : VS) (run : Bool) (st : Nat) (tg : List UInt8) : atO (.fz (cellsN k s1 s2 s3 run st tg)) 2 = some (.fz [.sl 27 s2, .sl 5 s3, .bool run, .flt .f64 st, .str ⟨tg.toArray⟩]) := rfl
theorem ld9 (H : VH) (s : VS) (l : List V) : ldV (.flat (.slice 9)) H (.fz (.sl 9 s :: l)) = some s := fd_sl 9 s
theorem ld27 (H : VH) (s : VS) (l : List V) : ldV (.flat (.slice 27)) H (.fz (.sl 27 s :: l)) = some s := fd_sl 27 s
theorem catS_of (a b : List UInt8) (h : a.length + b.length < 1000000) : catS ⟨a.toArray⟩ ⟨b.toArray⟩ = some ⟨(a ++ b).toArray⟩ := by
  unfold catS
  rw [if_pos (by simp [ByteArray.size]; omega)]
  apply congrArg some
  apply ByteArray.ext
  simp
theorem at_some {D : Nat} {o : Option Nd} {y : Nd} {cs : List V} {b : Bool} (h : ResN D o cs b) (ho : o = some y) : b = true ∧ NC D y cs := by subst ho; exact h
theorem at_none {D : Nat} {o : Option Nd} {cs : List V} {b : Bool} (h : ResN D o cs b) (ho : o = none) : b = false := by subst ho; exact h.1
end Go.Proofs.Ytmpobijkbmljdaa
