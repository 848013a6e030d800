import Derived.Test.YtgmgpandhaeniaaB14b
set_option maxRecDepth 100000
set_option linter.unusedVariables false
set_option linter.unusedSimpArgs false
namespace Go.Proofs.Ytgmgpandhaeniaa
open Go.Proofs.Ytgmgpandhaeniaa.Sh Go.Proofs.Ytgmgpandhaeniaa.Sh.V Go.RowKit
/-! ### Acts -/
structure Ac where
  o : Nat
  k : Nat
  d : Nat
def Ac.cells (a : Ac) : List V := [.int .u8 (a.o : Int), .int .u8 (a.k : Int), .int .u8 (a.d : Int)]
def Ac.ok (a : Ac) : Prop := a.o < 256 ∧ a.k < 256 ∧ a.d < 256
theorem ac_cells {d : Nat} {y : List V} (h : HasT P d 39 y) : ∃ x : Ac, x.ok ∧ y = x.cells := by
  obtain ⟨d', _, hl, hf⟩ := hasT_sh [(5, 0, 1), (5, 1, 1), (5, 2, 1)] (sz := 3) (by kernel_rfl) (by kernel_rfl) (by simp) h
  obtain ⟨a, h0, w0⟩ := hasT_int (k := .u8) (by kernel_rfl) (hf (5, 0, 1) (by simp))
  obtain ⟨s, h1, w1⟩ := hasT_int (k := .u8) (by kernel_rfl) (hf (5, 1, 1) (by simp))
  obtain ⟨b, h2, w2⟩ := hasT_int (k := .u8) (by kernel_rfl) (hf (5, 2, 1) (by simp))
  match y, hl with
  | [y0, y1, y2], _ =>
    simp only [List.drop_zero, List.drop_succ_cons, List.take_succ_cons, List.take_zero, List.cons.injEq, and_true] at h0 h1 h2
    subst h0 h1 h2
    obtain ⟨p1, p2⟩ := wf_u8 w0
    obtain ⟨p3, p4⟩ := wf_u8 w1
    obtain ⟨p5, p6⟩ := wf_u8 w2
    refine ⟨⟨a.toNat, s.toNat, b.toNat⟩, ⟨by simp only; omega, by simp only; omega, by simp only; omega⟩, ?_⟩
    unfold Ac.cells
    simp only
    rw [Int.toNat_of_nonneg p1, Int.toNat_of_nonneg p3, Int.toNat_of_nonneg p5]
def kb (j : Nat) : ByteArray := ⟨#[UInt8.ofNat (97 + j)]⟩
theorem e19 (n : Nat) {a : Ac} (ha : a.ok) (H : VH) : vF P tab (n + 1) 19 [.agg a.cells] H = some (.tup [.str (kb (a.k % 4)), .bool (decide (a.d / 4 % 2 = 0))], H) := by
  have hb : ∃ H', bodyV P tab (vF P tab n) n 19 [.agg a.cells] [] = some (.tup [.str (kb (a.k % 4)), .bool (decide (a.d / 4 % 2 = 0))], H') := by
    show ∃ H', bodyV P tab (vF P tab n) n 19 [.agg [.int .u8 (a.o : Int), .int .u8 (a.k : Int), .int .u8 (a.d : Int)]] [] = _
    obtain ⟨h1, h2, h3⟩ := ha
    rw [f19_eq]
    have hrow : ([] ++ [VO.row (39 + boxK) [.int .u8 (a.o : Int), .int .u8 (a.k : Int), .int .u8 (a.d : Int)]] : VH)[0]? = some (.row (39 + boxK) [.int .u8 (a.o : Int), .int .u8 (a.k : Int), .int .u8 (a.d : Int)]) := rfl
    simp only [List.length_nil]
    rw [ld_row hrow, ld_row hrow]
    show ∃ H', (Option.bind (V.fdec (.int .u8) (.int .u8 (a.k : Int))) _) = _
    rw [fd_int, Option.bind_some, show (4 : Int) = ((4 : Nat) : Int) from rfl, remI_nat (by decide), Option.bind_some]
    have hw : IntKind.wrap .u8 (97 + ((a.k % 4 : Nat) : Int)) = (((UInt8.ofNat (97 + a.k % 4)).toNat : Nat) : Int) := by
      have e : (97 : Int) + ((a.k % 4 : Nat) : Int) = ((97 + a.k % 4 : Nat) : Int) := by omega
      rw [e, wrap_u8_nat (by omega), UInt8.toNat_ofNat']
      congr 1; omega
    rw [hw]
    have hB : IsB (.fz [[.int .u8 (((UInt8.ofNat (97 + a.k % 4)).toNat : Nat) : Int)]] (.ex 1)) [UInt8.ofNat (97 + a.k % 4)] := IsE.fz (bs [UInt8.ofNat (97 + a.k % 4)]) _
    rw [hB.str, Option.bind_some]
    show ∃ H', (Option.bind (V.fdec (.int .u8) (.int .u8 (a.d : Int))) _) = _
    rw [fd_int, Option.bind_some, quoI_nat (by decide) (by rw [wrap_u8_nat (by omega)]), Option.bind_some, show (2 : Int) = ((2 : Nat) : Int) from rfl, remI_nat (by decide), Option.bind_some]
    have e : ((((a.d / 4 % 2 : Nat) : Int)) == 0) = decide (a.d / 4 % 2 = 0) := by
      by_cases h : a.d / 4 % 2 = 0
      · rw [h]; rfl
      · rw [decide_eq_false h, beq_eq_false_iff_ne]; omega
    rw [e]
    exact ⟨_, rfl⟩
  obtain ⟨H', h⟩ := hb
  exact vF_lone (r := .tup [.str (kb (a.k % 4)), .bool (decide (a.d / 4 % 2 = 0))]) (H1 := H') rfl rfl h rfl
theorem c19 (n : Nat) {a : Ac} (ha : a.ok) (H : VH) : callD (vF P tab (n + 1)) P false (.tup [(.flat .str), (.flat .bool)]) 19 [.agg [.int .u8 (a.o : Int), .int .u8 (a.k : Int), .int .u8 (a.d : Int)]] H = some ((kb (a.k % 4), decide (a.d / 4 % 2 = 0), ()), H) := callD_some _ (e19 n ha H) rfl
end Go.Proofs.Ytgmgpandhaeniaa
