import Derived.Test.YtmpobijkbmljdaaB05v
set_option maxRecDepth 100000
set_option linter.unusedVariables false
set_option linter.unusedSimpArgs false
namespace Go.Proofs.Ytmpobijkbmljdaa
open Go.Proofs.Ytmpobijkbmljdaa.Sh Go.Proofs.Ytmpobijkbmljdaa.Sh.V Go.RowKit
/-! ### Lists that are handed in -/
structure MW (y : List V) : Prop where
  ex : ∃ (up kind name : Nat) (s : VS) (data : List UInt8) (run : Bool) (st : Nat), y = [.int .u8 (up : Int), .int .u8 (kind : Int), .int .u8 (name : Int), .sl 5 s, .bool run, .flt .f64 st] ∧ IsB s data ∧ data.length ≤ maxLen ∧ st < 18446744073709551616 ∧ name < 256
theorem wf_f64 {n : Nat} (h : (Lit.float .f64 n).wf = true) : n < 18446744073709551616 := by
  have h : decide (n < 2 ^ 64) = true := h
  have := of_decide_eq_true h
  omega
theorem mw_of {d : Nat} {y : List V} (h : HasT P d 55 y) : MW y := by
  obtain ⟨d', _, hl, hf⟩ := hasT_sh [(5, 0, 1), (5, 1, 1), (5, 2, 1), (24, 3, 1), (4, 4, 1), (25, 5, 1)] (sz := 6) (by kernel_rfl) (by kernel_rfl) (by simp) h
  obtain ⟨a, h0, w0⟩ := hasT_int (k := .u8) (by kernel_rfl) (hf (5, 0, 1) (by simp))
  obtain ⟨b, h1, w1⟩ := hasT_int (k := .u8) (by kernel_rfl) (hf (5, 1, 1) (by simp))
  obtain ⟨c, h2, w2⟩ := hasT_int (k := .u8) (by kernel_rfl) (hf (5, 2, 1) (by simp))
  obtain ⟨v, l, h3, w3, w3'⟩ := hasT_bytes (e := 5) (by kernel_rfl) (by kernel_rfl) (hf (24, 3, 1) (by simp))
  obtain ⟨r, h4⟩ := hasT_bool (by kernel_rfl) (hf (4, 4, 1) (by simp))
  obtain ⟨st, h5, w5⟩ := hasT_flt (k := .f64) (by kernel_rfl) (hf (25, 5, 1) (by simp))
  match y, hl with
  | [y0, y1, y2, y3, y4, y5], _ =>
    simp only [List.drop_zero, List.drop_succ_cons, List.take_succ_cons, List.take_zero, List.cons.injEq, and_true] at h0 h1 h2 h3 h4 h5
    subst h0 h1 h2 h3 h4 h5
    obtain ⟨p0, _⟩ := wf_u8 w0
    obtain ⟨p1, _⟩ := wf_u8 w1
    obtain ⟨p2, p2'⟩ := wf_u8 w2
    refine ⟨a.toNat, b.toNat, c.toNat, v, l, r, st, ?_, w3, w3', wf_f64 w5, by omega⟩
    rw [Int.toNat_of_nonneg p0, Int.toNat_of_nonneg p1, Int.toNat_of_nonneg p2]
theorem rdDt (H : VH) (a b c : Int) (s : VS) (run : Bool) (st : Nat) {β : Type} (f : VS → Option β) : ((atO (.fz [.int .u8 a, .int .u8 b, .int .u8 c, .sl 5 s, .bool run, .flt .f64 st]) 3).bind fun p2 => (ldV (.flat (.slice 5)) H p2).bind f) = f s := by
  show ((ldV (.flat (.slice 5)) H (.fz [.sl 5 s, .bool run, .flt .f64 st])).bind f) = _
  have : ldV (.flat (.slice 5)) H (.fz [.sl 5 s, .bool run, .flt .f64 st]) = some s := fd_sl 5 s
  rw [this]; rfl
theorem l19 (n : Nat) {s : VS} {es : List (List V)} (hs : IsE s es) (hm : ∀ y ∈ es, MW y) (hl : es.length ≤ maxLen) (H : VH) : ∀ (m i : Nat), i ≤ es.length → es.length < i + m → ∃ b, L19_0 n m s (i : Int) H = some (.bool b, H) ∧ (b = true → (∀ y ∈ es.drop i, MV y) ∧ es.length ≤ 60) := by
  intro m
  have hM := maxLen_eq
  induction m with
  | zero => intros; omega
  | succ m ih =>
    intro i hi hmm
    rw [L19_0_eq, hs.len]
    by_cases c : i < es.length
    · have hd : decide ((i : Int) < (es.length : Int)) = true := decide_eq_true (by omega)
      obtain ⟨y, ey⟩ := get_of c
      obtain ⟨up, kind, name, sd, data, run0, st0, rfl, w1, w2, w3, w4⟩ := (hm y (List.mem_of_getElem? ey)).ex
      rw [hd, cond_true, hs.ix ey, Option.bind_some, rdDt, w1.len, bs_len]
      by_cases h2 : 200 < data.length
      · have hd2 : decide ((data.length : Int) > 200) = true := decide_eq_true (by omega)
        rw [hd2, cond_true]
        exact ⟨false, rfl, fun h => by cases h⟩
      · have hd2 : decide ((data.length : Int) > 200) = false := decide_eq_false (by omega)
        rw [hd2, cond_false, inc_nat (by omega)]
        obtain ⟨b, e1, e2⟩ := ih (i + 1) (by omega) (by omega)
        refine ⟨b, e1, fun h => ⟨fun y hy => ?_, (e2 h).2⟩⟩
        obtain ⟨g1, g2⟩ := List.getElem?_eq_some_iff.1 ey
        rw [List.drop_eq_getElem_cons g1, g2] at hy
        rcases List.mem_cons.1 hy with rfl | hy
        · exact ⟨up, kind, name, sd, data, run0, st0, rfl, w1, by omega, w3, w4⟩
        · exact (e2 h).1 y hy
    · have hd : decide ((i : Int) < (es.length : Int)) = false := decide_eq_false (by omega)
      rw [hd, cond_false]
      refine ⟨_, rfl, fun h => ⟨fun y hy => ?_, by have := of_decide_eq_true h; omega⟩⟩
      rw [List.drop_eq_nil_of_le (by omega)] at hy
      cases hy
theorem c19 (n : Nat) {s : VS} {es : List (List V)} (hs : IsE s es) (hm : ∀ y ∈ es, MW y) (hl : es.length < n) (hl2 : es.length ≤ maxLen) (H : VH) : ∃ b, V.callD (vF P tab (n + 1)) P false (.one (.flat .bool)) 19 [.sl 55 s] H = some (b, H) ∧ (b = true → (∀ y ∈ es, MV y) ∧ es.length ≤ 60) := by
  obtain ⟨b, h1, h2⟩ := l19 n hs.strip hm hl2 [] n 0 (by omega) (by omega)
  refine ⟨b, callD_bool (vF_lone (n := n) (r := .bool b) (H1 := []) rfl (by simp [closed_sl 55 hs]) ?_ rfl), h2⟩
  show bodyV P tab (vF P tab n) n 19 [.sl 55 s.strip] [] = _
  rw [f19_eq]
  exact h1
theorem c20 (N : Nat) (hN : 1000 ≤ N) {s : VS} {es : List (List V)} (hs : IsE s es) (hm : ∀ y ∈ es, MV y) (H : VH) : ∃ nd k u1 u2 u3 run st tg, V.callD (vF P tab (N + 9)) P false (.one AGN) 20 [.sl 55 s] H = some (aggN k u1 u2 u3 run st tg, H) ∧ NC 8 nd (cellsN k u1 u2 u3 run st tg) ∧ Good 8 nd := by
  have main : ∀ {s : VS}, IsE s es → ∃ H' nd k u1 u2 u3 run st tg, bodyV P tab (vF P tab (N + 8)) (N + 8) 20 [.sl 55 s] [] = some (.agg (cellsN k u1 u2 u3 run st tg), H') ∧ NC 8 nd (cellsN k u1 u2 u3 run st tg) ∧ Good 8 nd := by
    intro s hs
    rw [f20_eq, hs.len]
    have z0 : ([] ++ [VO.row NT ZN] : VH)[0]? = some (.row NT ZN) := rfl
    have e0 : List.length ([] : VH) = 0 := rfl
    by_cases c0 : es.length = 0
    · rw [show (((es.length : Nat) : Int) == 0) = true by rw [c0]; rfl, cond_true]
      obtain ⟨H', hf⟩ := fin0 z0 rfl 2 .nil .nil .nil false 0 []
      have hN : NC (0 + 1) (.mk 2 [] [] [] false 0 []) (cellsN 2 .nil .nil .nil false 0 []) := ⟨.nil, .nil, .nil, [], rfl, .nil, .nil, .nil, .nil, by simp, by simp, by simp, by decide⟩
      exact ⟨H', _, 2, .nil, .nil, .nil, false, 0, [], hf, hN.ups 7, gleaf 7 _ _ _ _ _⟩
    · rw [show (((es.length : Nat) : Int) == 0) = false by rw [beq_eq_false_iff_ne]; omega, cond_false]
      by_cases c1 : 40 < es.length
      · have hd : decide ((es.length : Int) > 40) = true := decide_eq_true (by omega)
        obtain ⟨z3, b1, b2, _⟩ := IsE.cut hs (lo := 0) (hi := 40) (by omega) (by omega) (lo' := none) (hi' := some ((40 : Nat) : Int)) (mx' := none) (.inr ⟨rfl, rfl⟩) (.inl rfl) (.inl rfl) ([] ++ [VO.row NT ZN]) 55 6
        rw [List.drop_zero] at b2
        have b1' : cutD ([] ++ [.row (27 + boxK) [.int .u8 0, .sl 9 .nil, .sl 27 .nil, .sl 5 .nil, .bool false, .flt .f64 0, .str ⟨#[]⟩]]) 55 6 s none (some 40) none = some z3 := b1
        rw [hd, cond_true, b1', Option.bind_some]
        obtain ⟨nd, k, u1, u2, u3, run, st, tg, r1, r2, r3⟩ := e37 N hN 7 1 rfl b2 (fun y hy => hm y (List.mem_of_mem_take hy)) (by rw [List.length_take]; omega) 0 (by rw [List.length_take]; omega) ([] ++ [.row NT ZN])
        have r1' : V.callD (vF P tab (N + 8)) P false (.one AGN) 37 [.sl 55 z3, .int .i64 0, .int .i64 1] ([] ++ [.row (27 + boxK) [.int .u8 0, .sl 9 .nil, .sl 27 .nil, .sl 5 .nil, .bool false, .flt .f64 0, .str ⟨#[]⟩]]) = some (aggN k u1 u2 u3 run st tg, [] ++ [.row NT ZN]) := r1
        rw [r1', Option.bind_some]
        obtain ⟨H', hf⟩ := fin0 z0 rfl k u1 u2 u3 run st tg
        exact ⟨H', nd, k, u1, u2, u3, run, st, tg, hf, r2, r3⟩
      · have hd : decide ((es.length : Int) > 40) = false := decide_eq_false (by omega)
        rw [hd, cond_false]
        obtain ⟨nd, k, u1, u2, u3, run, st, tg, r1, r2, r3⟩ := e37 N hN 7 1 rfl hs hm (by omega) 0 (by omega) ([] ++ [.row NT ZN])
        have r1' : V.callD (vF P tab (N + 8)) P false (.one AGN) 37 [.sl 55 s, .int .i64 0, .int .i64 1] ([] ++ [.row (27 + boxK) [.int .u8 0, .sl 9 .nil, .sl 27 .nil, .sl 5 .nil, .bool false, .flt .f64 0, .str ⟨#[]⟩]]) = some (aggN k u1 u2 u3 run st tg, [] ++ [.row NT ZN]) := r1
        rw [r1', Option.bind_some]
        obtain ⟨H', hf⟩ := fin0 z0 rfl k u1 u2 u3 run st tg
        exact ⟨H', nd, k, u1, u2, u3, run, st, tg, hf, r2, r3⟩
  obtain ⟨H', nd, k, u1, u2, u3, run, st, tg, h1, h2, h3⟩ := main hs.strip
  refine ⟨nd, k, u1.strip, u2.strip, u3.strip, run, st, tg, callD_some (.agg (cellsN k u1.strip u2.strip u3.strip run st tg)) (vF_lone (n := N + 8) (r := .agg (cellsN k u1 u2 u3 run st tg)) (H1 := H') rfl (by simp [closed_sl 55 hs]) h1 h2.cl) rfl, h2.strip, h3⟩
end Go.Proofs.Ytmpobijkbmljdaa
