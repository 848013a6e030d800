import Derived.Test.YtmpobijkbmljdaaB05u
set_option maxRecDepth 100000
set_option linter.unusedVariables false
set_option linter.unusedSimpArgs false
namespace Go.Proofs.Ytmpobijkbmljdaa
open Go.Proofs.Ytmpobijkbmljdaa.Sh Go.Proofs.Ytmpobijkbmljdaa.Sh.V Go.RowKit
abbrev ZN : List V := [.int .u8 0, .sl 9 .nil, .sl 27 .nil, .sl 5 .nil, .bool false, .flt .f64 0, .str ⟨#[]⟩]
theorem gleaf (g k : Nat) (data : List UInt8) (run : Bool) (st : Nat) (tg : List UInt8) : Good (g + 1) (.mk k [] [] data run st tg) := ⟨RiseL.nil, rfl, fun x hx => (by cases hx), fun x hx => (by cases hx)⟩
theorem b37 (n d g : Nat) (hg : d = g + 1) {deep at_ : Nat} (hn : 300 ≤ n) (hdp : deep < 100) (hdg : deep ≥ 8 ∨ 1 ≤ g) {s : VS} {es : List (List V)} (hs : IsE s es) (hm : ∀ y ∈ es, MV y) (hl : es.length ≤ 40) (ha : at_ < es.length)
    (rc : deep < 8 → ∀ (i : Nat), i < es.length → ∀ H : VH, ∃ nd k u1 u2 u3 run st tg, V.callD (vF P tab n) P false (.one AGN) 37 [.sl 55 s, .int .i64 (i : Int), .int .i64 ((deep + 1 : Nat) : Int)] H = some (aggN k u1 u2 u3 run st tg, H) ∧ NC g nd (cellsN k u1 u2 u3 run st tg) ∧ Good g nd) :
    ∃ H' nd k u1 u2 u3 run st tg, bodyV P tab (vF P tab n) n 37 [.sl 55 s, .int .i64 (at_ : Int), .int .i64 (deep : Int)] [] = some (.agg (cellsN k u1 u2 u3 run st tg), H') ∧ NC d nd (cellsN k u1 u2 u3 run st tg) ∧ Good d nd := by
  subst hg
  rw [f37_eq]
  obtain ⟨y, ey⟩ := get_of ha
  obtain ⟨up, kind, name, sd, data, run0, st0, rfl, hsd, hdl, hst, _⟩ := (hm y (List.mem_of_getElem? ey)).ex
  obtain ⟨H3, hH3⟩ : ∃ H3 : VH, H3 = [.row NT ZN, .row (55 + boxK) [.int .u8 (up : Int), .int .u8 (kind : Int), .int .u8 (name : Int), .sl 5 sd, .bool run0, .flt .f64 st0]] := ⟨_, rfl⟩
  have e0 : List.length ([] : VH) = 0 := rfl
  have e1 : (List.length (([] ++ [.row (27 + boxK) [.int .u8 0, .sl 9 .nil, .sl 27 .nil, .sl 5 .nil, .bool false, .flt .f64 0, .str ⟨#[]⟩]]) : VH)) = 1 := rfl
  have eld : ldV (.agg [.int .u8, .int .u8, .int .u8, .slice 5, .bool, .flt .f64]) ([] ++ [.row (27 + boxK) [.int .u8 0, .sl 9 .nil, .sl 27 .nil, .sl 5 .nil, .bool false, .flt .f64 0, .str ⟨#[]⟩]] : VH) (.fz [.int .u8 (up : Int), .int .u8 (kind : Int), .int .u8 (name : Int), .sl 5 sd, .bool run0, .flt .f64 st0]) = some ((up : Int), (kind : Int), (name : Int), sd, run0, st0, ()) := rfl
  have est : stV (List.append (α := VO) ([] ++ [.row (27 + boxK) [.int .u8 0, .sl 9 .nil, .sl 27 .nil, .sl 5 .nil, .bool false, .flt .f64 0, .str ⟨#[]⟩]]) [.row (55 + boxK) [.int .u8 0, .int .u8 0, .int .u8 0, .sl 5 .nil, .bool false, .flt .f64 0]]) (.ob 1 0) [.int .u8 (up : Int), .int .u8 (kind : Int), .int .u8 (name : Int), .sl 5 sd, .bool run0, .flt .f64 st0] = some H3 := by rw [hH3]; rfl
  rw [hs.ix ey, Option.bind_some, eld, Option.bind_some, e1]
  simp only
  rw [est, Option.bind_some]
  simp only [e0]
  have h0 : H3[0]? = some (.row NT ZN) := by rw [hH3]; rfl
  have h1 : H3[1]? = some (.row (55 + boxK) [.int .u8 (up : Int), .int .u8 (kind : Int), .int .u8 (name : Int), .sl 5 sd, .bool run0, .flt .f64 st0]) := by rw [hH3]; rfl
  have hl3 : H3.length = 2 := by rw [hH3]; rfl
  clear hH3 est eld e1
  have m1 : ldV (.flat (.int .u8)) H3 (.ob 1 1) = some (kind : Int) := by rw [ld_row h1]; exact fd_int .u8 _
  have m3 : ldV (.flat (.slice 5)) H3 (.ob 1 3) = some sd := by rw [ld_row h1]; exact fd_sl 5 _
  have m4 : ldV (.flat .bool) H3 (.ob 1 4) = some run0 := by rw [ld_row h1]; rfl
  have m5 : ldV (.flat (.flt .f64)) H3 (.ob 1 5) = some st0 := by rw [ld_row h1]; exact fd_flt .f64 _
  rw [m1, Option.bind_some, show (4 : Int) = ((4 : Nat) : Int) from rfl, remI_nat (by decide), Option.bind_some]
  have file : ∃ H' nd k u1 u2 u3 run st tg, ((stV H3 (.ob 0 0) [.int .u8 2, .sl 9 .nil, .sl 27 .nil, .sl 5 sd, .bool run0, .flt .f64 st0, .str ⟨#[]⟩]).bind fun h16 => (((ldV AGN h16 (.ob 0 0)).bind fun x17 => some (V.agg [.int .u8 x17.1, .sl 9 x17.2.1, .sl 27 x17.2.2.1, .sl 5 x17.2.2.2.1, .bool x17.2.2.2.2.1, .flt .f64 x17.2.2.2.2.2.1, .str x17.2.2.2.2.2.2.1], h16)))) = some (.agg (cellsN k u1 u2 u3 run st tg), H') ∧ NC (g + 1) nd (cellsN k u1 u2 u3 run st tg) ∧ Good (g + 1) nd := by
    obtain ⟨H', hf⟩ := fin0 h0 rfl 2 .nil .nil sd run0 st0 []
    have hN : NC (0 + 1) (.mk 2 [] [] data run0 st0 []) (cellsN 2 .nil .nil sd run0 st0 []) := ⟨.nil, .nil, sd, [], rfl, .nil, .nil, .nil, hsd, by simp, by simp, by omega, hst⟩
    have hN' := hN.ups g
    rw [show 0 + 1 + g = g + 1 by omega] at hN'
    exact ⟨H', _, 2, .nil, .nil, sd, run0, st0, [], hf, hN', gleaf g _ _ _ _ _⟩
  by_cases c3 : kind % 4 = 3
  · rw [show (((kind % 4 : Nat) : Int) == 3) = true by rw [c3]; rfl, cond_true, m3, Option.bind_some, hsd.str, Option.bind_some, cat116 data (by omega), Option.bind_some]
    obtain ⟨H', hf⟩ := fin0 h0 rfl 3 .nil .nil .nil false 0 (116 :: data)
    have hN : NC (0 + 1) (.mk 3 [] [] [] false 0 (116 :: data)) (cellsN 3 .nil .nil .nil false 0 (116 :: data)) := ⟨.nil, .nil, .nil, [], rfl, .nil, .nil, .nil, .nil, by simp, by simp, by simp, by decide⟩
    have hN' := hN.ups g
    rw [show 0 + 1 + g = g + 1 by omega] at hN'
    exact ⟨H', _, 3, .nil, .nil, .nil, false, 0, 116 :: data, hf, hN', gleaf g _ _ _ _ _⟩
  · rw [show (((kind % 4 : Nat) : Int) == 3) = false by rw [beq_eq_false_iff_ne]; omega, cond_false, Option.bind_some, remI_nat (by decide), Option.bind_some]
    by_cases c4 : 0 < kind % 4
    · have hd : decide (((kind % 4 : Nat) : Int) > 0) = true := decide_eq_true (by omega)
      rw [hd, cond_true, m3, Option.bind_some, m4, Option.bind_some, m5, Option.bind_some]
      exact file
    · have hd : decide (((kind % 4 : Nat) : Int) > 0) = false := decide_eq_false (by omega)
      rw [hd, cond_false]
      by_cases c8 : 8 ≤ deep
      · have hd8 : decide ((deep : Int) ≥ 8) = true := decide_eq_true (by omega)
        rw [hd8, cond_true, m3, Option.bind_some, m4, Option.bind_some, m5, Option.bind_some]
        exact file
      · have hd8 : decide ((deep : Int) ≥ 8) = false := decide_eq_false (by omega)
        rw [hd8, cond_false]
        obtain ⟨H4, a1, a2, a3⟩ := bxD H3 1 .nil .nil .nil false 0 []
        have a1' : stV (H3 ++ [.row (27 + boxK) [.int .u8 0, .sl 9 .nil, .sl 27 .nil, .sl 5 .nil, .bool false, .flt .f64 0, .str ⟨#[]⟩]]) (.ob H3.length 0) [.int .u8 1, .sl 9 .nil, .sl 27 .nil, .sl 5 .nil, .bool false, .flt .f64 0, .str ⟨#[]⟩] = some H4 := a1
        rw [a1', Option.bind_some, inc_nat (by omega)]
        exact l37o n g (by omega) (deep := deep) hdp hs hm hl (rc (by omega)) (k8 := H3.length) (by omega) (cs0 := ZN) rfl n (at_ + 1) (names := []) (kids := []) (fs := []) (a3.ob h0 (by simp)) a2 .nil .nil .nil rfl RiseL.nil (fun x hx => by cases hx) (fun x hx => by cases hx) (by simp) (by omega) (by omega) (by omega)
theorem cl37 {s : VS} {es : List (List V)} (hs : IsE s es) (a b : Int) : List.all [V.sl 55 s, .int .i64 a, .int .i64 b] closedC = true := by
  have h := closed_sl 55 hs
  simp only [List.all_cons, List.all_nil, h, Bool.true_and, Bool.and_true]
  rfl
theorem e37 (N : Nat) (hN : 1000 ≤ N) : ∀ (g deep : Nat), deep + g = 8 → ∀ {s : VS} {es : List (List V)}, IsE s es → (∀ y ∈ es, MV y) → es.length ≤ 40 → ∀ (at_ : Nat), at_ < es.length → ∀ H : VH, ∃ nd k u1 u2 u3 run st tg, V.callD (vF P tab (N + g + 1)) P false (.one AGN) 37 [.sl 55 s, .int .i64 (at_ : Int), .int .i64 (deep : Int)] H = some (aggN k u1 u2 u3 run st tg, H) ∧ NC (g + 1) nd (cellsN k u1 u2 u3 run st tg) ∧ Good (g + 1) nd := by
  intro g
  induction g with
  | zero =>
    intro deep hd s es hs hm hl at_ ha H
    obtain ⟨H', nd, k, u1, u2, u3, run, st, tg, h1, h2, h3⟩ := b37 (N + 0) (0 + 1) 0 rfl (deep := deep) (at_ := at_) (by omega) (by omega) (.inl (by omega)) hs.strip hm hl ha (fun h => by omega)
    refine ⟨nd, k, u1.strip, u2.strip, u3.strip, run, st, tg, callD_some (.agg (cellsN k u1.strip u2.strip u3.strip run st tg)) (vF_lone (n := N + 0) (r := .agg (cellsN k u1 u2 u3 run st tg)) (H1 := H') rfl (cl37 hs _ _) h1 h2.cl) rfl, h2.strip, h3⟩
  | succ g ih =>
    intro deep hd s es hs hm hl at_ ha H
    obtain ⟨H', nd, k, u1, u2, u3, run, st, tg, h1, h2, h3⟩ := b37 (N + (g + 1)) (g + 1 + 1) (g + 1) rfl (deep := deep) (at_ := at_) (by omega) (by omega) (.inr (by omega)) hs.strip hm hl ha (fun _ i hi H => ih (deep + 1) (by omega) hs.strip hm hl i hi H)
    refine ⟨nd, k, u1.strip, u2.strip, u3.strip, run, st, tg, callD_some (.agg (cellsN k u1.strip u2.strip u3.strip run st tg)) (vF_lone (n := N + (g + 1)) (r := .agg (cellsN k u1 u2 u3 run st tg)) (H1 := H') rfl (cl37 hs _ _) h1 h2.cl) rfl, h2.strip, h3⟩
end Go.Proofs.Ytmpobijkbmljdaa
