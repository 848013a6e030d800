import Derived.Test.YtcnigofmjffamaaDoorB11pc
set_option maxRecDepth 100000
set_option linter.unusedVariables false
set_option linter.unusedSimpArgs false
namespace Go.Proofs.YtcnigofmjffamaaDoor
open Go.Proofs.YtcnigofmjffamaaDoor.Sh Go.Proofs.YtcnigofmjffamaaDoor.Sh.V Go.RowKit
/-! ### Lists of texts, alike or not -/
theorem dcons {α : Type} [DecidableEq α] {a b : List α} {i : Nat} {x y : α} (hx : a[i]? = some x) (hy : b[i]? = some y) : decide (a.drop i = b.drop i) = cond (decide (x = y)) (decide (a.drop (i + 1) = b.drop (i + 1))) false := by
  obtain ⟨h1, h2⟩ := List.getElem?_eq_some_iff.1 hx
  obtain ⟨h3, h4⟩ := List.getElem?_eq_some_iff.1 hy
  rw [List.drop_eq_getElem_cons h1, List.drop_eq_getElem_cons h3, h2, h4]
  by_cases e : x = y
  · subst e; simp
  · simp [e]
theorem l55d (n : Nat) {H : VH} {s t : VS} {a b : List (List UInt8)} (hs : IsE s (ss a)) (ht : IsE t (ss b)) (hab : a.length = b.length) (hl : a.length < 1000000) : ∀ (m i : Nat), i ≤ a.length → a.length < i + m → L55_0 n m s t (i : Int) H = some (.bool (decide (a.drop i = b.drop i)), H) := by
  intro m
  induction m with
  | zero => intro i h1 h2; omega
  | succ m ih =>
    intro i h1 h2
    rw [L55_0_eq, hs.len, ss_len]
    by_cases hi : i < a.length
    · have hdt : decide ((i : Int) < (a.length : Int)) = true := decide_eq_true (by omega)
      obtain ⟨x, hx⟩ : ∃ x, a[i]? = some x := ⟨_, List.getElem?_eq_getElem hi⟩
      obtain ⟨y, hy⟩ : ∃ y, b[i]? = some y := ⟨_, List.getElem?_eq_getElem (by omega)⟩
      rw [hdt, cond_true, rdS hs hx, rdS ht hy, strEq_iff, dcons hx hy]
      cases decide (x = y) with
      | false => rfl
      | true =>
        rw [Bool.not_true, cond_false, cond_true, inc_nat (by omega)]
        exact ih (i + 1) (by omega) (by omega)
    · have hdt : decide ((i : Int) < (a.length : Int)) = false := decide_eq_false (by omega)
      rw [hdt, cond_false, List.drop_eq_nil_of_le (by omega), List.drop_eq_nil_of_le (by omega)]
      rfl
theorem l67d (n : Nat) {H : VH} {s t : VS} {a b : List (List UInt8)} (hs : IsE s (ss a)) (ht : IsE t (ss b)) (hab : a.length = b.length) (hl : a.length < 1000000) : ∀ (m i : Nat), i ≤ a.length → a.length < i + m → L67_0 n m s t (a.length : Int) (i : Int) H = some (.bool (decide (a.drop i = b.drop i)), H) := by
  intro m
  induction m with
  | zero => intro i h1 h2; omega
  | succ m ih =>
    intro i h1 h2
    rw [L67_0_eq]
    by_cases hi : i < a.length
    · have hdt : decide ((i : Int) < (a.length : Int)) = true := decide_eq_true (by omega)
      obtain ⟨x, hx⟩ : ∃ x, a[i]? = some x := ⟨_, List.getElem?_eq_getElem hi⟩
      obtain ⟨y, hy⟩ : ∃ y, b[i]? = some y := ⟨_, List.getElem?_eq_getElem (by omega)⟩
      rw [hdt, cond_true, rdS hs hx, rdS ht hy, strEq_iff, dcons hx hy]
      cases decide (x = y) with
      | false => rfl
      | true =>
        rw [Bool.not_true, cond_false, cond_true, inc_nat (by omega)]
        exact ih (i + 1) (by omega) (by omega)
    · have hdt : decide ((i : Int) < (a.length : Int)) = false := decide_eq_false (by omega)
      rw [hdt, cond_false, List.drop_eq_nil_of_le (by omega), List.drop_eq_nil_of_le (by omega)]
      rfl
theorem lenne {α : Type} [DecidableEq α] {a b : List α} (h : a.length ≠ b.length) : decide (a = b) = false := decide_eq_false (fun e => h (by rw [e]))
theorem c55d (n : Nat) {s t : VS} {a b : List (List UInt8)} (hs : IsE s (ss a)) (ht : IsE t (ss b)) (hl : a.length < 1000000) (hn : a.length < n) (H : VH) : V.callD (vF P tab (n + 1)) P false (.one (.flat .bool)) 55 [.sl 9 s, .sl 9 t] H = some (decide (a = b), H) := by
  refine callD_bool ?_
  refine vF_lone (r := .bool (decide (a = b))) (H1 := []) rfl (by simp [closed_sl 9 hs, closed_sl 9 ht]) ?_ rfl
  show bodyV P tab (vF P tab n) n 55 [.sl 9 s.strip, .sl 9 t.strip] [] = _
  rw [f55_eq, hs.strip.len, ht.strip.len, ss_len, ss_len]
  by_cases h : a.length = b.length
  · rw [h, show (((b.length : Nat) : Int) != ((b.length : Nat) : Int)) = false by simp, cond_false]
    exact l55d n hs.strip ht.strip h hl n 0 (by omega) (by omega)
  · rw [show (((a.length : Nat) : Int) != ((b.length : Nat) : Int)) = true by simp only [bne_iff_ne, ne_eq]; omega, cond_true, lenne h]
theorem c67d (n : Nat) {s t : VS} {a b : List (List UInt8)} (hs : IsE s (ss a)) (ht : IsE t (ss b)) (hl : a.length < 1000000) (hn : a.length < n) (H : VH) : V.callD (vF P tab (n + 1)) P false (.one (.flat .bool)) 67 [.sl 9 s, .sl 9 t] H = some (decide (a = b), H) := by
  refine callD_bool ?_
  refine vF_lone (r := .bool (decide (a = b))) (H1 := []) rfl (by simp [closed_sl 9 hs, closed_sl 9 ht]) ?_ rfl
  show bodyV P tab (vF P tab n) n 67 [.sl 9 s.strip, .sl 9 t.strip] [] = _
  rw [f67_eq, hs.strip.len, ht.strip.len, ss_len, ss_len]
  by_cases h : a.length = b.length
  · rw [show (((a.length : Nat) : Int) != ((b.length : Nat) : Int)) = false by rw [h]; simp, cond_false]
    exact l67d n hs.strip ht.strip h hl n 0 (by omega) (by omega)
  · rw [show (((a.length : Nat) : Int) != ((b.length : Nat) : Int)) = true by simp only [bne_iff_ne, ne_eq]; omega, cond_true, lenne h]
theorem c66d (n : Nat) {s t : VS} {a b : List UInt8} (hs : IsB s a) (ht : IsB t b) (H : VH) : V.callD (vF P tab (n + 1)) P false (.one (.flat .bool)) 66 [.sl 5 s, .sl 5 t] H = some (decide (a = b), H) := by
  refine callD_bool ?_
  refine vF_lone (r := .bool (decide (a = b))) (H1 := []) rfl (by simp [closed_sl 5 hs, closed_sl 5 ht]) ?_ rfl
  show bodyV P tab (vF P tab n) n 66 [.sl 5 s.strip, .sl 5 t.strip] [] = _
  rw [f66_eq, IsB.str hs.strip, Option.bind_some, IsB.str ht.strip, Option.bind_some, strEq_iff]
/-! ### Are two replies alike? -/
def sameY (a b : PP) : Bool := cond (decide (a.e = b.e)) (cond (a.is == b.is) (cond (decide (a.n = b.n)) (cond (decide (canonB a.st = canonB b.st)) (cond (decide (a.sum = b.sum)) (decide (a.paths = b.paths)) false) false) false) false) false
structure FitY (r : PP) : Prop where
  sum : r.sum.length < 100000
  np : r.paths.length < 100000
  st : r.st < 18446744073709551616
theorem closed_YY {a b : PP} {a1 a2 b1 b2 : VS} (ha1 : IsB a1 a.sum) (ha2 : IsE a2 (ss a.paths)) (hb1 : IsB b1 b.sum) (hb2 : IsE b2 (ss b.paths)) : [V.agg (cellsP a a1 a2), .agg (cellsP b b1 b2)].all closedC = true := by
  have x := closed_Y a ha1 ha2
  have y := closed_Y b hb1 hb2
  simp only [List.all_cons, List.all_nil, Bool.and_true] at x y ⊢
  rw [x, y]; rfl
theorem e28y (n : Nat) {a b : PP} (fa : FitY a) {a1 a2 b1 b2 : VS} (ha1 : IsB a1 a.sum) (ha2 : IsE a2 (ss a.paths)) (hb1 : IsB b1 b.sum) (hb2 : IsE b2 (ss b.paths)) (hn : 100000 ≤ n) (H : VH) : vF P tab (n + 5) 28 [.agg (cellsP a a1 a2), .agg (cellsP b b1 b2)] H = some (.bool (sameY a b), H) := by
  obtain ⟨f1, f2, f3⟩ := fa
  refine vF_lone (r := .bool (sameY a b)) (H1 := [.row YT (cellsP a a1.strip a2.strip), .row YT (cellsP b b1.strip b2.strip)]) rfl (closed_YY ha1 ha2 hb1 hb2) ?_ rfl
  show bodyV P tab (vF P tab (n + 4)) (n + 4) 28 [.agg [.int .i64 a.e, .bool a.is, .int .i64 a.n, .flt .f64 a.st, .sl 5 a1.strip, .sl 9 a2.strip], .agg [.int .i64 b.e, .bool b.is, .int .i64 b.n, .flt .f64 b.st, .sl 5 b1.strip, .sl 9 b2.strip]] [] = _
  rw [f28_eq]
  obtain ⟨K, hK⟩ : ∃ K : VH, K = [.row YT (cellsP a a1.strip a2.strip), .row YT (cellsP b b1.strip b2.strip)] := ⟨_, rfl⟩
  rw [show (List.append (α := VO) ([] ++ [.row (66 + boxK) [.int .i64 a.e, .bool a.is, .int .i64 a.n, .flt .f64 a.st, .sl 5 a1.strip, .sl 9 a2.strip]]) [.row (66 + boxK) [.int .i64 b.e, .bool b.is, .int .i64 b.n, .flt .f64 b.st, .sl 5 b1.strip, .sl 9 b2.strip]]) = K from hK.symm]
  have h0 : K[([] : VH).length]? = some (.row YT (cellsP a a1.strip a2.strip)) := by rw [hK]; rfl
  have h1 : K[(List.length (([] ++ [.row (66 + boxK) [.int .i64 a.e, .bool a.is, .int .i64 a.n, .flt .f64 a.st, .sl 5 a1.strip, .sl 9 a2.strip]]) : VH))]? = some (.row YT (cellsP b b1.strip b2.strip)) := by rw [hK]; rfl
  rw [← hK, y0 h0, Option.bind_some, y0 h1, Option.bind_some]
  unfold sameY
  rw [show (a.e == b.e) = decide (a.e = b.e) from rfl]
  cases decide (a.e = b.e) with
  | false => rfl
  | true =>
    rw [cond_true, cond_true, y1 h0, Option.bind_some, y1 h1, Option.bind_some]
    cases (a.is == b.is) with
    | false => rfl
    | true =>
      rw [cond_true, cond_true, y2 h0, Option.bind_some, y2 h1, Option.bind_some, show (a.n == b.n) = decide (a.n = b.n) from rfl]
      cases decide (a.n = b.n) with
      | false => rfl
      | true =>
        rw [cond_true, cond_true, y3 h0, Option.bind_some, y3 h1, Option.bind_some, callD_bool (e65 (n + 1) a.st b.st K), Option.bind_some]
        simp only
        cases decide (canonB a.st = canonB b.st) with
        | false => rfl
        | true =>
          rw [cond_true, cond_true, y4 h0, Option.bind_some, y4 h1, Option.bind_some, c66d (n + 3) ha1.strip hb1.strip, Option.bind_some]
          simp only
          cases decide (a.sum = b.sum) with
          | false => rfl
          | true =>
            rw [cond_true, cond_true, y5 h0, Option.bind_some, y5 h1, Option.bind_some, c67d (n + 3) ha2.strip hb2.strip (by omega) (by omega), Option.bind_some]
theorem e29y (n : Nat) {a b : PP} (fa : FitY a) (fb : FitY b) {a1 a2 b1 b2 : VS} (ha1 : IsB a1 a.sum) (ha2 : IsE a2 (ss a.paths)) (hb1 : IsB b1 b.sum) (hb2 : IsE b2 (ss b.paths)) (hn : 100000 ≤ n) (H : VH) : vF P tab (n + 5) 29 [.agg (cellsP a a1 a2), .agg (cellsP b b1 b2)] H = some (.bool (sameY a b), H) := by
  obtain ⟨f1, f2, f3⟩ := fa
  refine vF_lone (r := .bool (sameY a b)) (H1 := [.row YT (cellsP a a1.strip a2.strip), .row YT (cellsP b b1.strip b2.strip)]) rfl (closed_YY ha1 ha2 hb1 hb2) ?_ rfl
  show bodyV P tab (vF P tab (n + 4)) (n + 4) 29 [.agg [.int .i64 a.e, .bool a.is, .int .i64 a.n, .flt .f64 a.st, .sl 5 a1.strip, .sl 9 a2.strip], .agg [.int .i64 b.e, .bool b.is, .int .i64 b.n, .flt .f64 b.st, .sl 5 b1.strip, .sl 9 b2.strip]] [] = _
  rw [f29_eq]
  obtain ⟨K, hK⟩ : ∃ K : VH, K = [.row YT (cellsP a a1.strip a2.strip), .row YT (cellsP b b1.strip b2.strip)] := ⟨_, rfl⟩
  rw [show (List.append (α := VO) ([] ++ [.row (66 + boxK) [.int .i64 a.e, .bool a.is, .int .i64 a.n, .flt .f64 a.st, .sl 5 a1.strip, .sl 9 a2.strip]]) [.row (66 + boxK) [.int .i64 b.e, .bool b.is, .int .i64 b.n, .flt .f64 b.st, .sl 5 b1.strip, .sl 9 b2.strip]]) = K from hK.symm]
  have e0 : List.length ([] : VH) = 0 := rfl
  have e1 : (List.length (([] ++ [.row (66 + boxK) [.int .i64 a.e, .bool a.is, .int .i64 a.n, .flt .f64 a.st, .sl 5 a1.strip, .sl 9 a2.strip]]) : VH)) = 1 := rfl
  rw [e1]
  simp only [e0]
  have h0 : K[0]? = some (.row YT (cellsP a a1.strip a2.strip)) := by rw [hK]; rfl
  have h1 : K[1]? = some (.row YT (cellsP b b1.strip b2.strip)) := by rw [hK]; rfl
  have st : ∀ L : Held, (∀ x ∈ L, Yh 0 a a1.strip a2.strip x ∨ Yh 1 b b1.strip b2.strip x) → V.stays K L = true := by
    intro L
    induction L with
    | nil => intro _; rfl
    | cons x L ih =>
      intro hL
      rcases hL x (List.mem_cons_self ..) with h | h
      · rw [yst h0 h, ih (fun y hy => hL y (List.mem_cons_of_mem _ hy))]
      · rw [yst h1 h, ih (fun y hy => hL y (List.mem_cons_of_mem _ hy))]
  rw [← hK, y0 h0, Option.bind_some, y0 h1, Option.bind_some]
  refine cex (Q := fun z : VRes => z = some (.bool (sameY a b), K)) (st _ (by simp [Yh])) ?_
  unfold sameY
  rw [show (a.e == b.e) = decide (a.e = b.e) from rfl]
  cases h1e : decide (a.e = b.e) with
  | false => rfl
  | true =>
    rw [cond_true, cond_true, y1 h0, Option.bind_some, y1 h1, Option.bind_some]
    refine cex (Q := fun z : VRes => z = _) (st _ (by simp [Yh])) ?_
    cases h2e : (a.is == b.is) with
    | false => rfl
    | true =>
      rw [cond_true, cond_true, y2 h0, Option.bind_some, y2 h1, Option.bind_some]
      refine cex (Q := fun z : VRes => z = _) (st _ (by simp [Yh])) ?_
      rw [show (a.n == b.n) = decide (a.n = b.n) from rfl]
      cases h3e : decide (a.n = b.n) with
      | false => rfl
      | true =>
        rw [cond_true, cond_true, y3 h0, Option.bind_some, y3 h1, Option.bind_some, c64 (n + 3) f3, Option.bind_some]
        refine cex (Q := fun z : VRes => z = _) (st _ (by simp [Yh])) ?_
        rw [c64 (n + 3) fb.st, Option.bind_some]
        refine cex (Q := fun z : VRes => z = _) (st _ (by simp [Yh])) ?_
        have hc : (((canonB a.st : Nat) : Int) == ((canonB b.st : Nat) : Int)) = decide (canonB a.st = canonB b.st) := by
          by_cases hc : canonB a.st = canonB b.st
          · rw [hc]; simp
          · rw [decide_eq_false hc, beq_eq_false_iff_ne]; omega
        simp only
        rw [hc]
        cases h4e : decide (canonB a.st = canonB b.st) with
        | false => rfl
        | true =>
          rw [cond_true, cond_true, y4 h0, Option.bind_some, y4 h1, Option.bind_some]
          refine cex (Q := fun z : VRes => z = _) (st _ (by simp [Yh])) ?_
          rw [callD_bool (e18 (n + 3) ha1.strip hb1.strip (by rw [maxLen_eq]; omega) (by omega)), Option.bind_some]
          refine cex (Q := fun z : VRes => z = _) (st _ (by simp [Yh])) ?_
          simp only
          cases h5e : decide (a.sum = b.sum) with
          | false => rfl
          | true =>
            rw [cond_true, cond_true, y5 h0, Option.bind_some, y5 h1, Option.bind_some]
            refine cex (Q := fun z : VRes => z = _) (st _ (by simp [Yh])) ?_
            rw [c55d (n + 3) ha2.strip hb2.strip (by omega) (by omega), Option.bind_some]
            exact cex (Q := fun z : VRes => z = _) (st _ (by simp [Yh])) rfl
end Go.Proofs.YtcnigofmjffamaaDoor
