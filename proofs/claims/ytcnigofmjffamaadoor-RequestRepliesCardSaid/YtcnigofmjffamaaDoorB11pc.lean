import Derived.Test.YtcnigofmjffamaaDoorB11pb
import Derived.Test.YtcnigofmjffamaaDoorB11h
set_option maxRecDepth 100000
set_option linter.unusedVariables false
set_option linter.unusedSimpArgs false
namespace Go.Proofs.YtcnigofmjffamaaDoor
open Go.Proofs.YtcnigofmjffamaaDoor.Sh Go.Proofs.YtcnigofmjffamaaDoor.Sh.V Go.RowKit
/-! ### What any bytes are as a reply -/
def TW (c : Nat) (s : RdS) : Nat × RdS := (numA 0 (takeS c s.1 s.2).1, (takeS c s.1 s.2).2)
theorem p60 (n : Nat) {H : VH} {k : Nat} {s : RdS} (h : RP H k s) (hn : 300 ≤ n) : ∃ H', V.callD (vF P tab (n + 4)) P false (.one (.flat (.int .i64))) 60 [.ptr (.ob k 0)] H = some (((TW 2 s).1 : Int), H') ∧ RP H' k (TW 2 s).2 ∧ Kp H H' [k] ∧ H'.length = H.length := by
  obtain ⟨H', h1, h2⟩ := e60 n h hn
  exact ⟨H', callD_int h1, h2⟩
theorem p62 (n : Nat) {H : VH} {k : Nat} {s : RdS} (h : RP H k s) (hn : 300 ≤ n) : ∃ H', V.callD (vF P tab (n + 4)) P false (.one (.flat (.int .u64))) 62 [.ptr (.ob k 0)] H = some (((TW 8 s).1 : Int), H') ∧ RP H' k (TW 8 s).2 ∧ Kp H H' [k] ∧ H'.length = H.length := by
  obtain ⟨H', h1, h2⟩ := e62 n h hn
  exact ⟨H', callD_int h1, h2⟩
theorem p68c (n : Nat) {H : VH} {k : Nat} {s : RdS} (h : RI H k s) (c : Nat) (hc : c ≤ 8) (hn : 300 ≤ n) : ∃ H', V.callD (vF P tab (n + 2)) P false (.one (.flat (.int .u64))) 68 [.ptr (.ob k 0), .int .i64 (c : Int)] H = some (((TW c s).1 : Int), H') ∧ RI H' k (TW c s).2 ∧ Kp H H' [k] ∧ H'.length = H.length := by
  obtain ⟨H', h1, h2, h3⟩ := e68 n h.1 h.2 (c := c) (by omega) (by omega)
  exact ⟨H', callD_int h1, ⟨h2, takeS_inv c h.2⟩, h3⟩
theorem p71m (n : Nat) {H : VH} {k : Nat} {s : RdS} (h : RI H k s) (most : Nat) (hn : 300 ≤ n) : ∃ s' H', V.callD (vF P tab (n + 4)) P false (.one (.flat (.slice 9))) 71 [.ptr (.ob k 0), .int .i64 (most : Int)] H = some (s', H') ∧ IsE s' (ss (TS most s).1) ∧ RI H' k (TS most s).2 ∧ Kp H H' [k] := by
  obtain ⟨s', H', h1, h2, h3, h4, h5⟩ := e71 n h.1 h.2 hn most
  exact ⟨s', H', callD_sl h1, h2, ⟨h3, h4⟩, h5⟩
def yA (l : List UInt8) : Nat × RdS := T1 (l, false)
def yB (l : List UInt8) : Nat × RdS := T1 (yA l).2
def yN (l : List UInt8) : Nat × RdS := TW 2 (yB l).2
def yW (l : List UInt8) : Nat × RdS := TW 8 (yN l).2
def yS (l : List UInt8) : List UInt8 × RdS := TX (yW l).2
def yP (l : List UInt8) : List (List UInt8) × RdS := TS 255 (yS l).2
def PP0 : PP := ⟨0, false, 0, 0, [], []⟩
def rawY (l : List UInt8) : PP := ⟨((yA l).1 : Int), decide ((yB l).1 = 1), ((yN l).1 : Int), ofX (yW l).1, (yS l).1, (yP l).1⟩
def decY (l : List UInt8) : PP × Nat := if ofE (yW l).1 ≠ 0 then (PP0, 2) else if 1 < (yB l).1 then (PP0, 2) else if endS (yP l).2.1 (yP l).2.2 ≠ 0 then (PP0, 2) else (rawY l, 0)
theorem putY {H : VH} {i : Nat} {cs0 : List V} (hl : cs0.length = 6) (hi : H[i]? = some (.row YT cs0)) (e : Int) (a : Int) (b : Bool) (c : Int) (d : Nat) (s1 s2 : VS) :
    ∃ H', ((stV H (.ob i 0) [.int .i64 a, .bool b, .int .i64 c, .flt .f64 d, .sl 5 s1, .sl 9 s2]).bind fun h15 =>
        (((ldV AGP h15 (.ob i 0)).bind fun x16 =>
        some (V.tup [.agg [.int .i64 x16.1, .bool x16.2.1, .int .i64 x16.2.2.1, .flt .f64 x16.2.2.2.1, .sl 5 x16.2.2.2.2.1, .sl 9 x16.2.2.2.2.2.1], .int .i64 e], h15)))) = some (.tup [.agg (cellsP ⟨a, b, c, d, [], []⟩ s1 s2), .int .i64 e], H') := by
  rw [st_row hi (by simp [hl]) rfl, Option.bind_some]
  have h2 : (H.set i (.row YT (putAllV cs0 0 [.int .i64 a, .bool b, .int .i64 c, .flt .f64 d, .sl 5 s1, .sl 9 s2])))[i]? = some (.row YT (cellsP ⟨a, b, c, d, [], []⟩ s1 s2)) := by
    rw [List.getElem?_set_self (lt_of_ob hi)]
    match cs0, hl with
    | [c1, c2, c3, c4, c5, c6], _ => rfl
  rw [ya h2, Option.bind_some]
  exact ⟨_, rfl⟩
abbrev Z6y : List V := [.int .i64 0, .bool false, .int .i64 0, .flt .f64 0, .sl 5 .nil, .sl 9 .nil]
theorem TW_lt (c : Nat) (s : RdS) : (TW c s).1 < 18446744073709551616 := numA_lt (by decide) _
theorem beq1 (a : Nat) : (((a : Nat) : Int) == 1) = decide (a = 1) := by
  by_cases h : a = 1
  · subst h; rfl
  · rw [decide_eq_false h, beq_eq_false_iff_ne]; omega
theorem b26 (n : Nat) (hn : 500 ≤ n) {s : VS} {l : List UInt8} (hs : IsB s l) (hl : l.length < 1000000) :
    ∃ s1 s2 H', bodyV P tab (vF P tab (n + 14)) (n + 14) 26 [.sl 5 s] [] = some (.tup [.agg (cellsP (decY l).1 s1 s2), .int .i64 ((decY l).2 : Int)], H') ∧ IsB s1 (decY l).1.sum ∧ IsE s2 (ss (decY l).1.paths) := by
  rw [f26_eq]
  have hi0 : ([] ++ [VO.row YT Z6y] : VH)[0]? = some (.row YT Z6y) := rfl
  obtain ⟨k, H1, a1, a2, a3, a4⟩ := e33 (n + 12) (H := ([] ++ [VO.row YT Z6y] : VH)) hs (by omega)
  have hi1 : H1[0]? = some (.row YT Z6y) := a4.ob hi0 (by simp)
  have hk0 : 0 ≠ k := by have : ([] ++ [VO.row YT Z6y] : VH).length = 1 := rfl; omega
  obtain ⟨H2, b1, b2, b3, b4⟩ := p34 (n + 10) (s := (l, false)) a2 (by omega)
  have hi2 : H2[0]? = some (.row YT Z6y) := b3.ob hi1 (by simpa using hk0)
  have hk2 : k < H2.length := by obtain ⟨_, h, _⟩ := b2; exact lt_of_ob h
  obtain ⟨H3, c1, c2, c3, _⟩ := box_new H2 YT (zs := Z6y) (cs := [.int .i64 ((yA l).1 : Int), .bool false, .int .i64 0, .flt .f64 0, .sl 5 .nil, .sl 9 .nil]) rfl rfl
  have c4 := box_kp H2 YT (zs := Z6y) (cs := [.int .i64 ((yA l).1 : Int), .bool false, .int .i64 0, .flt .f64 0, .sl 5 .nil, .sl 9 .nil]) rfl rfl c1
  have hA := T1_lt (l, false)
  have c2' : H3[H2.length]? = some (.row YT (cellsP ⟨((yA l).1 : Int), false, 0, 0, [], []⟩ .nil .nil)) := c2
  have rd3 : RP H3 k (yA l).2 := RS.keep b2 c4 (by simp)
  have hi3 := c4.ob hi2 (by simp)
  obtain ⟨H4, d1, d2, d3, d4⟩ := p34 (n + 10) rd3 (by omega)
  obtain ⟨H5, f1, f2, f3, f4⟩ := p60 (n + 10) (s := (yB l).2) d2 (by omega)
  have hj2 : H2.length ∉ [k] := by rw [List.mem_singleton]; omega
  have h0k : (0 : Nat) ∉ [k] := by rw [List.mem_singleton]; exact hk0
  have hj5 := f3.ob (d3.ob c2' hj2) hj2
  have hi5 := f3.ob (d3.ob hi3 h0k) h0k
  have h02 : (0 : Nat) ≠ H2.length := by have := lt_of_ob hi2; omega
  have h0j : (0 : Nat) ∉ [H2.length] := by rw [List.mem_singleton]; exact h02
  have hkj : k ∉ [H2.length] := by rw [List.mem_singleton]; omega
  obtain ⟨H6, g1, g2, g3⟩ := stR hj5 1 (.bool (decide ((yB l).1 = 1))) (by simp [cellsP]) rfl
  obtain ⟨H7, q1, q2, q3⟩ := stR g2 2 (.int .i64 ((yN l).1 : Int)) (by simp [cellsP, putAllV]) rfl
  have rd7 : RP H7 k (yN l).2 := RS.keep (RS.keep f2 g3 hkj) q3 hkj
  obtain ⟨H8, t1, t2, t3, t4⟩ := p62 (n + 10) rd7 (by omega)
  obtain ⟨s1, H9, u1, u2, u3, u4, u5⟩ := p36 (n + 8) (s := (yW l).2) t2 (by omega)
  obtain ⟨s2, HA, v1, v2, v3, v4⟩ := p37 (n + 8) (s := (yS l).2) u3 (by omega) 255
  have hjA := v4.ob (u4.ob (t3.ob q2 hj2) hj2) hj2
  have hiA := v4.ob (u4.ob (t3.ob (q3.ob (g3.ob hi5 h0j) h0j) h0k) h0k) h0k
  obtain ⟨HB', w1, w2, w3⟩ := stR hjA 3 (.flt .f64 (ofX (yW l).1)) (by simp [cellsP, putAllV]) rfl
  obtain ⟨HC, x1, x2, x3⟩ := stR w2 4 (.sl 5 s1) (by simp [cellsP, putAllV]) rfl
  obtain ⟨HD, z1, z2, z3⟩ := stR x2 5 (.sl 9 s2) (by simp [cellsP, putAllV]) rfl
  have hjD : HD[H2.length]? = some (.row YT (cellsP (rawY l) s1 s2)) := z2
  have hiD := z3.ob (x3.ob (w3.ob hiA h0j) h0j) h0j
  have rdD : RP HD k (yP l).2 := RS.keep (RS.keep (RS.keep v3 w3 hkj) x3 hkj) z3 hkj
  rw [show ((255 : Nat) : Int) = 255 from rfl] at v1
  rw [callD_ptr a1, Option.bind_some]
  simp only
  rw [b1, Option.bind_some]
  simp only
  rw [show IntKind.wrap .i64 (((T1 (l, false)).1 : Nat) : Int) = ((yA l).1 : Int) from i64_nat (by omega), c1, Option.bind_some, d1, Option.bind_some]
  simp only
  rw [f1, Option.bind_some]
  simp only
  rw [beq1, show (T1 (yA l).2).1 = (yB l).1 from rfl, g1, Option.bind_some, show (TW 2 (yB l).2).1 = (yN l).1 from rfl, q1, Option.bind_some, t1, Option.bind_some]
  simp only
  rw [show (TW 8 (yN l).2).1 = (yW l).1 from rfl, c61 (n + 11), Option.bind_some]
  simp only
  rw [u1, Option.bind_some]
  simp only
  rw [v1, Option.bind_some]
  simp only
  rw [w1, Option.bind_some, x1, Option.bind_some, z1, Option.bind_some]
  unfold decY
  by_cases e1 : ofE (yW l).1 = 0
  · rw [e1, show (((0 : Nat) : Int) != 0) = false from rfl, cond_false, if_neg (by simp)]
    by_cases e2 : 1 < (yB l).1
    · have hd : decide ((((yB l).1 : Nat) : Int) > 1) = true := decide_eq_true (by omega)
      rw [hd, cond_true, if_pos e2]
      obtain ⟨H', h⟩ := putY (cs0 := Z6y) rfl hiD 2 0 false 0 0 .nil .nil
      exact ⟨.nil, .nil, H', h, .nil, .nil⟩
    · have hd : decide ((((yB l).1 : Nat) : Int) > 1) = false := decide_eq_false (by omega)
      rw [hd, cond_false, if_neg e2, p40 (n + 12) rdD, Option.bind_some]
      simp only
      by_cases e3 : endS (yP l).2.1 (yP l).2.2 = 0
      · rw [e3, show (((0 : Nat) : Int) != 0) = false from rfl, cond_false, if_neg (by simp), ya hjD, Option.bind_some]
        simp only
        obtain ⟨H', h⟩ := putY (cs0 := Z6y) rfl hiD 0 (rawY l).e (rawY l).is (rawY l).n (rawY l).st s1 s2
        exact ⟨s1, s2, H', h, u2, v2⟩
      · rw [show (((endS (yP l).2.1 (yP l).2.2 : Nat) : Int) != 0) = true by simp only [bne_iff_ne, ne_eq]; omega, cond_true, if_pos e3]
        obtain ⟨H', h⟩ := putY (cs0 := Z6y) rfl hiD 2 0 false 0 0 .nil .nil
        exact ⟨.nil, .nil, H', h, .nil, .nil⟩
  · rw [show (((ofE (yW l).1 : Nat) : Int) != 0) = true by simp only [bne_iff_ne, ne_eq]; omega, cond_true, if_pos e1]
    obtain ⟨H', h⟩ := putY (cs0 := Z6y) rfl hiD 2 0 false 0 0 .nil .nil
    exact ⟨.nil, .nil, H', h, .nil, .nil⟩
end Go.Proofs.YtcnigofmjffamaaDoor
