import Derived.Test.YtcnigofmjffamaaDoorB11pd
set_option maxRecDepth 100000
set_option linter.unusedVariables false
set_option linter.unusedSimpArgs false
namespace Go.Proofs.YtcnigofmjffamaaDoor
open Go.Proofs.YtcnigofmjffamaaDoor.Sh Go.Proofs.YtcnigofmjffamaaDoor.Sh.V Go.RowKit
/-! ### The document's DecodeReply -/
theorem TW1 (s : RdS) : TW 1 s = T1 s := rfl
theorem TW2_lt (s : RdS) : (TW 2 s).1 < 65536 := numA2 (takeS_len 2 s.1 s.2)
theorem b30 (n : Nat) (hn : 500 ≤ n) {s : VS} {l : List UInt8} (hs : IsB s l) (hl : l.length < 1000000) :
    ∃ s1 s2 H', bodyV P tab (vF P tab (n + 14)) (n + 14) 30 [.sl 5 s] [] = some (.tup [.agg (cellsP (decY l).1 s1 s2), .int .i64 ((decY l).2 : Int)], H') ∧ IsB s1 (decY l).1.sum ∧ IsE s2 (ss (decY l).1.paths) := by
  rw [f30_eq]
  obtain ⟨H1, hH1⟩ : ∃ H1 : VH, H1 = List.append (α := VO) ([] ++ [VO.row YT Z6y]) [.row (118 + boxK) [.sl 5 s, .bool false]] := ⟨_, rfl⟩
  have el : (List.length (([] ++ [.row (66 + boxK) [.int .i64 0, .bool false, .int .i64 0, .flt .f64 0, .sl 5 .nil, .sl 9 .nil]]) : VH)) = 1 := rfl
  have e0 : List.length ([] : VH) = 0 := rfl
  rw [el, show List.append (α := VO) ([] ++ [VO.row (66 + boxK) [.int .i64 0, .bool false, .int .i64 0, .flt .f64 0, .sl 5 .nil, .sl 9 .nil]]) [.row (118 + boxK) [.sl 5 s, .bool false]] = H1 from hH1.symm]
  simp only [e0]
  have hi1 : H1[0]? = some (.row YT Z6y) := by rw [hH1]; rfl
  have a2 : RI H1 1 (l, false) := ⟨⟨s, by rw [hH1]; rfl, hs⟩, fun h => by cases h⟩
  have hl1 : H1.length = 2 := by rw [hH1]; rfl
  have h01 : (0 : Nat) ∉ [1] := by decide
  obtain ⟨H2, b1, b2, b3, b4⟩ := p68c (n + 12) a2 1 (by omega) (by omega)
  have hi2 := b3.ob hi1 h01
  have hl2 : H2.length = 2 := by omega
  have hA := T1_lt (l, false)
  obtain ⟨H3, c1, c2, c3, _⟩ := box_new H2 YT (zs := Z6y) (cs := [.int .i64 ((yA l).1 : Int), .bool false, .int .i64 0, .flt .f64 0, .sl 5 .nil, .sl 9 .nil]) rfl rfl
  have c4 := box_kp H2 YT (zs := Z6y) (cs := [.int .i64 ((yA l).1 : Int), .bool false, .int .i64 0, .flt .f64 0, .sl 5 .nil, .sl 9 .nil]) rfl rfl c1
  have c2' : H3[H2.length]? = some (.row YT (cellsP ⟨((yA l).1 : Int), false, 0, 0, [], []⟩ .nil .nil)) := c2
  have hj2 : H2.length ∉ [1] := by rw [hl2]; decide
  have h0j : (0 : Nat) ∉ [H2.length] := by rw [hl2]; decide
  have hkj : (1 : Nat) ∉ [H2.length] := by rw [hl2]; decide
  have rd3 : RI H3 1 (yA l).2 := b2.keep c4 (by simp)
  have hi3 := c4.ob hi2 (by simp)
  obtain ⟨H4, d1, d2, d3, d4⟩ := p68c (n + 12) rd3 1 (by omega) (by omega)
  obtain ⟨H5, g1, g2, g3⟩ := stR (d3.ob c2' hj2) 1 (.bool (decide ((yB l).1 = 1))) (by simp [cellsP]) rfl
  have rd5 : RI H5 1 (yB l).2 := d2.keep g3 hkj
  obtain ⟨H6, f1, f2, f3, f4⟩ := p68c (n + 12) rd5 2 (by omega) (by omega)
  obtain ⟨H7, q1, q2, q3⟩ := stR (f3.ob g2 hj2) 2 (.int .i64 ((yN l).1 : Int)) (by simp [cellsP, putAllV]) rfl
  have rd7 : RI H7 1 (yN l).2 := f2.keep q3 hkj
  obtain ⟨H8, t1, t2, t3, t4⟩ := p68c (n + 12) rd7 8 (by omega) (by omega)
  obtain ⟨H9, w1, w2, w3⟩ := stR (t3.ob q2 hj2) 3 (.flt .f64 (ofX (yW l).1)) (by simp [cellsP, putAllV]) rfl
  have rd9 : RI H9 1 (yW l).2 := t2.keep w3 hkj
  obtain ⟨HA, u1, u2, u3, u4⟩ := p70 (n + 11) rd9 (by omega)
  have hsum : IsB (.fz (bytesE ⟨(yS l).1.toArray⟩) .no) (yS l).1 := .fz _ _
  obtain ⟨HB', x1, x2, x3⟩ := stR (u3.ob w2 hj2) 4 (.sl 5 (.fz (bytesE ⟨(yS l).1.toArray⟩) .no)) (by simp [cellsP, putAllV]) rfl
  have rdB : RI HB' 1 (yS l).2 := u2.keep x3 hkj
  obtain ⟨s2, HC, v1, v2, v3, v4⟩ := p71m (n + 10) rdB 255 (by omega)
  obtain ⟨HD, z1, z2, z3⟩ := stR (v4.ob x2 hj2) 5 (.sl 9 s2) (by simp [cellsP, putAllV]) rfl
  have hjD : HD[H2.length]? = some (.row YT (cellsP (rawY l) (.fz (bytesE ⟨(yS l).1.toArray⟩) .no) s2)) := z2
  have hiD := z3.ob (v4.ob (x3.ob (u3.ob (w3.ob (t3.ob (q3.ob (f3.ob (g3.ob (d3.ob hi3 h01) h0j) h01) h0j) h01) h0j) h01) h0j) h01) h0j
  have rdD : RI HD 1 (yP l).2 := v3.keep z3 hkj
  rw [show ((1 : Nat) : Int) = 1 from rfl] at b1 d1
  rw [show ((2 : Nat) : Int) = 2 from rfl] at f1
  rw [show ((8 : Nat) : Int) = 8 from rfl] at t1
  rw [show ((255 : Nat) : Int) = 255 from rfl] at v1
  have hB := T1_lt (yA l).2
  rw [b1, Option.bind_some]
  simp only
  rw [TW1, show IntKind.wrap .i64 (((T1 (l, false)).1 : Nat) : Int) = ((yA l).1 : Int) from i64_nat (by omega), c1, Option.bind_some, d1, Option.bind_some]
  simp only
  rw [TW1, beq1, show (T1 (yA l).2).1 = (yB l).1 from rfl, g1, Option.bind_some, f1, Option.bind_some]
  simp only
  have hN := TW2_lt (yB l).2
  rw [show IntKind.wrap .i64 (((TW 2 (yB l).2).1 : Nat) : Int) = ((yN l).1 : Int) from i64_nat (by omega), q1, Option.bind_some, t1, Option.bind_some]
  simp only
  rw [show (TW 8 (yN l).2).1 = (yW l).1 from rfl, c69 (n + 13) (show (yW l).1 < 18446744073709551616 from TW_lt 8 (yN l).2), Option.bind_some]
  simp only
  rw [w1, Option.bind_some, u1, Option.bind_some]
  simp only
  rw [show (TX (yW l).2).1 = (yS l).1 from rfl, x1, Option.bind_some, v1, Option.bind_some]
  simp only
  rw [z1, Option.bind_some]
  unfold decY
  by_cases e1 : ofE (yW l).1 = 0
  · rw [e1, show (((0 : Nat) : Int) != 0) = false from rfl, cond_false, if_neg (by simp)]
    by_cases e2 : 1 < (yB l).1
    · have hd : decide ((((yB l).1 : Nat) : Int) > 1) = true := decide_eq_true (by omega)
      rw [hd, cond_true, if_pos e2]
      obtain ⟨H', h⟩ := putY (cs0 := Z6y) rfl hiD 2 0 false 0 0 .nil .nil
      exact ⟨.nil, .nil, H', h, .nil, .nil⟩
    · have hd : decide ((((yB l).1 : Nat) : Int) > 1) = false := decide_eq_false (by omega)
      rw [hd, cond_false, if_neg e2, p72 (n + 13) rdD, Option.bind_some]
      simp only
      by_cases e3 : endS (yP l).2.1 (yP l).2.2 = 0
      · rw [e3, show (!((0 : Nat) == 0)) = false from rfl, cond_false, if_neg (by simp), ya hjD, Option.bind_some]
        simp only
        obtain ⟨H', h⟩ := putY (cs0 := Z6y) rfl hiD 0 (rawY l).e (rawY l).is (rawY l).n (rawY l).st (.fz (bytesE ⟨(yS l).1.toArray⟩) .no) s2
        exact ⟨_, s2, H', h, hsum, v2⟩
      · rw [show (!(endS (yP l).2.1 (yP l).2.2 == 0)) = true by simp [e3], cond_true, if_pos e3]
        obtain ⟨H', h⟩ := putY (cs0 := Z6y) rfl hiD 2 0 false 0 0 .nil .nil
        exact ⟨.nil, .nil, H', h, .nil, .nil⟩
  · rw [show (((ofE (yW l).1 : Nat) : Int) != 0) = true by simp only [bne_iff_ne, ne_eq]; omega, cond_true, if_pos e1]
    obtain ⟨H', h⟩ := putY (cs0 := Z6y) rfl hiD 2 0 false 0 0 .nil .nil
    exact ⟨.nil, .nil, H', h, .nil, .nil⟩
/-! ### As calls -/
theorem cellsP_strip (r : PP) (s1 s2 : VS) : stripC (.agg (cellsP r s1 s2)) = .agg (cellsP r s1.strip s2.strip) := rfl
theorem dec_any {f : FuncId} (hf : tab.lone f = true) (n : Nat) {s : VS} {l : List UInt8} (hs : IsB s l) (H : VH)
    (hb : ∃ s1 s2 H', bodyV P tab (vF P tab (n + 14)) (n + 14) f [.sl 5 s.strip] [] = some (.tup [.agg (cellsP (decY l).1 s1 s2), .int .i64 ((decY l).2 : Int)], H') ∧ IsB s1 (decY l).1.sum ∧ IsE s2 (ss (decY l).1.paths)) :
    ∃ s1 s2, V.callD (vF P tab (n + 15)) P false (.tup [AGP, (.flat (.int .i64))]) f [.sl 5 s] H = some ((((decY l).1.e, (decY l).1.is, (decY l).1.n, (decY l).1.st, s1, s2, ()), ((decY l).2 : Int), ()), H) ∧ IsB s1 (decY l).1.sum ∧ IsE s2 (ss (decY l).1.paths) := by
  obtain ⟨s1, s2, H', a, b, c⟩ := hb
  have hcl : closedT (.tup [.agg (cellsP (decY l).1 s1 s2), .int .i64 ((decY l).2 : Int)]) = true := by
    have := closed_Y (decY l).1 b c
    show ([V.agg (cellsP (decY l).1 s1 s2), .int .i64 ((decY l).2 : Int)].all closedC) = true
    simp only [List.all_cons, List.all_nil, Bool.and_true] at this ⊢
    rw [this]; rfl
  have := vF_lone (H := H) (args := [.sl 5 s]) hf (by simp [closed_sl 5 hs]) a hcl
  refine ⟨s1.strip, s2.strip, callD_some (.tup [.agg (cellsP (decY l).1 s1.strip s2.strip), .int .i64 ((decY l).2 : Int)]) this ?_, b.strip, c.strip⟩
  rfl
theorem c26 (n : Nat) (hn : 500 ≤ n) {s : VS} {l : List UInt8} (hs : IsB s l) (hl : l.length < 1000000) (H : VH) : ∃ s1 s2, V.callD (vF P tab (n + 15)) P false (.tup [AGP, (.flat (.int .i64))]) 26 [.sl 5 s] H = some ((((decY l).1.e, (decY l).1.is, (decY l).1.n, (decY l).1.st, s1, s2, ()), ((decY l).2 : Int), ()), H) ∧ IsB s1 (decY l).1.sum ∧ IsE s2 (ss (decY l).1.paths) := dec_any (f := 26) rfl n hs H (b26 n hn hs.strip hl)
theorem c30 (n : Nat) (hn : 500 ≤ n) {s : VS} {l : List UInt8} (hs : IsB s l) (hl : l.length < 1000000) (H : VH) : ∃ s1 s2, V.callD (vF P tab (n + 15)) P false (.tup [AGP, (.flat (.int .i64))]) 30 [.sl 5 s] H = some ((((decY l).1.e, (decY l).1.is, (decY l).1.n, (decY l).1.st, s1, s2, ()), ((decY l).2 : Int), ()), H) ∧ IsB s1 (decY l).1.sum ∧ IsE s2 (ss (decY l).1.paths) := dec_any (f := 30) rfl n hs H (b30 n hn hs.strip hl)
theorem decY_fit (l : List UInt8) : FitY (decY l).1 := by
  unfold decY
  have z : FitY PP0 := ⟨by decide, by decide, by decide⟩
  split
  · exact z
  · split
    · exact z
    · split
      · exact z
      · refine ⟨?_, ?_, ?_⟩
        · have := TX_len (yW l).2
          show (yS l).1.length < _
          unfold yS; omega
        · have := TS_len 255 (yS l).2
          show (yP l).1.length < _
          unfold yP; omega
        · show ofX (yW l).1 < _
          have := TW_lt 8 (yN l).2
          unfold ofX yW
          split <;> omega
/-! ### There and back -/
def keepY (r : PP) : PP := ⟨r.e, r.is, r.n, canonB r.st, r.sum, r.paths⟩
theorem numA_num {m : Nat} (h : m < 65536) : numA 0 (numI (m : Int)) = m := by
  show (0 * 256 % 18446744073709551616 + (u8 ((m : Int) / 256)).toNat) * 256 % 18446744073709551616 + (u8 (m : Int)).toNat = m
  unfold u8
  simp only [UInt8.toNat_ofNat']
  omega
theorem decY_encY {r : PP} {e m : Nat} (he : r.e = (e : Int)) (he2 : e < 256) (hm : r.n = (m : Int)) (hm2 : m < 65536) (hst : r.st < 18446744073709551616) (hs : r.sum.length < 65536) (hp : ∀ y ∈ r.paths, y.length < 65536) (hp2 : r.paths.length < 256) : decY (encY r) = (keepY r, 0) := by
  have eE : encY r = b1 e :: (b1 (cond r.is 1 0) :: (numI (m : Int) ++ (wideI (canonB r.st) ++ (textI r.sum ++ (textsI r.paths ++ []))))) := by
    unfold encY
    rw [he, hm, u8_b1, show (cond r.is (1 : Int) 0) = (((cond r.is 1 0 : Nat)) : Int) by cases r.is <;> rfl, u8_b1]
    simp
  have hc := canonB_lt hst
  have kA : yA (encY r) = (e, (b1 (cond r.is 1 0) :: (numI (m : Int) ++ (wideI (canonB r.st) ++ (textI r.sum ++ (textsI r.paths ++ [])))), false)) := by
    unfold yA; rw [eE]; exact T1_app he2 _
  have kB : yB (encY r) = (cond r.is 1 0, (numI (m : Int) ++ (wideI (canonB r.st) ++ (textI r.sum ++ (textsI r.paths ++ []))), false)) := by
    unfold yB; rw [kA]; exact T1_app (by cases r.is <;> decide) _
  have kN : yN (encY r) = (m, (wideI (canonB r.st) ++ (textI r.sum ++ (textsI r.paths ++ [])), false)) := by
    unfold yN TW
    rw [kB]
    simp only
    rw [takeS_app _ _ (numI_len _), numA_num hm2]
  have kW : yW (encY r) = (canonB r.st, (textI r.sum ++ (textsI r.paths ++ []), false)) := by
    unfold yW TW
    rw [kN]
    simp only
    rw [takeS_app _ _ (wideI_len _), numA_wide hc]
  have kS : yS (encY r) = (r.sum, (textsI r.paths ++ [], false)) := by
    unfold yS; rw [kW]; exact TX_app hs _
  have kP : yP (encY r) = (r.paths, ([], false)) := by
    unfold yP; rw [kS]; exact TS_app hp (by omega) hp2 _
  have hE : ofE (canonB r.st) = 0 := by unfold ofE; rw [if_pos (canonB_idem _)]
  have hX : ofX (canonB r.st) = canonB r.st := by unfold ofX; rw [if_pos (canonB_idem _)]
  unfold decY rawY
  rw [kA, kB, kN, kW, kS, kP]
  simp only
  rw [hE, if_neg (by simp), if_neg (by cases r.is <;> decide), if_neg (by decide), hX]
  unfold keepY
  rw [he, hm]
  congr 2
  cases r.is <;> rfl
theorem sameY_keep (r : PP) : sameY (keepY r) r = true := by
  unfold sameY keepY
  simp [canonB_idem]
theorem sameY_self (r : PP) : sameY r r = true := by
  unfold sameY
  simp
end Go.Proofs.YtcnigofmjffamaaDoor
