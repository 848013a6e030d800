import Derived.Test.YtcnigofmjffamaaDoorB11g
set_option maxRecDepth 100000
set_option linter.unusedVariables false
set_option linter.unusedSimpArgs false
namespace Go.Proofs.YtcnigofmjffamaaDoor
open Go.Proofs.YtcnigofmjffamaaDoor.Sh Go.Proofs.YtcnigofmjffamaaDoor.Sh.V Go.RowKit
theorem p42 (n : Nat) {H : VH} {k : Nat} (hk : k < 256) : V.callD (vF P tab (n + 1)) P false (.one (.flat .bool)) 42 [.int .u8 (k : Int)] H = some (pathedP k, H) := by
  refine callD_bool ?_
  first
    | refine vF_lone (r := .bool (pathedP k)) (H1 := []) rfl rfl ?_ rfl
      show bodyV P tab (vF P tab n) n 42 [.int .u8 (k : Int)] [] = _
    | rw [vF_body rfl]
  rw [f42_eq]
  unfold pathedP
  by_cases a : 2 ≤ k
  · rw [decide_eq_true (by omega), cond_true]
    by_cases b : k ≤ 6
    · rw [decide_eq_true (by omega), cond_true, decide_eq_true (by omega)]
    · rw [decide_eq_false (by omega), cond_false]
      by_cases c : 8 ≤ k
      · rw [decide_eq_true (by omega), cond_true]
        have : decide ((k : Int) ≤ 10) = decide (2 ≤ k ∧ k ≤ 6 ∨ 8 ≤ k ∧ k ≤ 10) := decide_eq_decide.2 (by omega)
        rw [this]
      · rw [decide_eq_false (by omega), cond_false, decide_eq_false (by omega)]
  · rw [decide_eq_false (by omega), cond_false, decide_eq_false (by omega), cond_false, decide_eq_false (by omega)]
theorem names_out : ((List.range 256).all fun k => decide (nameOf k = []) == decide (k < 1 ∨ 12 < k)) = true := by decide +kernel
theorem name_iff {k : Nat} (hk : k < 256) : nameOf k = [] ↔ (k < 1 ∨ 12 < k) := by
  have := List.all_eq_true.1 names_out k (List.mem_range.2 hk)
  have h2 := eq_of_beq this
  exact decide_eq_decide.1 h2
/-- The reference's Decode: the run from the empty heap. -/
theorem b31 (n : Nat) (hn : 500 ≤ n) {s : VS} {l : List UInt8} (hs : IsB s l) (hl : l.length < 1000000) :
    ∃ cs H', bodyV P tab (vF P tab (n + 14)) (n + 14) 31 [.sl 5 s] [] = some (.tup [.agg cs, .int .i64 ((decP l).2 : Int)], H') ∧ ReqV cs (decP l).1 := by
  rw [f31_eq]
  have hlen : s.len = l.length := by rw [hs.len]; simp
  rw [hlen]
  unfold decP
  simp only [List.nil_append, List.length_nil, List.length_singleton]
  have hi0 : ([VO.row QT Z6] : VH)[0]? = some (.row QT Z6) := rfl
  by_cases hb : 2048 < l.length
  · rw [if_pos hb, decide_eq_true (by omega), cond_true]
    obtain ⟨H', h⟩ := zero14 (cs0 := Z6) rfl hi0 3
    exact ⟨_, H', h, ReqV.zero⟩
  · rw [if_neg hb, decide_eq_false (by omega), cond_false]
    obtain ⟨H1, hH1⟩ : ∃ H1 : VH, H1 = [VO.row QT Z6, .row (118 + boxK) [.sl 5 s, .bool false]] := ⟨_, rfl⟩
    have hH1' : List.append (α := VO) [VO.row QT Z6] [.row (118 + boxK) [.sl 5 s, .bool false]] = H1 := by rw [hH1]; rfl
    rw [hH1']
    have a2 : RI H1 1 (l, false) := ⟨⟨s, by rw [hH1]; rfl, hs⟩, fun h => by cases h⟩
    have hi1 : H1[0]? = some (.row QT Z6) := by rw [hH1]; rfl
    have hl1 : H1.length = 2 := by rw [hH1]; rfl
    obtain ⟨H2, b1, b2, b3, b4⟩ := p68 (n + 12) (s := (l, false)) a2 (by omega)
    rw [b1, Option.bind_some]
    simp only
    have hi2 : H2[0]? = some (.row QT Z6) := b3.ob hi1 (by simp)
    have hlt0 := T1_lt (l, false)
    obtain ⟨a, ha⟩ : ∃ a : Nat × RdS, a = T1 (l, false) := ⟨_, rfl⟩
    rw [← ha] at b2 hlt0 ⊢
    have hlt : a.1 < 256 := hlt0
    have hw : IntKind.wrap .u8 ((a.1 : Nat) : Int) = (a.1 : Int) := wrap_u8_nat hlt
    rw [hw]
    have hj2 : H2.length = 2 := by omega
    rw [hj2]
    have hQ0 : (H2 ++ [VO.row QT Z6])[2]? = some (.row QT Z6) := by rw [List.getElem?_append_right (by omega), hj2]; rfl
    rw [st_row hQ0 (by simp) rfl, Option.bind_some]
    obtain ⟨H3, hH3⟩ : ∃ H3 : VH, H3 = List.set (H2 ++ [VO.row QT Z6]) 2 (.row QT (putAllV Z6 0 [.int .u8 (a.1 : Int), .str ⟨#[]⟩, .str ⟨#[]⟩, .sl 5 .nil, .sl 9 .nil, .sl 34 .nil])) := ⟨_, rfl⟩
    rw [← hH3]
    have k3 : Kp H2 H3 [] := by
      rw [hH3]
      exact ⟨by simp, fun i hi _ => by rw [List.getElem?_set_ne (by omega), List.getElem?_append_left hi]⟩
    have hQ3 : H3[2]? = some (.row QT [.int .u8 (a.1 : Int), .str ⟨#[]⟩, .str ⟨#[]⟩, .sl 5 .nil, .sl 9 .nil, .sl 34 .nil]) := by
      rw [hH3, List.getElem?_set_self (by simp; omega)]; rfl
    have hR3 := b2.keep k3 (by simp)
    have hi3 : H3[0]? = some (.row QT Z6) := k3.ob hi2 (by simp)
    have ldk : ldV (.flat (.int .u8)) H3 (.ob 2 0) = some (a.1 : Int) := by rw [ld_row hQ3]; rfl
    rw [ldk, Option.bind_some]
    unfold bodyP
    have hnm := name_iff hlt
    by_cases r1 : a.1 < 1
    · have hd1 : decide ((a.1 : Int) < 1) = true := decide_eq_true (by omega)
      rw [hd1, cond_true]
      rw [if_neg (by omega), if_neg (by unfold pathedP; simp; omega), if_neg (by omega), if_pos (hnm.2 (.inl r1))]
      obtain ⟨H', h⟩ := zero14 (cs0 := Z6) rfl hi3 2
      exact ⟨_, H', h, ReqV.zero⟩
    have hd2 : decide ((a.1 : Int) < 1) = false := decide_eq_false (by omega)
    rw [hd2, cond_false, Option.bind_some]
    by_cases r2 : 12 < a.1
    · have hd1 : decide ((a.1 : Int) > 12) = true := decide_eq_true (by omega)
      rw [hd1, cond_true]
      rw [if_neg (by omega), if_neg (by unfold pathedP; simp; omega), if_neg (by omega), if_pos (hnm.2 (.inr r2))]
      obtain ⟨H', h⟩ := zero14 (cs0 := Z6) rfl hi3 2
      exact ⟨_, H', h, ReqV.zero⟩
    have hd3 : decide ((a.1 : Int) > 12) = false := decide_eq_false (by omega)
    rw [hd3, cond_false, Option.bind_some]
    have hnn : ¬ nameOf a.1 = [] := fun h => by rcases hnm.1 h with h | h <;> omega
    by_cases h1 : a.1 = 1
    · rw [if_pos h1]
      have hq : ((a.1 : Int) == 1) = true := by rw [h1]; rfl
      rw [hq, cond_true]
      obtain ⟨H4, c1, c2, c3, _⟩ := p70 (n + 11) hR3 (by omega)
      rw [c1, Option.bind_some]
      simp only
      obtain ⟨H5, d1, d2, d3⟩ := stR (c3.ob hQ3 (by simp)) 1 (.str ⟨(TX a.2).1.toArray⟩) (by simp) rfl
      rw [d1, Option.bind_some]
      obtain ⟨H6, e1, e2, e3, _⟩ := p70 (n + 11) (c2.keep d3 (by simp)) (by omega)
      rw [e1, Option.bind_some]
      simp only
      obtain ⟨H7, f1, f2, f3⟩ := stR (e3.ob d2 (by simp)) 3 (.sl 5 (.fz (bytesE ⟨(TX (TX a.2).2).1.toArray⟩) .no)) (Nat.le_of_ble_eq_true rfl) rfl
      rw [f1, Option.bind_some]
      obtain ⟨s4, H8, g1, g2, g3, g4⟩ := p71 (n + 10) (e2.keep f3 (by simp)) (by omega)
      rw [g1, Option.bind_some]
      simp only
      obtain ⟨H9, i1, i2, i3⟩ := stR (g4.ob f2 (by simp)) 4 (.sl 9 s4) (Nat.le_of_ble_eq_true rfl) rfl
      rw [i1, Option.bind_some]
      have hi9 : H9[0]? = some (.row QT Z6) := i3.ob (g4.ob (f3.ob (e3.ob (d3.ob (c3.ob hi3 (by simp)) (by simp)) (by simp)) (by simp)) (by simp)) (by simp)
      have ld9 : ldV (.flat (.int .u8)) H9 (.ob 2 0) = some (a.1 : Int) := by rw [ld_row i2]; rfl
      rw [ld9, Option.bind_some, p42 (n + 13) hlt, Option.bind_some]
      simp only
      rw [show pathedP a.1 = false from by rw [h1]; rfl, cond_false, ld9, Option.bind_some]
      rw [show ((a.1 : Int) == 7) = false from by rw [h1]; rfl, cond_false]
      refine fin31 (n + 13) (cs0 := Z6) (r := ⟨1, (TX a.2).1, [], (TX (TX a.2).2).1, (TS 16 (TX (TX a.2).2).2).1, []⟩) rfl hi9 i2 ⟨.fz (bytesE ⟨(TX (TX a.2).2).1.toArray⟩) .no, s4, .nil, [], ?_, .fz _ _, g2, .nil, .nil⟩ (g3.keep i3 (by simp))
      rw [h1]; rfl
    · rw [if_neg h1]
      have hq : ((a.1 : Int) == 1) = false := by simp; omega
      rw [hq, cond_false, Option.bind_some, p42 (n + 13) hlt, Option.bind_some]
      simp only
      cases hp : pathedP a.1 with
      | true =>
        have h7 : a.1 ≠ 7 := by intro h; rw [h] at hp; cases hp
        rw [if_pos rfl, cond_true]
        obtain ⟨H4, c1, c2, c3, _⟩ := p70 (n + 11) hR3 (by omega)
        rw [c1, Option.bind_some]
        simp only
        obtain ⟨H7, f1, f2, f3⟩ := stR (c3.ob hQ3 (by simp)) 2 (.str ⟨(TX a.2).1.toArray⟩) (by simp) rfl
        rw [f1, Option.bind_some]
        have ld7 : ldV (.flat (.int .u8)) H7 (.ob 2 0) = some (a.1 : Int) := by rw [ld_row f2]; rfl
        have hq7 : ((a.1 : Int) == 7) = false := by simp; omega
        rw [ld7, Option.bind_some, hq7, cond_false]
        exact fin31 (n + 13) (cs0 := Z6) (r := ⟨a.1, [], (TX a.2).1, [], [], []⟩) rfl (f3.ob (c3.ob hi3 (by simp)) (by simp)) f2 ⟨.nil, .nil, .nil, [], rfl, .nil, .nil, .nil, .nil⟩ (c2.keep f3 (by simp))
      | false =>
        rw [if_neg (by simp), cond_false, ldk, Option.bind_some]
        by_cases h7 : a.1 = 7
        · rw [if_pos h7]
          have hq : ((a.1 : Int) == 7) = true := by rw [h7]; rfl
          rw [hq, cond_true]
          obtain ⟨H4, c1, c2, c3, c4⟩ := p68 (n + 12) hR3 (by omega)
          rw [c1, Option.bind_some]
          simp only
          have hlt2 := T1_lt a.2
          have hw2 : IntKind.wrap .i64 (((T1 a.2).1 : Nat) : Int) = ((T1 a.2).1 : Int) := i64_nat (by omega)
          rw [hw2]
          have hi4 := c3.ob hi3 (by simp)
          have hQ4 := c3.ob hQ3 (by simp)
          unfold outsS
          by_cases q1 : (T1 a.2).1 < 1
          · rw [decide_eq_true (by omega), cond_true, if_pos (.inl q1)]
            obtain ⟨H', h⟩ := zero14 (cs0 := Z6) rfl hi4 2
            exact ⟨_, H', h, ReqV.zero⟩
          rw [decide_eq_false (by omega), cond_false]
          by_cases q2 : 4 < (T1 a.2).1
          · rw [decide_eq_true (by omega), cond_true, if_pos (.inr q2)]
            obtain ⟨H', h⟩ := zero14 (cs0 := Z6) rfl hi4 2
            exact ⟨_, H', h, ReqV.zero⟩
          rw [decide_eq_false (by omega), cond_false, if_neg (by omega)]
          have hl4 : H4.length = 3 := by
            rw [c4, hH3]; simp; omega
          rw [h7] at hQ4
          have := l310 n hn (H0 := H4) (k := 1) (i := 0) (j := 2) (T1 a.2).1 (by omega) (by omega) (by omega) (by omega) (by omega) (by omega) (by omega) (cs0 := Z6) rfl (n + 14) 0 c2 hi4 hQ4 (show Ap H4 34 .nil [] from .nil) .nil (fun t ht => by cases ht) (Nat.le_refl _) rfl (by omega) (by omega)
          rw [Nat.sub_zero] at this
          exact this
        · rw [if_neg h7]
          have hq : ((a.1 : Int) == 7) = false := by simp; omega
          rw [hq, cond_false, if_neg hnn]
          exact fin31 (n + 13) (cs0 := Z6) (r := ⟨a.1, [], [], [], [], []⟩) rfl hi3 hQ3 ⟨.nil, .nil, .nil, [], rfl, .nil, .nil, .nil, .nil⟩ hR3
end Go.Proofs.YtcnigofmjffamaaDoor
