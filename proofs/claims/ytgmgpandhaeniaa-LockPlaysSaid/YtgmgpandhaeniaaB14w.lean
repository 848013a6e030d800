import Derived.Test.YtgmgpandhaeniaaB14v
set_option maxRecDepth 100000
set_option linter.unusedVariables false
set_option linter.unusedSimpArgs false
namespace Go.Proofs.Ytgmgpandhaeniaa
open Go.Proofs.Ytgmgpandhaeniaa.Sh Go.Proofs.Ytgmgpandhaeniaa.Sh.V Go.RowKit Go.Proofs.Ytgmgpandhaeniaa.Sh.Lk
theorem w2 (a b : Nat) (h : a + b < 100000) : IntKind.wrap .i64 (((a : Nat) : Int) + ((b : Nat) : Int)) = ((a + b : Nat) : Int) := by rw [i64_in (by omega)]; omega
theorem ltI (a b : Nat) : decide (((a : Nat) : Int) < ((b : Nat) : Int)) = decide (a < b) := decide_eq_decide.2 (by omega)
theorem fl_len {α : Type} (p : α → Bool) (l : List α) : (l.filter p).length ≤ l.length := List.length_filter_le _ _
/-- What comes behind the two 'DeleteFunc's of leave. -/
theorem tl32 (n : Nat) (hn : 3000 ≤ n) {H : VH} {b p : Nat} {s q : VS} {hs : List Int} {only : Bool} {qs : List Wt} {o : Int} (L0 L2 : Nat) (hb : H[b]? = some (.row LTY [.sl 3 s, .bool only, .sl WTY q])) (h1 : Hr H 3 1 s (ints hs)) (h2 : Hr H WTY 3 q (wts qs)) (hp : H[p]? = some (.row (3 + boxK) [.int .i64 o])) (l1 : hs.length < 2000) (l2 : qs.length < 2000) (l3 : L0 + L2 < 100000) :
    ∃ H' s' q', ((callD (vF P tab (n + 3)) P false (.one (.flat (.slice 3))) 52 [.sl 3 s, .func (.func 53) [] [.ptr (.ob p 0)]] H).bind fun r18 =>
        ((stV r18.2 (.ob b 0) [.sl 3 r18.1]).bind fun h21 =>
        ((ldV (.flat (.slice 70)) h21 (.ob b 2)).bind fun x24 =>
        ((callD (vF P tab (n + 3)) P false (.one (.flat (.slice 70))) 54 [.sl 70 x24, .func (.func 55) [] [.ptr (.ob p 0)]] h21).bind fun r25 =>
        ((stV r25.2 (.ob b 2) [.sl 70 r25.1]).bind fun h28 =>
        ((ldV (.flat (.slice 3)) h28 (.ob b 0)).bind fun x31 =>
        ((ldV (.flat (.slice 70)) h28 (.ob b 2)).bind fun x34 =>
        (some (V.bool (decide (((IntKind.wrap .i64 (((VS.len x31 : Nat) : Int) + ((VS.len x34 : Nat) : Int))) : Int) < (IntKind.wrap .i64 (((L0 : Nat) : Int) + ((L2 : Nat) : Int))))), h28)))))))))
      = some (.bool (decide ((hs.filter (· != o)).length + (qs.filter (·.o != o)).length < L0 + L2)), H') ∧ H'[b]? = some (.row LTY [.sl 3 s', .bool only, .sl WTY q']) ∧ Hr H' 3 1 s' (ints (hs.filter (· != o))) ∧ Hr H' WTY 3 q' (wts (qs.filter (·.o != o))) ∧ Kp H H' (b :: (hps s ++ hps q)) ∧ hps s' = hps s ∧ hps q' = hps q := by
  obtain ⟨s', H1, a1, a2, a3, a4, a5⟩ := p52 n hn h1 hp l1
  rw [a1, Option.bind_some]
  simp only
  have hb1 := a3.ob hb (hr_ne h1 hb (by decide))
  have hq1 := h2.keep a3 (hr_dis h1 h2 (by decide))
  rw [st_l0 hb1, Option.bind_some]
  obtain ⟨H2, e2⟩ : ∃ H2 : VH, H2 = H1.set b (.row LTY [.sl 3 s', .bool only, .sl WTY q]) := ⟨_, rfl⟩
  rw [← e2]
  have k2 : Kp H1 H2 [b] := by rw [e2]; exact Kp.set _ _ _
  have hb2 : H2[b]? = some (.row LTY [.sl 3 s', .bool only, .sl WTY q]) := by rw [e2]; exact set_at hb1
  have hs2 := a2.keep k2 (fun t ht => by simp; rintro rfl; exact hr_ne a2 hb1 (by decide) ht)
  have hq2 := hq1.keep k2 (fun t ht => by simp; rintro rfl; exact hr_ne hq1 hb1 (by decide) ht)
  have hpb : p ≠ b := by rintro rfl; rw [hp] at hb; injection hb with hb; injection hb with hb; revert hb; decide
  have hp2 := k2.ob (a3.ob hp (hr_ne h1 hp (by decide))) (by simpa using hpb)
  rw [ld_l2 hb2, Option.bind_some]
  obtain ⟨q', H3, c1, c2, c3, c4⟩ := p54 n hn hq2 hp2 l2
  rw [c1, Option.bind_some]
  simp only
  have hb3 := c3.ob hb2 (hr_ne hq2 hb2 (by decide))
  have hs3 := hs2.keep c3 (hr_dis hq2 hs2 (by decide))
  rw [st_l2 hb3, Option.bind_some]
  obtain ⟨H4, e4⟩ : ∃ H4 : VH, H4 = H3.set b (.row LTY [.sl 3 s', .bool only, .sl WTY q']) := ⟨_, rfl⟩
  rw [← e4]
  have k4 : Kp H3 H4 [b] := by rw [e4]; exact Kp.set _ _ _
  have hb4 : H4[b]? = some (.row LTY [.sl 3 s', .bool only, .sl WTY q']) := by rw [e4]; exact set_at hb3
  have hs4 := hs3.keep k4 (fun t ht => by simp; rintro rfl; exact hr_ne hs3 hb3 (by decide) ht)
  have hq4 := c2.keep k4 (fun t ht => by simp; rintro rfl; exact hr_ne c2 hb3 (by decide) ht)
  rw [ld_l0 hb4, Option.bind_some, ld_l2 hb4, Option.bind_some, hs4.len, hq4.len, ints_len, wts_len]
  have f1 := fl_len (· != o) hs
  have f2 := fl_len (fun w : Wt => w.o != o) qs
  rw [w2 _ _ (by omega), w2 _ _ l3, ltI]
  refine ⟨H4, s', q', rfl, hb4, hs4, hq4, ?_, a4, c4⟩
  have z1 : Kp H H2 (b :: (hps s ++ hps q)) := a3.trans k2 (fun x hx _ => by simp [hx]) (fun x hx _ => by simp at hx; simp [hx])
  have z2 : Kp H H3 (b :: (hps s ++ hps q)) := z1.trans c3 (fun x hx _ => hx) (fun x hx _ => by simp [hx])
  exact z2.trans k4 (fun x hx _ => hx) (fun x hx _ => by simp at hx; simp [hx])
theorem p32 (n : Nat) (hn : 3000 ≤ n) {H : VH} {b : Nat} {F : List Nat} {x : Lk} (h : LO H b F x) (o : Int) (l1 : x.hs.length < 2000) (l2 : x.q.length < 2000) : ∃ H', V.callD (vF P tab (n + 4)) P false (.one (.flat .bool)) 32 [.ptr (.ob b 0), .int .i64 o] H = some (decide ((leaveP x o).hs.length + (leaveP x o).q.length < x.hs.length + x.q.length), H') ∧ LO H' b F (leaveP x o) ∧ Kp H H' F := by
  have main : ∃ H', bodyV P tab (vF P tab (n + 3)) (n + 3) 32 [.ptr (.ob b 0), .int .i64 o] H = some (.bool (decide ((leaveP x o).hs.length + (leaveP x o).q.length < x.hs.length + x.q.length)), H') ∧ LO H' b F (leaveP x o) ∧ Kp H H' F := by
    rw [f32_eq]
    obtain ⟨s, q, hb, hs, hq, rfl⟩ := h
    obtain ⟨H1, e1⟩ : ∃ H1 : VH, H1 = H ++ [VO.row (3 + boxK) [.int .i64 o]] := ⟨_, rfl⟩
    have hp1 : H1[H.length]? = some (.row (3 + boxK) [.int .i64 o]) := by rw [e1]; exact app_last _ _
    have k1 : Kp H H1 [] := by rw [e1]; exact Kp.app _ _
    rw [← e1]
    have hb1 := k1.ob hb (by simp)
    have hs1 := hs.keep k1 (fun t _ => by simp)
    have hq1 := hq.keep k1 (fun t _ => by simp)
    have lp : ldV (.flat (.int .i64)) H1 (.ob H.length 0) = some o := by rw [ld_row hp1]; exact fd_int .i64 _
    simp only [nn, atO, Option.bind_some, Nat.zero_add]
    rw [ld_l0 hb1, Option.bind_some, ld_l2 hb1, Option.bind_some, Option.bind_some, lp, Option.bind_some, p27 (n + 1) (by omega) hs1 o l1, Option.bind_some]
    simp only
    rw [hs1.len, hq1.len, ints_len, wts_len]
    unfold leaveP
    cases hc : x.hs.contains o with
    | true =>
      rw [cond_true, st_l1 hb1, Option.bind_some]
      obtain ⟨H2, e2⟩ : ∃ H2 : VH, H2 = H1.set b (.row LTY [.sl 3 s, .bool false, .sl WTY q]) := ⟨_, rfl⟩
      rw [← e2]
      have k2 : Kp H1 H2 [b] := by rw [e2]; exact Kp.set _ _ _
      have hb2 : H2[b]? = some (.row LTY [.sl 3 s, .bool false, .sl WTY q]) := by rw [e2]; exact set_at hb1
      have hs2 := hs1.keep k2 (fun t ht => by simp; rintro rfl; exact hr_ne hs1 hb1 (by decide) ht)
      have hq2 := hq1.keep k2 (fun t ht => by simp; rintro rfl; exact hr_ne hq1 hb1 (by decide) ht)
      have hpb : H.length ≠ b := by have := lt_of_ob hb; omega
      have hp2 := k2.ob hp1 (by simpa using hpb)
      rw [ld_l0 hb2, Option.bind_some]
      obtain ⟨H', s', q', g1, g2, g3, g4, g5, g6, g7⟩ := tl32 n hn x.hs.length x.q.length hb2 hs2 hq2 hp2 l1 l2 (by omega)
      refine ⟨H', g1, ⟨s', q', g2, g3, g4, by rw [g6, g7]⟩, ?_⟩
      exact (k1.trans k2 (Z := b :: (hps s ++ hps q)) (fun x hx _ => by cases hx) (fun x hx _ => by simp at hx; simp [hx])).trans g5 (fun x hx _ => hx) (fun x hx _ => hx)
    | false =>
      rw [cond_false, ld_l0 hb1, Option.bind_some]
      obtain ⟨H', s', q', g1, g2, g3, g4, g5, g6, g7⟩ := tl32 n hn x.hs.length x.q.length hb1 hs1 hq1 hp1 l1 l2 (by omega)
      refine ⟨H', g1, ⟨s', q', g2, g3, g4, by rw [g6, g7]⟩, ?_⟩
      exact k1.trans g5 (fun x hx _ => by cases hx) (fun x hx _ => hx)
  obtain ⟨H', h1, h2⟩ := main
  exact ⟨H', callD_bool (by rw [vF_body rfl]; exact h1), h2⟩
end Go.Proofs.Ytgmgpandhaeniaa
