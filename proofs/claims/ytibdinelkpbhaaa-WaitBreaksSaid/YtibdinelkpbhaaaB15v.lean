import Derived.Test.YtibdinelkpbhaaaB15u
import Derived.Test.YtibdinelkpbhaaaB15n
import Derived.Test.YtibdinelkpbhaaaB15h
set_option maxRecDepth 100000
set_option linter.unusedVariables false
set_option linter.unusedSimpArgs false
namespace Go.Proofs.Ytibdinelkpbhaaa
open Go.Proofs.Ytibdinelkpbhaaa.Sh Go.Proofs.Ytibdinelkpbhaaa.Sh.V Go.RowKit Go.Proofs.Ytibdinelkpbhaaa.Sh.Lk
/-! ### WaitBreaks -/
theorem lastO_mem {L : List Int} (h : (lastO L).2 = true) : (lastO L).1 ∈ L := by
  unfold lastO at h ⊢
  cases hg : L[L.length - 1]? with
  | none => rw [hg] at h; cases h
  | some x => exact List.mem_of_getElem? hg
theorem lastO_no {L : List Int} (h : (lastO L).2 = false) : L = [] := by
  unfold lastO at h
  cases hg : L[L.length - 1]? with
  | none =>
    have := List.getElem?_eq_none_iff.1 hg
    exact List.eq_nil_of_length_eq_zero (by omega)
  | some x => rw [hg] at h; cases h
theorem Pa.last {t : Tb} {a c : Int} (h : Pa t a c) : ∃ b, c ∈ aheadP t b := by
  induction h with
  | one h => exact ⟨_, h⟩
  | more _ _ ih => exact ih
section
variable (n : Nat) (hn : 3000 ≤ n) {kp m0 : Nat} {s0 : VS} {c : Nat}
include hn
theorem l72 {o : Int} (ho : o ∈ S6) : ∀ (m s8 : Nat) {H : VH} {F : List Nat} {t : Tb} {N : Nat}, TO H kp F t → IT t → XT S6 t → Cyo o t → NB N t → N ≤ 390 → wc t + s8 ≤ 6 → 10 < s8 + m →
    ∃ H' F' t', L7_2 (n + 10) m0 m s0 (.ob kp 0) (c : Int) o (s8 : Int) H = L7_1 (n + 10) m0 (n + 10) s0 (.ob kp 0) (c : Int) 0 0 H' ∧ TO H' kp F' t' ∧ IT t' ∧ XT S6 t' ∧ Acy t' ∧ NB N t' := by
  intro m
  induction m with
  | zero => intros; omega
  | succ m ih =>
    intro s8 H F t N h hi hx hcy hN hN2 hw hm
    have hdt : decide ((s8 : Int) < 10) = true := decide_eq_true (by omega)
    obtain ⟨H1, a1, a2⟩ := pV n hn h (nb_s2 hN hN2) o (R := rS t) (rS_eq hi hx o) (fun x _ => rS_eq hi hx x)
    rw [L7_2_eq, hdt, cond_true, a1, Option.bind_some]
    simp only
    cases hl : (lastO ((sortI (rS t o)).filter (stq (rS t) o))).2 with
    | false =>
      rw [Bool.not_false, cond_true]
      exact ⟨H1, F, t, rfl, h.kn a2, hi, hx, hcy.acy ((stuck_nil (rS_eq hi hx o) (fun x _ => rS_eq hi hx x)).1 (lastO_no hl)), hN⟩
    | true =>
      obtain ⟨p1, p2⟩ := (stuck_mem (rS_eq hi hx o) (fun x _ => rS_eq hi hx x) _).1 (lastO_mem hl)
      obtain ⟨z, hz⟩ := p1.last
      obtain ⟨z', hz'⟩ := p2.first
      have hv := ahead_S hi hx _ _ hz
      have hwv := ahead_waits hz'
      have hlt := wc_free hi hv hwv
      obtain ⟨s', H2, F2, b1, b2, b3, b4⟩ := free_n n hn (h.kn a2) hN hN2 (lastO ((sortI (rS t o)).filter (stq (rS t) o))).1
      rw [Bool.not_true, cond_false, b1, Option.bind_some]
      simp only
      rw [inc_nat (by omega)]
      exact ih (s8 + 1) b2 (hi.free _) (hx.free hi _) (hcy.free hi _) b4 hN2 (by omega) (by omega)
theorem l71 {t : Tb} {N : Nat} (hi : IT t) (hx : XT S6 t) (hac : Acy t) (hN : NB N t) (hN2 : N ≤ 390) : ∀ (m j : Nat) {H : VH} {F : List Nat}, TO H kp F t → j ≤ 6 → 6 < j + m →
    ∃ H', L7_1 (n + 10) m0 m s0 (.ob kp 0) (c : Int) (cw t j : Int) (j : Int) H = L7_0 (n + 10) m0 s0 (.ob kp 0) (IntKind.wrap .i64 ((c : Int) + 1)) H' ∧ Kp H H' [] := by
  intro m
  induction m with
  | zero => intros; omega
  | succ m ih =>
    intro j H F h hj hm
    rw [L7_1_eq]
    by_cases hjl : j < 6
    · have hdt : decide ((j : Int) < 6) = true := decide_eq_true (by omega)
      have sz := nb_s2 hN hN2
      obtain ⟨H1, a1, a2⟩ := p20 (n + 8) (by omega) h (j : Int) (fun key => by have := sz key; omega)
      obtain ⟨H2, e2⟩ : ∃ H2 : VH, H2 = H1 ++ [VO.row NTY [.str ⟨#[]⟩, .bool false]] := ⟨_, rfl⟩
      have hp : H2[H1.length]? = some (.row NTY [.str ⟨#[]⟩, .bool false]) := by rw [e2]; exact app_last _ _
      have k2 : Kp H1 H2 [] := by rw [e2]; exact Kp.app _ _
      obtain ⟨H3, b1, b2, b3, b4⟩ := stN hp (wr (waitsP t (j : Int))).1 (wr (waitsP t (j : Int))).2.1
      have k3 : Kp H1 H3 [] := k2.trans b3 (fun x hx _ => hx) (fun x hx hlt => by rw [List.mem_singleton] at hx; omega)
      have k4 : Kp H H3 [] := a2.trans k3 (fun x hx _ => hx) (fun x hx _ => hx)
      have h3 := h.kn k4
      obtain ⟨s5, H5, c1, c2, c3⟩ := pS (n + 1) (by omega) h3 sz (j : Int) (R := rS t) (rS_eq hi hx _) (fun x _ => rS_eq hi hx x)
      have hst := (stuck_nil (rS_eq hi hx (j : Int)) (fun x _ => rS_eq hi hx x)).2 (hac _)
      have hl5 : s5.len = 0 := by rw [c2.len, ints_len, hst]; rfl
      have h5 := h3.kn c3
      have k5 : Kp H H5 [] := k4.trans c3 (fun x hx _ => hx) (fun x hx _ => hx)
      rw [hdt, cond_true, a1, Option.bind_some]
      simp only
      rw [← e2, b1, Option.bind_some]
      have hcw := cw_le t j
      cases hw : waitsP t (j : Int) with
      | none =>
        have e1 : cw t (j + 1) = cw t j := by rw [cw, hw]; rfl
        simp only [wr, cond_false]
        rw [c1, Option.bind_some]
        simp only [hl5]
        rw [show decide ((((0 : Nat) : Int)) > 0) = false from rfl, cond_false, inc_nat (by omega), ← e1]
        obtain ⟨H', q1, q2⟩ := ih (j + 1) h5 (by omega) (by omega)
        exact ⟨H', q1, k5.trans q2 (fun x hx _ => hx) (fun x hx _ => hx)⟩
      | some kw =>
        have e1 : cw t (j + 1) = cw t j + 1 := by rw [cw, hw]; rfl
        obtain ⟨s6, H6, d1, d2, d3, _⟩ := pR (n + 5) (by omega) h5 sz (j : Int) (rS_eq hi hx _)
        have hl6 : s6.len ≠ 0 := by
          obtain ⟨b, hb⟩ := waits_ahead hi hx hw
          have hm := (reach_iff (rS_eq hi hx (j : Int)) b).2 (.one hb)
          rw [d2.len, ints_len, sortI_len]
          have := List.length_pos_of_mem hm
          omega
        have hb6 : ((((VS.len s6 : Nat) : Int)) == 0) = false := by
          have : ((VS.len s6 : Nat) : Int) ≠ 0 := by omega
          simpa using this
        obtain ⟨kk, oo⟩ := kw
        simp only [wr, cond_true]
        rw [c1, Option.bind_some]
        simp only [hl5]
        rw [show decide ((((0 : Nat) : Int)) > 0) = false from rfl, cond_false, d1, Option.bind_some]
        simp only [hb6, cond_false]
        rw [inc_nat (by omega), inc_nat (by omega), ← e1]
        obtain ⟨H', q1, q2⟩ := ih (j + 1) (h5.kn d3) (by omega) (by omega)
        exact ⟨H', q1, (k5.trans d3 (Z := []) (fun x hx _ => hx) (fun x hx _ => hx)).trans q2 (fun x hx _ => hx) (fun x hx _ => hx)⟩
    · have hj6 : j = 6 := by omega
      subst hj6
      have hdt : decide (((6 : Nat) : Int) < 6) = false := rfl
      have hne : (((cw t 6 : Nat) : Int) == 6) = false := by
        have := cw_6 hi hx hac
        have : ((cw t 6 : Nat) : Int) ≠ 6 := by omega
        simpa using this
      rw [hdt, cond_false, hne, cond_false]
      exact ⟨H, rfl, Kp.refl _ _⟩
theorem l70 {A : List Ac} (hs0 : IsE s0 (actE A)) (hA : A.length ≤ 80) (hok : ∀ x ∈ A, x.ok) : ∀ (m c : Nat) {H : VH} {F : List Nat} {t : Tb}, c ≤ A.length → A.length < c + m → TO H kp F t → IT t → XT S6 t → Acy t → NB c t →
    ∃ H', L7_0 (n + 10) m s0 (.ob kp 0) (c : Int) H = some (.bool true, H') := by
  intro m
  induction m with
  | zero => intros; omega
  | succ m ih =>
    intro c H F t hc hm h hI hX hac hN
    rw [L7_0_eq, hs0.len, actE_len]
    by_cases hcl : c < A.length
    · obtain ⟨x, hx⟩ := get_of hcl
      have hdt : decide ((c : Int) < (A.length : Int)) = true := decide_eq_true (by omega)
      have hxo := hok x (List.mem_of_getElem? hx)
      have r6 : remI (x.o : Int) 6 = some ((x.o % 6 : Nat) : Int) := remI_nat (y := 6) (by decide)
      have r16 : remI (x.d : Int) 16 = some ((x.d % 16 : Nat) : Int) := remI_nat (y := 16) (by decide)
      have hw : IntKind.wrap .i64 ((x.o % 6 : Nat) : Int) = ((x.o % 6 : Nat) : Int) := i64_nat (by omega)
      have hoS : ((x.o % 6 : Nat) : Int) ∈ S6 := by
        have := Nat.mod_lt x.o (show 0 < 6 by decide)
        simp only [S6, List.mem_cons, List.not_mem_nil, or_false]
        omega
      rw [hdt, cond_true, rd_act hs0 hx, Option.bind_some, at_a0, Option.bind_some, ld_a0, Option.bind_some, r6, Option.bind_some, Option.bind_some, ld_aa, Option.bind_some]
      simp only
      rw [c16 (n + 9) hxo H, Option.bind_some, Option.bind_some, at_a2, Option.bind_some, ld_a2, Option.bind_some, r16, Option.bind_some, hw]
      have on : ∀ {H1 : VH} {F1 : List Nat} {t1 : Tb}, TO H1 kp F1 t1 → IT t1 → XT S6 t1 → Acy t1 → NB (c + 1) t1 → ∃ H', L7_1 (n + 10) m (n + 10) s0 (.ob kp 0) (c : Int) 0 0 H1 = some (.bool true, H') := by
        intro H1 F1 t1 g1 g2 g3 g4 g5
        obtain ⟨H2, a1, a2⟩ := l71 n hn (s0 := s0) (m0 := m) (c := c) g2 g3 g4 g5 (by omega) (n + 10) 0 g1 (by omega) (by omega)
        rw [show (((cw t1 0 : Nat) : Int)) = 0 from rfl, show ((0 : Nat) : Int) = 0 from rfl] at a1
        rw [a1, inc_nat (by omega)]
        exact ih (c + 1) (by omega) (by omega) (g1.kn a2) g2 g3 g4 g5
      cases hd : (((x.d % 16 : Nat) : Int) == 15) with
      | true =>
        obtain ⟨s', H1, F1, a1, a2, a3, a4⟩ := free_n n hn h hN (by omega) ((x.o % 6 : Nat) : Int)
        rw [cond_true, a1, Option.bind_some]
        exact on a2 (hI.free _) (hX.free hI _) (hac.free hI _) (a4.mono (by omega))
      | false =>
        obtain ⟨H1, F1, a1, a2, a3⟩ := ask_n n hn h hN (by omega) ((x.o % 6 : Nat) : Int) (kJ (x.k % 4)) (decide (x.d / 4 % 2 = 0)) (by omega) (kJ_len _)
        rw [cond_false, show kbA (x.k % 4) = ⟨(kJ (x.k % 4)).toArray⟩ from rfl, a1, Option.bind_some]
        simp only
        cases hy : (askP t ((x.o % 6 : Nat) : Int) (kJ (x.k % 4)) (decide (x.d / 4 % 2 = 0))).2 with
        | true =>
          rw [Bool.not_true, cond_false]
          exact on a2 (hI.ask _ _ _) (hX.ask hI _ hoS _ _) (hac.yes hI _ _ _ hy) a3
        | false =>
          rw [Bool.not_false, cond_true]
          have hwc := wc_le (askP t ((x.o % 6 : Nat) : Int) (kJ (x.k % 4)) (decide (x.d / 4 % 2 = 0))).1
          obtain ⟨H2, F2, t2, b1, b2, b3, b4, b5, b6⟩ := l72 n hn (s0 := s0) (m0 := m) (c := c) hoS (n + 10) 0 a2 (hI.ask _ _ _) (hX.ask hI _ hoS _ _) (hac.ask hI _ _ _) a3 (by omega) (by omega) (by omega)
          rw [show ((0 : Nat) : Int) = 0 from rfl] at b1
          rw [b1]
          exact on b2 b3 b4 b5 b6
    · have hdt : decide ((c : Int) < (A.length : Int)) = false := decide_eq_false (by omega)
      rw [hdt, cond_false]
      exact ⟨H, rfl⟩
end
theorem Acy.zero : Acy ⟨[], []⟩ := fun a h => by
  obtain ⟨b, hb⟩ := h.first
  cases hb
theorem waitBreaks_law (us : List V) (h : HasAs P [35] us) : ∃ n H', vF P tab n 7 us [] = some (.bool true, H') := by
  match us, h with
  | [u0], ⟨h0, _⟩ =>
    obtain ⟨d, s, es, rfl, hs, hl, hes⟩ := hasA_sl (e := 39) (by kernel_rfl) h0
    obtain ⟨A, rfl, hA0⟩ := lst_of (f := Ac.cells) (Q := Ac.ok) (es := es) (fun y hy => ac_cells (hes y hy).1)
    have hs : IsE s (actE A) := hs
    obtain ⟨N, hN⟩ : ∃ N, 3000 ≤ N := ⟨3000, Nat.le_refl _⟩
    refine ⟨N + 66, ?_⟩
    rw [vF_body rfl, f7_eq, c_rings (N + 5), show (!(true, ([] : VH)).1) = false from rfl, cond_false, hs.len, actE_len]
    by_cases hA : 80 < A.length
    · have hd : decide ((A.length : Int) > 80) = true := decide_eq_true (by omega)
      rw [hd, cond_true, c_rings (N + 5)]
      exact ⟨_, rfl⟩
    · have hd : decide ((A.length : Int) > 80) = false := decide_eq_false (by omega)
      rw [hd, cond_false]
      obtain ⟨k, H1, F1, a1, a2⟩ := p11 (N + 64) []
      rw [a1, Option.bind_some]
      obtain ⟨H', b1⟩ := l70 (N + 55) (by omega) hs (by omega) hA0 (N + 65) 0 (Nat.zero_le _) (by omega) a2 IT.zero (XT.zero S6) Acy.zero NB.zero
      rw [show ((0 : Nat) : Int) = 0 from rfl] at b1
      exact ⟨H', b1⟩
end Go.Proofs.Ytibdinelkpbhaaa
