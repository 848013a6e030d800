import Derived.Test.YtgmgpandhaeniaaB14rg
set_option maxRecDepth 100000
set_option linter.unusedVariables false
set_option linter.unusedSimpArgs false
namespace Go.Proofs.Ytgmgpandhaeniaa.R
open Go.Proofs.Ytgmgpandhaeniaa.Sh Go.Proofs.Ytgmgpandhaeniaa.Sh.V Go.RowKit Go.Proofs.Ytgmgpandhaeniaa.Sh.Lk
def k5 : List Key := [[97], [98], [99], [100], [101]]
section
variable {t : Tb} {m : List Ln} {S : List Int}
theorem riseI_len (l : List Int) (B : Nat) (h : ∀ x : List Int, x = riseI l → x.length ≤ B) : (riseI l).length ≤ B := h _ rfl
theorem l240 (n : Nat) (hn : 3000 ≤ n) {k : Nat} {F : List Nat} (r : Rel t m) (hi : IT t) (hx : XT S t) {N : Nat} (hN : NB N t) (hN2 : N ≤ 390) {s1 s5 : VS} (hs : IsL s1 m) (hk : IsT s5 k5) (hz : m.length ≤ 900) : ∀ (f c : Nat) {H : VH}, TO H k F t → c ≤ 5 → 5 < c + f →
    ∃ H', L24_0 (n + 4) f (.ob k 0) s1 s5 (c : Int) H = some (.bool true, H') ∧ KP H H' := by
  intro f
  induction f with
  | zero => intros; omega
  | succ f ih =>
    intro c H h hc hm
    rw [L24_0_eq, isT_len hk]
    have hsz : ∀ key, (lkOf t key).hs.length + (lkOf t key).q.length ≤ 390 := fun key => by have := hN.of key; omega
    by_cases hcl : c < 5
    · obtain ⟨key, hkey⟩ := get_of (l := k5) (i := c) hcl
      have hdt : decide ((c : Int) < (k5.length : Int)) = true := decide_eq_true (by show (c : Int) < 5; omega)
      have ld : ∀ H : VH, ldV (.flat .str) H (.fz [sk key]) = some (bk key) := fun _ => rfl
      have st1 : ∀ H : VH, V.stays H (hj (heldOf (.fz [sk key]) [.str] [.str (bk key)]) []) = true := fun _ => rfl
      have st3 : ∀ H : VH, V.stays H (hj (heldOf (.fz [sk key]) [.str] [.str (bk key)]) (hj (heldOf (.fz [sk key]) [.str] [.str (bk key)]) (hj (heldOf (.fz [sk key]) [.str] [.str (bk key)]) []))) = true := fun _ => rfl
      have st4 : ∀ H : VH, V.stays H (hj (heldOf (.fz [sk key]) [.str] [.str (bk key)]) (hj (heldOf (.fz [sk key]) [.str] [.str (bk key)]) (hj (heldOf (.fz [sk key]) [.str] [.str (bk key)]) (hj (heldOf (.fz [sk key]) [.str] [.str (bk key)]) [])))) = true := fun _ => rfl
      obtain ⟨s3, a1, a2⟩ := c43 (n + 2) hs key (by omega) (by omega) H
      rw [hdt, cond_true, hk.ix (strs_get hkey) 1, Option.bind_some, ld, Option.bind_some, a1, Option.bind_some, Option.bind_some]
      simp only
      obtain ⟨s6, H1, b1, b2, b3⟩ := p17 (n + 2) h key (by have := hsz key; omega)
      rw [ld, Option.bind_some, b1, Option.bind_some]
      simp only
      have hhs := r.hs hx key
      have hle : (lkOf t key).hs.length ≤ 390 := by have := hsz key; omega
      rw [p15 (n + 3) (RdI.e b2) (RdI.e a2) (by omega) (by omega), Option.bind_some, hhs, decide_eq_true rfl]
      simp only
      rw [st1, cond_true, Bool.not_true, cond_false, Option.bind_some, ld, Option.bind_some]
      have h1 := h.kn b3
      obtain ⟨H2, d1, d2⟩ := p16 (n + 2) h1 key
      rw [d1, Option.bind_some]
      simp only
      rw [st1, cond_true, r.only key, beq_self, Bool.not_true, cond_false, Option.bind_some, ld, Option.bind_some, Option.bind_some, ld, Option.bind_some]
      have h2 := h1.kn d2
      obtain ⟨s15, H3, e1, e2, e3⟩ := p18 (n + 2) (by omega) h2 key (by have := hsz key; omega)
      rw [e1, Option.bind_some]
      simp only
      obtain ⟨s16, f1, f2⟩ := c39 (n + 3) hs key (by omega) (by omega) H3
      rw [st3, cond_true, f1, Option.bind_some]
      simp only
      have hq := qR_len m key
      obtain ⟨s17, g1, g2⟩ := c44 (n + 3) f2 (by omega) (by omega) H3
      rw [st3, cond_true, g1, Option.bind_some]
      simp only
      have hql : ((lkOf t key).q.map (·.o)).length ≤ 390 := by rw [List.length_map]; have := hsz key; omega
      rw [st4, cond_true, p15 (n + 3) (RdI.e e2) (RdI.e g2) (by omega) (by omega), Option.bind_some, r.queue, decide_eq_true rfl]
      simp only
      rw [st4, cond_true, Bool.not_true, cond_false, inc_nat (by omega)]
      have k3 : KP H H3 := KP.tr (KP.tr b3 d2) e3
      obtain ⟨H', w1, w2⟩ := ih (c + 1) (h.kn k3) (by omega) (by omega)
      exact ⟨H', w1, KP.tr k3 w2⟩
    · have hdt : decide ((c : Int) < (k5.length : Int)) = false := decide_eq_false (by show ¬ (c : Int) < 5; omega)
      rw [hdt, cond_false]
      obtain ⟨H', a, b⟩ := l241 n hn r hi hx hN hN2 hs hz (n + 4) 0 h (by omega) (by omega)
      exact ⟨H', a, b⟩
theorem c24 (n : Nat) (hn : 3000 ≤ n) {k : Nat} {F : List Nat} (r : Rel t m) (hi : IT t) (hx : XT S t) {N : Nat} (hN : NB N t) (hN2 : N ≤ 390) {s1 : VS} (hs : IsL s1 m) (hz : m.length ≤ 900) {H : VH} (h : TO H k F t) :
    ∃ H', V.callD (vF P tab (n + 5)) P false (.one (.flat .bool)) 24 [.ptr (.ob k 0), .sl 82 s1] H = some (true, H') ∧ KP H H' := by
  obtain ⟨H', a, b⟩ := l240 n hn r hi hx hN hN2 hs (s5 := .fz (strs k5) (.ex 5)) (.fz _ _) hz (n + 4) 0 h (by omega) (by omega)
  refine ⟨H', callD_bool ?_, b⟩
  rw [vF_body rfl, f24_eq]
  exact a
end
/-! ### The law -/
def S6 : List Int := (List.range 6).map fun (i : Nat) => (i : Int)
theorem mem_S6 (a : Nat) : ((a % 6 : Nat) : Int) ∈ S6 := List.mem_map.2 ⟨a % 6, List.mem_range.2 (Nat.mod_lt a (by omega)), rfl⟩
theorem lp0 (n : Nat) (hn : 15000 ≤ n) {s0 : VS} {A : List Ac} (hs0 : IsE s0 (actE A)) (hA : A.length ≤ 100) (hok : ∀ x ∈ A, x.ok) {k : Nat} : ∀ (f c : Nat) {H : VH} {F : List Nat} {t : Tb} {m : List Ln} {s4 : VS}, c ≤ A.length → A.length < c + f → TO H k F t → IT t → XT S6 t → NB c t → Rel t m → IsL s4 m → m.length ≤ c →
    ∃ H', L8_0 (n + 6) f s0 (.ob k 0) s4 (c : Int) H = some (.bool true, H') := by
  intro f
  induction f with
  | zero => intros; omega
  | succ f ih =>
    intro c H F t m s4 hc hm h hi hx hN r hs hz
    rw [L8_0_eq, hs0.len, actE_len]
    by_cases hcl : c < A.length
    · obtain ⟨x, hxx⟩ := get_of hcl
      have hdt : decide ((c : Int) < (A.length : Int)) = true := decide_eq_true (by omega)
      have hxo := hok x (List.mem_of_getElem? hxx)
      have r6 : remI (x.o : Int) 6 = some ((x.o % 6 : Nat) : Int) := remI_nat (y := 6) (by decide)
      have r4 : remI (x.d : Int) 4 = some ((x.d % 4 : Nat) : Int) := remI_nat (y := 4) (by decide)
      have hw : IntKind.wrap .i64 ((x.o % 6 : Nat) : Int) = ((x.o % 6 : Nat) : Int) := i64_nat (by omega)
      rw [hdt, cond_true, rd_act hs0 hxx, Option.bind_some, at_a0, Option.bind_some, ld_a0, Option.bind_some, r6, Option.bind_some, Option.bind_some, ld_aa, Option.bind_some]
      simp only
      rw [c19 (n + 5) hxo H, Option.bind_some, Option.bind_some, at_a2, Option.bind_some, ld_a2, Option.bind_some, r4, Option.bind_some, hw]
      cases hd : (((x.d % 4 : Nat) : Int) == 3) with
      | true =>
        obtain ⟨s1, s2, b1, b2, b3⟩ := c22 (n + 2) hs ((x.o % 6 : Nat) : Int) (by omega) (by omega) H
        rw [cond_true, b1, Option.bind_some]
        simp only
        obtain ⟨s', H1, F1, a1, a2, a3, a4⟩ := free_n (n + 1) (by omega) h hN (by omega) ((x.o % 6 : Nat) : Int)
        rw [a1, Option.bind_some]
        simp only
        obtain ⟨e1, e2⟩ := r.free hi hx ((x.o % 6 : Nat) : Int)
        rw [← e2] at b3
        have hfl : (freeP t ((x.o % 6 : Nat) : Int)).2.length ≤ 10000 := by
          rw [e2]
          have q1 := (freeKR_len (riseS ((ofO m ((x.o % 6 : Nat) : Int)).map (·.k))) (notO m ((x.o % 6 : Nat) : Int))).2
          have q2 : (notO m ((x.o % 6 : Nat) : Int)).length ≤ 100 := Nat.le_trans (List.length_filter_le _ _) (by omega)
          have q3 : (riseS ((ofO m ((x.o % 6 : Nat) : Int)).map (·.k))).length ≤ 100 := by
            refine Nat.le_trans (riseS_len _) ?_
            rw [List.length_map]
            exact Nat.le_trans (List.length_filter_le _ _) (by omega)
          have q4 := Nat.mul_le_mul q3 q2
          show (freeKR _ _).2.length ≤ _
          omega
        rw [p15 (n + 5) (RdI.e a3) (RdI.e b3) (by omega) (by omega), Option.bind_some, decide_eq_true rfl]
        simp only
        rw [Bool.not_true, cond_false]
        have hm2 := freeR_len m ((x.o % 6 : Nat) : Int)
        obtain ⟨H2, d1, d2⟩ := c24 (n + 1) (by omega) e1 (hi.free _) (XT.free hi hx _) a4 (by omega) b2 (by omega) a2
        rw [d1, Option.bind_some]
        simp only
        rw [Bool.not_true, cond_false, inc_nat (by omega)]
        exact ih (c + 1) (by omega) (by omega) (a2.kn d2) (hi.free _) (XT.free hi hx _) (a4.mono (by omega)) e1 b2 (by omega)
      | false =>
        obtain ⟨s1, b1, b2⟩ := c23 (n + 2) hs ((x.o % 6 : Nat) : Int) (kJ (x.k % 4)) (decide (x.d / 4 % 2 = 0)) (by omega) (by omega) H
        rw [cond_false, kbA_key, b1, Option.bind_some]
        simp only
        obtain ⟨H1, F1, a1, a2, a3⟩ := ask_n (n + 1) (by omega) h hN (by omega) ((x.o % 6 : Nat) : Int) (kJ (x.k % 4)) (decide (x.d / 4 % 2 = 0)) (by omega) (by simp [kJ])
        rw [a1, Option.bind_some]
        simp only
        obtain ⟨e1, e2⟩ := r.ask hi hx ((x.o % 6 : Nat) : Int) (kJ (x.k % 4)) (decide (x.d / 4 % 2 = 0))
        rw [e2, beq_self, Bool.not_true, cond_false]
        have hm2 := askR_len m ((x.o % 6 : Nat) : Int) (kJ (x.k % 4)) (decide (x.d / 4 % 2 = 0))
        have hx2 := XT.ask hi hx ((x.o % 6 : Nat) : Int) (mem_S6 x.o) (kJ (x.k % 4)) (decide (x.d / 4 % 2 = 0))
        obtain ⟨H2, d1, d2⟩ := c24 (n + 1) (by omega) e1 (hi.ask _ _ _) hx2 a3 (by omega) b2 (by omega) a2
        rw [d1, Option.bind_some]
        simp only
        rw [Bool.not_true, cond_false, inc_nat (by omega)]
        exact ih (c + 1) (by omega) (by omega) (a2.kn d2) (hi.ask _ _ _) hx2 a3 e1 b2 (by omega)
    · have hdt : decide ((c : Int) < (A.length : Int)) = false := decide_eq_false (by omega)
      rw [hdt, cond_false]
      exact ⟨H, rfl⟩
theorem lockPlays_law (us : List V) (h : HasAs P [37] us) : ∃ n H', vF P tab n 8 us [] = some (.bool true, H') := by
  match us, h with
  | [u0], ⟨h0, _⟩ =>
    obtain ⟨d, s, es, rfl, hs, hl, hes⟩ := hasA_sl (e := 39) (by kernel_rfl) h0
    obtain ⟨A, rfl, hA0⟩ := lst_of (f := Ac.cells) (Q := Ac.ok) (es := es) (fun y hy => ac_cells (hes y hy).1)
    have hs : IsE s (actE A) := hs
    obtain ⟨N, hN⟩ : ∃ N, 20000 ≤ N := ⟨20000, Nat.le_refl _⟩
    refine ⟨N + 66, ?_⟩
    rw [vF_body rfl, f8_eq, c_lets (N + 5), show (!(true, ([] : VH)).1) = false from rfl, cond_false, hs.len, actE_len]
    by_cases hA : 100 < A.length
    · have hd : decide ((A.length : Int) > 100) = true := decide_eq_true (by omega)
      rw [hd, cond_true, c_lets (N + 5)]
      exact ⟨_, rfl⟩
    · have hd : decide ((A.length : Int) > 100) = false := decide_eq_false (by omega)
      rw [hd, cond_false]
      obtain ⟨k, H1, F1, a1, a2⟩ := p11 (N + 64) []
      rw [a1, Option.bind_some]
      obtain ⟨H', b1⟩ := lp0 (N + 59) (by omega) hs (by omega) hA0 (N + 65) 0 (s4 := .nil) (Nat.zero_le _) (by omega) a2 IT.zero (XT.zero _) NB.zero Rel.zero .nil (Nat.le_refl _)
      rw [show ((0 : Nat) : Int) = 0 from rfl] at b1
      exact ⟨H', b1⟩
end Go.Proofs.Ytgmgpandhaeniaa.R
