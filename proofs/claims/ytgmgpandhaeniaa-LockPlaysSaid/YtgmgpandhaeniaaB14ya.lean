import Derived.Test.YtgmgpandhaeniaaB14xf
import Derived.Test.YtgmgpandhaeniaaVd
set_option maxRecDepth 100000
set_option linter.unusedVariables false
set_option linter.unusedSimpArgs false
namespace Go.Proofs.Ytgmgpandhaeniaa
open Go.Proofs.Ytgmgpandhaeniaa.Sh Go.Proofs.Ytgmgpandhaeniaa.Sh.V Go.RowKit Go.Proofs.Ytgmgpandhaeniaa.Sh.Lk
theorem nb_sz {N : Nat} {t : Tb} (h : NB N t) (hN : N ≤ 1500) : SZ t :=
  ⟨by have := h.m; omega, by have := h.w; omega, fun k x hx => by have : x.hs.length + x.q.length ≤ N := h.l _ (gM_mem hx); omega⟩
theorem ask_n (n : Nat) (hn : 3000 ≤ n) {H : VH} {k : Nat} {F : List Nat} {t : Tb} {N : Nat} (h : TO H k F t) (hN : NB N t) (hN2 : N ≤ 390) (o : Int) (key : Key) (only : Bool) (ho : -9223372036854775808 ≤ o ∧ o ≤ 9223372036854775807) (hkl : key.length ≤ 9223372036854775807) :
    ∃ H' F', V.callD (vF P tab (n + 5)) P false (.one (.flat .bool)) 12 [.ptr (.ob k 0), .int .i64 o, .agg [.str ⟨key.toArray⟩, .bool only]] H = some ((askP t o key only).2, H') ∧ TO H' k F' (askP t o key only).1 ∧ NB (N + 1) (askP t o key only).1 := by
  obtain ⟨H', F', h1, h2⟩ := p12 (n + 1) (by omega) h (nb_sz hN (by omega)) (by have := hN.m; omega) o key only ho hkl
  exact ⟨H', F', h1, h2, hN.ask o key only⟩
theorem free_n (n : Nat) (hn : 3000 ≤ n) {H : VH} {k : Nat} {F : List Nat} {t : Tb} {N : Nat} (h : TO H k F t) (hN : NB N t) (hN2 : N ≤ 390) (o : Int) :
    ∃ s' H' F', V.callD (vF P tab (n + 5)) P false (.one (.flat (.slice 3))) 13 [.ptr (.ob k 0), .int .i64 o] H = some (s', H') ∧ TO H' k F' (freeP t o).1 ∧ IsE s' (ints (freeP t o).2) ∧ NB N (freeP t o).1 := by
  obtain ⟨s', H', F', h1, h2, h3⟩ := p13 n hn h o (by have := hN.m; omega) hN.nd (fun p hp => by have := hN.l p hp; omega)
  exact ⟨s', H', F', h1, h2, h3, hN.free o⟩
theorem c_lets (n : Nat) (H : VH) {β : Type} (f : Bool × VH → Option β) : ((callD (vF P tab (n + 60)) P false (.one (.flat .bool)) 10 [] H).bind f) = f (true, H) := by rw [lets_c]; rfl
/-! ### LockUp -/
theorem l40 (m0 : Nat) (hm0 : 3000 ≤ m0) {k : Nat} {n : Nat} (hn : n ≤ 6) (s7 : Int) : ∀ (m i : Nat) {H : VH} {F : List Nat} {t : Tb}, TO H k F t → NB i t → i ≤ n + 1 → n + 1 < i + m →
    ∃ H' F', L4_0 (m0 + 5) m (.ob k 0) (n : Int) s7 (i : Int) H = L4_1 (m0 + 5) (m0 + 5) (.ob k 0) (n : Int) s7 0 H' ∧ TO H' k F' (askN false (n + 1 - i) (i : Int) t) ∧ NB (n + 1) (askN false (n + 1 - i) (i : Int) t) := by
  intro m
  induction m with
  | zero => intros; omega
  | succ m ih =>
    intro i H F t h hN hi hm
    rw [L4_0_eq]
    by_cases hc : i ≤ n
    · have hdt : decide ((i : Int) ≤ (n : Int)) = true := decide_eq_true (by omega)
      obtain ⟨H1, F1, a1, a2, a3⟩ := ask_n m0 hm0 h hN (by omega) (i : Int) kA false (by omega) (by simp [kA])
      rw [hdt, cond_true, kA_eq, a1, Option.bind_some]
      simp only
      rw [inc_nat (by omega)]
      obtain ⟨H', F', b1, b2, b3⟩ := ih (i + 1) a2 a3 (by omega) (by omega)
      have e : askN false (n + 1 - i) (i : Int) t = askN false (n + 1 - (i + 1)) ((i + 1 : Nat) : Int) (askP t (i : Int) kA false).1 := by
        rw [show n + 1 - i = (n + 1 - (i + 1)) + 1 by omega]; rfl
      rw [e]
      exact ⟨H', F', b1, b2, b3⟩
    · have : i = n + 1 := by omega
      subst this
      have hdt : decide (((n + 1 : Nat) : Int) ≤ (n : Int)) = false := decide_eq_false (by omega)
      rw [hdt, cond_false, Nat.sub_self]
      exact ⟨H, F, rfl, h, hN⟩
theorem l42 (m0 : Nat) (hm0 : 3000 ≤ m0) {k : Nat} {n kk : Nat} (hn : n ≤ 6) (hkk : kk ≤ 5) : ∀ (m i : Nat) {H : VH} {F : List Nat} {t t' : Tb}, TO H k F t → NB 20 t → i ≤ n + 1 → n + 1 < i + m → upFree n (n + 1 - i) i t = some t' →
    ((lkOf t' kA).only && decide ((lkOf t' kA).hs = [0]) && decide ((lkOf t' kA).q.length = kk) && (cond (decide (kk = 0)) (decide ((freeP t' 0).2.length = 0)) (decide ((freeP t' 0).2 = [50])))) = true →
    ∃ H', L4_2 (m0 + 5) m (.ob k 0) (n : Int) (kk : Int) (i : Int) H = some (.bool true, H') := by
  intro m
  induction m with
  | zero => intros; omega
  | succ m ih =>
    intro i H F t t' h hN hi hm hu hfin
    rw [L4_2_eq]
    by_cases hc : i ≤ n
    · have hdt : decide ((i : Int) ≤ (n : Int)) = true := decide_eq_true (by omega)
      obtain ⟨s', H1, F1, a1, a2, a3, a4⟩ := free_n m0 hm0 h hN (by omega) (i : Int)
      rw [hdt, cond_true, a1, Option.bind_some]
      simp only
      rw [show n + 1 - i = (n + 1 - (i + 1)) + 1 by omega, upFree] at hu
      have hl : s'.len = (freeP t (i : Int)).2.length := by rw [a3.len, ints_len]
      cases hcond : ((decide (i < n) && !(freeP t (i : Int)).2.isEmpty) || (decide (i = n) && !decide ((freeP t (i : Int)).2 = [0]))) with
      | true => rw [hcond] at hu; cases hu
      | false =>
        rw [hcond, cond_false] at hu
        rw [Bool.or_eq_false_iff] at hcond
        have go := ih (i + 1) a2 a4 (by omega) (by omega) hu hfin
        rw [inc_nat (by omega), hl]
        by_cases hlt : i < n
        · have hd1 : decide ((i : Int) < (n : Int)) = true := decide_eq_true (by omega)
          have he : (freeP t (i : Int)).2.length = 0 := by
            have := hcond.1
            rw [decide_eq_true hlt, Bool.true_and, Bool.not_eq_false'] at this
            simpa using this
          have hne : (((i : Int)) == (n : Int)) = false := by
            have : (i : Int) ≠ (n : Int) := by omega
            simpa using this
          rw [hd1, cond_true, he]
          rw [show ((((0 : Nat) : Int)) != 0) = false from rfl, cond_false, hne, cond_false]
          exact go
        · have hin : i = n := by omega
          have hd1 : decide ((i : Int) < (n : Int)) = false := decide_eq_false (by omega)
          have he : (freeP t (i : Int)).2 = [0] := by
            have := hcond.2
            rw [decide_eq_true hin, Bool.true_and, Bool.not_eq_false'] at this
            exact of_decide_eq_true this
          have hne : (((i : Int)) == (n : Int)) = true := by rw [hin]; simp
          rw [hd1, cond_false, hne, cond_true]
          rw [p15 (m0 + 4) (RdI.e a3) (RdI.e (show IsE (.fz [[.int .i64 0]] (.ex 1)) (ints [0]) from .fz _ _)) (by rw [he]; simp) (by rw [he]; simp), Option.bind_some]
          simp only [he, decide_true, Bool.not_true, cond_false]
          exact go
    · have : i = n + 1 := by omega
      subst this
      rw [Nat.sub_self, upFree] at hu
      injection hu with hu
      subst hu
      have hdt : decide (((n + 1 : Nat) : Int) ≤ (n : Int)) = false := decide_eq_false (by omega)
      simp only [Bool.and_eq_true] at hfin
      obtain ⟨⟨⟨f1, f2⟩, f3⟩, f4⟩ := hfin
      have f2 := of_decide_eq_true f2
      have f3 := of_decide_eq_true f3
      obtain ⟨H1, b1, b2⟩ := p16 (m0 + 3) h kA
      rw [hdt, cond_false, kA_eq, b1, Option.bind_some]
      simp only [f1, Bool.not_true, cond_false]
      have hof := hN.of kA
      obtain ⟨s2, H2, c1, c2, c3⟩ := p17 (m0 + 3) (h.kn b2) kA (by omega)
      rw [c1, Option.bind_some]
      simp only
      rw [p15 (m0 + 4) (RdI.e c2) (RdI.e (show IsE (.fz [[.int .i64 0]] (.ex 1)) (ints [0]) from .fz _ _)) (by omega) (by omega), Option.bind_some]
      simp only [f2, decide_true, Bool.not_true, cond_false]
      obtain ⟨s3, H3, d1, d2, d3⟩ := p18 (m0 + 3) (by omega) ((h.kn b2).kn c3) kA (by omega)
      rw [d1, Option.bind_some]
      simp only
      have hl3 : s3.len = kk := by rw [d2.len, ints_len, List.length_map, f3]
      have hnk : ((((kk : Nat) : Int)) != (kk : Int)) = false := by simp
      rw [hl3, hnk, cond_false]
      obtain ⟨s4, H4, F4, e1, e2, e3, e4⟩ := free_n m0 hm0 (((h.kn b2).kn c3).kn d3) hN (by omega) 0
      rw [e1, Option.bind_some]
      simp only
      have hl4 : s4.len = (freeP t 0).2.length := by rw [e3.len, ints_len]
      by_cases hk0 : kk = 0
      · have hq : ((kk : Int) == 0) = true := by rw [hk0]; rfl
        rw [decide_eq_true hk0, cond_true] at f4
        have f4 := of_decide_eq_true f4
        rw [hq, cond_true, hl4, f4, show ((((0 : Nat) : Int)) == 0) = true from rfl, cond_true]
        exact ⟨_, rfl⟩
      · have hq : ((kk : Int) == 0) = false := by
          have : (kk : Int) ≠ 0 := by omega
          simpa using this
        rw [decide_eq_false hk0, cond_false] at f4
        have f4 := of_decide_eq_true f4
        have hgt : decide ((kk : Int) > 0) = true := decide_eq_true (by omega)
        rw [hq, cond_false, hgt, cond_true]
        rw [p15 (m0 + 4) (RdI.e e3) (RdI.e (show IsE (.fz [[.int .i64 50]] (.ex 1)) (ints [50]) from .fz _ _)) (by rw [f4]; simp) (by rw [f4]; simp), Option.bind_some]
        simp only [f4, decide_true]
        exact ⟨_, rfl⟩
theorem l41 (m0 : Nat) (hm0 : 3000 ≤ m0) {k : Nat} {n kk : Nat} (hn : n < 6) (hkk : kk < 5) {t0 : Tb} (ht0 : t0 = askN false n 1 (askP ⟨[], []⟩ 0 kA false).1) : ∀ (m j : Nat) {H : VH} {F : List Nat} {t : Tb}, TO H k F t → NB (n + 1 + j) t → j ≤ kk → kk < j + m → askN true (kk - j) (50 + (j : Int)) t = up3 n kk →
    ∃ H', L4_1 (m0 + 5) m (.ob k 0) (n : Int) (kk : Int) (j : Int) H = some (.bool true, H') := by
  intro m
  induction m with
  | zero => intros; omega
  | succ m ih =>
    intro j H F t h hN hj hm hst
    rw [L4_1_eq]
    by_cases hc : j < kk
    · have hdt : decide ((j : Int) < (kk : Int)) = true := decide_eq_true (by omega)
      have hw : IntKind.wrap .i64 (50 + (j : Int)) = 50 + (j : Int) := i64_in (by omega)
      obtain ⟨H1, F1, a1, a2, a3⟩ := ask_n m0 hm0 h hN (by omega) (50 + (j : Int)) kA true (by omega) (by simp [kA])
      rw [hdt, cond_true, kA_eq, hw, a1, Option.bind_some]
      simp only
      rw [inc_nat (by omega)]
      refine ih (j + 1) a2 a3 (by omega) (by omega) ?_
      rw [← hst, show kk - j = (kk - (j + 1)) + 1 by omega, askN]
      have e : (50 : Int) + ((j + 1 : Nat) : Int) = 50 + (j : Int) + 1 := by omega
      rw [e]
    · have : j = kk := by omega
      subst this
      have hdt : decide ((j : Int) < (j : Int)) = false := decide_eq_false (by omega)
      rw [Nat.sub_self] at hst
      have hst : t = up3 n j := hst
      subst hst
      obtain ⟨H1, F1, a1, a2, a3⟩ := ask_n m0 hm0 h hN (by omega) 0 kA true (by omega) (by simp [kA])
      rw [hdt, cond_false, kA_eq, a1, Option.bind_some]
      simp only
      have hup := upOK_all n hn j hkk
      unfold upOK at hup
      rw [Bool.and_eq_true] at hup
      obtain ⟨hu1, hu2⟩ := hup
      have hu1 : (askP (up3 n j) 0 kA true).2 = decide (n = 0) := by simpa using hu1
      have he : (((n : Int)) == 0) = decide (n = 0) := by
        rw [show (0 : Int) = ((0 : Nat) : Int) from rfl, beqI]
      rw [hu1, he]
      simp only [beq_self_eq_true, Bool.not_true, cond_false]
      cases huf : upFree n n 1 (askP (up3 n j) 0 kA true).1 with
      | none => rw [huf] at hu2; cases hu2
      | some t' =>
        rw [huf] at hu2
        exact l42 m0 hm0 (by omega) (by omega) (m0 + 5) 1 a2 (a3.mono (by omega)) (by omega) (by omega) (by rw [Nat.add_sub_cancel]; exact huf) hu2
theorem lockUp_law (us : List V) (h : HasAs P [5, 5] us) : ∃ n H', vF P tab n 4 us [] = some (.bool true, H') := by
  match us, h with
  | [u0, u1], ⟨h0, h1, _⟩ =>
    obtain ⟨x, rfl, hx⟩ := hasA_int (k := .u8) (by kernel_rfl) h0
    obtain ⟨y, rfl, hy⟩ := hasA_int (k := .u8) (by kernel_rfl) h1
    obtain ⟨x1, x2⟩ := wf_u8 hx
    obtain ⟨y1, y2⟩ := wf_u8 hy
    obtain ⟨a, rfl⟩ : ∃ a : Nat, x = (a : Int) := ⟨x.toNat, by omega⟩
    obtain ⟨b, rfl⟩ : ∃ a : Nat, y = (a : Int) := ⟨y.toNat, by omega⟩
    obtain ⟨N, hN⟩ : ∃ N, 3000 ≤ N := ⟨3000, Nat.le_refl _⟩
    refine ⟨N + 66, ?_⟩
    rw [vF_body rfl, f4_eq, c_lets (N + 5), show (!(true, ([] : VH)).1) = false from rfl, cond_false]
    obtain ⟨k, H1, F1, a1, a2⟩ := p11 (N + 64) []
    rw [a1, Option.bind_some]
    simp only
    have r6 : remI (a : Int) 6 = some ((a % 6 : Nat) : Int) := remI_nat (y := 6) (by decide)
    have r5 : remI (b : Int) 5 = some ((b % 5 : Nat) : Int) := remI_nat (y := 5) (by decide)
    rw [r6, Option.bind_some, r5, Option.bind_some]
    obtain ⟨H2, F2, b1, b2, b3⟩ := ask_n (N + 60) (by omega) a2 NB.zero (by omega) 0 kA false (by omega) (by simp [kA])
    rw [kA_eq, b1, Option.bind_some]
    simp only
    have hw1 : IntKind.wrap .i64 ((a % 6 : Nat) : Int) = ((a % 6 : Nat) : Int) := i64_nat (by omega)
    have hw2 : IntKind.wrap .i64 ((b % 5 : Nat) : Int) = ((b % 5 : Nat) : Int) := i64_nat (by omega)
    rw [hw1, hw2]
    obtain ⟨H3, F3, c1, c2, c3⟩ := l40 (N + 60) (by omega) (n := a % 6) (by omega) ((b % 5 : Nat) : Int) (N + 65) 1 b2 b3 (by omega) (by omega)
    rw [show ((1 : Nat) : Int) = 1 from rfl] at c1
    rw [c1]
    rw [Nat.add_sub_cancel, show ((1 : Nat) : Int) = 1 from rfl] at c2 c3
    obtain ⟨H', d1⟩ := l41 (N + 60) (by omega) (n := a % 6) (kk := b % 5) (by omega) (by omega) rfl (N + 65) 0 c2 c3 (by omega) (by omega) (by
      have e : (50 : Int) + ((0 : Nat) : Int) = 50 := by omega
      rw [Nat.sub_zero, e, up3])
    rw [show ((0 : Nat) : Int) = 0 from rfl] at d1
    exact ⟨H', d1⟩
end Go.Proofs.Ytgmgpandhaeniaa
