import Derived.Test.YtibdinelkpbhaaaB15e
import Derived.Test.YtibdinelkpbhaaaB15a
set_option maxRecDepth 100000
set_option linter.unusedVariables false
set_option linter.unusedSimpArgs false
namespace Go.Proofs.Ytibdinelkpbhaaa
open Go.Proofs.Ytibdinelkpbhaaa.Sh Go.Proofs.Ytibdinelkpbhaaa.Sh.V Go.RowKit Go.Proofs.Ytibdinelkpbhaaa.Sh.Lk
theorem nb_sz {N : Nat} {t : Tb} (h : NB N t) (hN : N ≤ 1500) : SZ t :=
  ⟨by have := h.m; omega, by have := h.w; omega, fun k x hx => by have : x.hs.length + x.q.length ≤ N := h.l _ (gM_mem hx); omega⟩
theorem nb_s2 {N : Nat} {t : Tb} (h : NB N t) (hN : N ≤ 390) (key : Key) : (lkOf t key).hs.length + (lkOf t key).q.length < 1900 := by have := h.of key; omega
theorem ask_n (n : Nat) (hn : 3000 ≤ n) {H : VH} {k : Nat} {F : List Nat} {t : Tb} {N : Nat} (h : TO H k F t) (hN : NB N t) (hN2 : N ≤ 390) (o : Int) (key : Key) (only : Bool) (ho : -9223372036854775808 ≤ o ∧ o ≤ 9223372036854775807) (hkl : key.length ≤ 9223372036854775807) :
    ∃ H' F', V.callD (vF P tab (n + 10)) P false (.one (.flat .bool)) 11 [.ptr (.ob k 0), .int .i64 o, .agg [.str ⟨key.toArray⟩, .bool only]] H = some ((askP t o key only).2, H') ∧ TO H' k F' (askP t o key only).1 ∧ NB (N + 1) (askP t o key only).1 := by
  obtain ⟨H', F', h1, h2, _⟩ := p12 (n + 6) (by omega) h (nb_sz hN (by omega)) (by have := hN.m; omega) o key only ho hkl
  exact ⟨H', F', h1, h2, hN.ask o key only⟩
theorem kJ_len (j : Nat) : (kJ j).length ≤ 9223372036854775807 := by simp [kJ]
theorem sub1 {K : Nat} (hK : 1 ≤ K) (h2 : K < 1000) : IntKind.wrap .i64 ((K : Int) - 1) = ((K - 1 : Nat) : Int) := by
  rw [show (K : Int) - 1 = ((K - 1 : Nat) : Int) by omega]; exact i64_nat (by omega)
/-! ### WaitChain -/
section
variable (n : Nat) (hn : 3000 ≤ n) {kp K : Nat} (hK : 2 ≤ K) (hK2 : K < 11) (share : Bool)
include hn hK hK2
theorem c50 : ∀ (m i : Nat) {H : VH} {F : List Nat} {t : Tb}, TO H kp F t → NB i t → i ≤ K → K < i + m →
    ∃ H' F', L5_0 (n + 10) m share (K : Int) (.ob kp 0) (i : Int) H = L5_1 (n + 10) (n + 10) share (K : Int) (.ob kp 0) 0 H' ∧ TO H' kp F' (ch1 (K - i) i t) ∧ NB K (ch1 (K - i) i t) := by
  intro m
  induction m with
  | zero => intros; omega
  | succ m ih =>
    intro i H F t h hN hi hm
    rw [L5_0_eq]
    by_cases hc : i < K
    · have hdt : decide ((i : Int) < (K : Int)) = true := decide_eq_true (by omega)
      obtain ⟨H1, F1, a1, a2, a3⟩ := ask_n n hn h hN (by omega) (i : Int) (kJ i) true (by omega) (kJ_len _)
      rw [hdt, cond_true, strK H i (by omega), Option.bind_some, a1, Option.bind_some]
      simp only
      rw [inc_nat (by omega)]
      obtain ⟨H', F', b1, b2, b3⟩ := ih (i + 1) a2 a3 (by omega) (by omega)
      rw [show K - i = (K - (i + 1)) + 1 by omega, ch1]
      exact ⟨H', F', b1, b2, b3⟩
    · have : i = K := by omega
      subst this
      have hdt : decide ((i : Int) < (i : Int)) = false := decide_eq_false (by omega)
      rw [hdt, cond_false, Nat.sub_self]
      exact ⟨H, F, rfl, h, hN⟩
theorem c51 : ∀ (m i : Nat) {H : VH} {F : List Nat} {t : Tb}, TO H kp F t → NB (K + i) t → i ≤ K - 1 → K - 1 < i + m →
    ∃ H' F', L5_1 (n + 10) m share (K : Int) (.ob kp 0) (i : Int) H = L5_2 (n + 10) (n + 10) (K : Int) (.ob kp 0) 0 H' ∧ TO H' kp F' (ch2 (!share) (K - 1 - i) i t) ∧ NB (K + (K - 1)) (ch2 (!share) (K - 1 - i) i t) := by
  intro m
  induction m with
  | zero => intros; omega
  | succ m ih =>
    intro i H F t h hN hi hm
    rw [L5_1_eq, sub1 (by omega) (by omega)]
    by_cases hc : i < K - 1
    · have hdt : decide ((i : Int) < ((K - 1 : Nat) : Int)) = true := decide_eq_true (by omega)
      obtain ⟨H1, F1, a1, a2, a3⟩ := ask_n n hn h hN (by omega) (i : Int) (kJ (i + 1)) (!share) (by omega) (kJ_len _)
      rw [hdt, cond_true, strK1 H i (by omega), Option.bind_some, a1, Option.bind_some]
      simp only
      rw [inc_nat (by omega)]
      obtain ⟨H', F', b1, b2, b3⟩ := ih (i + 1) a2 a3 (by omega) (by omega)
      rw [show K - 1 - i = (K - 1 - (i + 1)) + 1 by omega, ch2]
      exact ⟨H', F', b1, b2, b3⟩
    · have : i = K - 1 := by omega
      subst this
      have hdt : decide (((K - 1 : Nat) : Int) < ((K - 1 : Nat) : Int)) = false := decide_eq_false (by omega)
      rw [hdt, cond_false, Nat.sub_self]
      exact ⟨H, F, rfl, h, hN⟩
theorem c52 {F : List Nat} {T : Tb} (hN : NB 30 T) (hT : T = chT K share) : ∀ (m i : Nat) {H : VH}, TO H kp F T → i ≤ K → K < i + m →
    ∃ H', L5_2 (n + 10) m (K : Int) (.ob kp 0) (i : Int) H = some (.bool true, H') := by
  intro m
  induction m with
  | zero => intros; omega
  | succ m ih =>
    intro i H h hi hm
    rw [L5_2_eq]
    by_cases hc : i < K
    · have hok := chOK_all K hK2 share
      rw [decide_eq_false (by omega), Bool.false_or] at hok
      have hok := List.all_eq_true.1 hok i (List.mem_range.2 hc)
      rw [← hT] at hok
      simp only [Bool.and_eq_true] at hok
      obtain ⟨⟨⟨o1, o2⟩, o3⟩, o4⟩ := hok
      have o2 := of_decide_eq_true o2
      have o3 := of_decide_eq_true o3
      unfold okR at o1
      rw [Bool.and_eq_true] at o1
      have hR0 := rc_some o1.1
      have hR : ∀ x ∈ rcD T (i : Int), reachO T 1000 [] (aheadP T x) = some (rcD T x) := fun x hx => rc_some (List.all_eq_true.1 o1.2 x hx)
      have sz := nb_s2 hN (by omega)
      have hdt : decide ((i : Int) < (K : Int)) = true := decide_eq_true (by omega)
      obtain ⟨s1, H1, a1, a2, a3, _⟩ := pR (n + 5) (by omega) h sz (i : Int) hR0
      have h1 := h.kn a3
      obtain ⟨s2, H2, b1, b2, b3⟩ := pS (n + 1) (by omega) h1 sz (i : Int) hR0 hR
      have h2 := h1.kn b3
      rw [hdt, cond_true, a1, Option.bind_some, sub1 (by omega) (by omega)]
      have e1 : s1.len = K - 1 - i := by rw [a2.len, ints_len, sortI_len, o2]
      have e2 : s2.len = 0 := by
        rw [b2.len, ints_len]; exact o3
      have e3 : IntKind.wrap .i64 (((K - 1 : Nat) : Int) - (i : Int)) = ((K - 1 - i : Nat) : Int) := by
        rw [show ((K - 1 : Nat) : Int) - (i : Int) = ((K - 1 - i : Nat) : Int) by omega]; exact i64_nat (by omega)
      have e4 : ((((K - 1 - i : Nat) : Int)) != ((K - 1 - i : Nat) : Int)) = false := by simp
      simp only [e1, e3, e4, cond_false]
      rw [b1, Option.bind_some]
      simp only [e2]
      rw [show ((((0 : Nat) : Int)) != 0) = false from rfl, cond_false, inc_nat (by omega)]
      by_cases hl : i < K - 1
      · have hd2 : decide ((i : Int) < ((K - 1 : Nat) : Int)) = true := decide_eq_true (by omega)
        rw [decide_eq_false (not_not_intro hl), Bool.false_or] at o4
        have o4 := of_decide_eq_true o4
        obtain ⟨s3, H3, c1, c2, c3, _⟩ := p21 (n + 7) (by omega) h2 (i : Int) sz
        rw [o4] at c2
        rw [hd2, cond_true, c1, Option.bind_some]
        simp only
        rw [p15 (n + 9) (RdI.r c2) (RdI.e (show IsE (.fz [[.int .i64 ((i + 1 : Nat) : Int)]] (.ex 1)) (ints [((i + 1 : Nat) : Int)]) from .fz _ _)) (by simp) (by simp), Option.bind_some]
        simp only [decide_true, Bool.not_true, cond_false]
        exact ih (i + 1) (h2.kn c3) (by omega) (by omega)
      · have hd2 : decide ((i : Int) < ((K - 1 : Nat) : Int)) = false := decide_eq_false (by omega)
        rw [hd2, cond_false]
        exact ih (i + 1) h2 (by omega) (by omega)
    · have hdt : decide ((i : Int) < (K : Int)) = false := decide_eq_false (by omega)
      rw [hdt, cond_false]
      exact ⟨H, rfl⟩
end
theorem waitChain_law (us : List V) (h : HasAs P [5, 4] us) : ∃ n H', vF P tab n 5 us [] = some (.bool true, H') := by
  match us, h with
  | [u0, u1], ⟨h0, h1, _⟩ =>
    obtain ⟨x, rfl, hx⟩ := hasA_int (k := .u8) (by kernel_rfl) h0
    obtain ⟨share, rfl⟩ := hasA_bool (by kernel_rfl) h1
    obtain ⟨x1, x2⟩ := wf_u8 hx
    obtain ⟨a, rfl⟩ : ∃ a : Nat, x = (a : Int) := ⟨x.toNat, by omega⟩
    obtain ⟨N, hN⟩ : ∃ N, 3000 ≤ N := ⟨3000, Nat.le_refl _⟩
    refine ⟨N + 66, ?_⟩
    rw [vF_body rfl, f5_eq, c_rings (N + 5), show (!(true, ([] : VH)).1) = false from rfl, cond_false]
    have r9 : remI (a : Int) 9 = some ((a % 9 : Nat) : Int) := remI_nat (y := 9) (by decide)
    obtain ⟨k, H1, F1, a1, a2⟩ := p11 (N + 64) []
    have hw : IntKind.wrap .i64 (2 + IntKind.wrap .i64 ((a % 9 : Nat) : Int)) = ((2 + a % 9 : Nat) : Int) := by
      rw [i64_nat (by omega), show (2 : Int) + ((a % 9 : Nat) : Int) = ((2 + a % 9 : Nat) : Int) by omega]
      exact i64_nat (by omega)
    rw [r9, Option.bind_some, a1, Option.bind_some, hw]
    obtain ⟨H2, F2, b1, b2, b3⟩ := c50 (N + 55) (by omega) (K := 2 + a % 9) (by omega) (by omega) share (N + 65) 0 a2 NB.zero (Nat.zero_le _) (by omega)
    rw [show ((0 : Nat) : Int) = 0 from rfl] at b1
    rw [Nat.sub_zero] at b2 b3
    obtain ⟨H3, F3, c1, c2, c3⟩ := c51 (N + 55) (by omega) (K := 2 + a % 9) (by omega) (by omega) share (N + 65) 0 b2 b3 (Nat.zero_le _) (by omega)
    rw [show ((0 : Nat) : Int) = 0 from rfl] at c1
    rw [Nat.sub_zero] at c2 c3
    obtain ⟨H', d1⟩ := c52 (N + 55) (by omega) (K := 2 + a % 9) (by omega) (by omega) share (c3.mono (by omega)) rfl (N + 65) 0 c2 (Nat.zero_le _) (by omega)
    rw [show ((0 : Nat) : Int) = 0 from rfl] at d1
    exact ⟨H', b1.trans (c1.trans d1)⟩
end Go.Proofs.Ytibdinelkpbhaaa
