import Derived.Test.YtibdinelkpbhaaaB15f
set_option maxRecDepth 100000
set_option linter.unusedVariables false
set_option linter.unusedSimpArgs false
namespace Go.Proofs.Ytibdinelkpbhaaa
open Go.Proofs.Ytibdinelkpbhaaa.Sh Go.Proofs.Ytibdinelkpbhaaa.Sh.V Go.RowKit Go.Proofs.Ytibdinelkpbhaaa.Sh.Lk
/-! ### WaitRings -/
theorem ap_tp {H H' : VH} {e : TypeId} {s : VS} {es : List (List V)} (h : Ap H e s es) (tp : TP H H') : Ap H' e s es := by
  cases h with
  | nil => exact .nil
  | lit es => exact .lit es
  | tok es t ht => exact .tok es t (tp t e es.length ht)
theorem ask_t (n : Nat) (hn : 3000 ≤ n) {H : VH} {k : Nat} {F : List Nat} {t : Tb} {N : Nat} (h : TO H k F t) (hN : NB N t) (hN2 : N ≤ 390) (o : Int) (key : Key) (only : Bool) (ho : -9223372036854775808 ≤ o ∧ o ≤ 9223372036854775807) (hkl : key.length ≤ 9223372036854775807) :
    ∃ H' F', V.callD (vF P tab (n + 10)) P false (.one (.flat .bool)) 11 [.ptr (.ob k 0), .int .i64 o, .agg [.str ⟨key.toArray⟩, .bool only]] H = some ((askP t o key only).2, H') ∧ TO H' k F' (askP t o key only).1 ∧ NB (N + 1) (askP t o key only).1 ∧ TP H H' := by
  obtain ⟨H', F', h1, h2, h3⟩ := p12 (n + 6) (by omega) h (nb_sz hN (by omega)) (by have := hN.m; omega) o key only ho hkl
  exact ⟨H', F', h1, h2, hN.ask o key only, h3⟩
section
variable (n : Nat) (hn : 3000 ≤ n) {kp K : Nat} (hK : 2 ≤ K) (hK2 : K < 10) (s1 : Nat) (hs1 : s1 < 256)
include hn hK hK2
theorem g50 : ∀ (m i : Nat) {H : VH} {F : List Nat} {t : Tb}, TO H kp F t → NB i t → i ≤ K → K < i + m →
    ∃ H' F', L3_0 (n + 10) m (s1 : Int) (K : Int) (.ob kp 0) (i : Int) H = L3_1 (n + 10) (n + 10) (s1 : Int) (K : Int) (.ob kp 0) .nil 0 H' ∧ TO H' kp F' (rg1 (K - i) i t) ∧ NB K (rg1 (K - i) i t) := by
  intro m
  induction m with
  | zero => intros; omega
  | succ m ih =>
    intro i H F t h hN hi hm
    rw [L3_0_eq]
    by_cases hc : i < K
    · have hdt : decide ((i : Int) < (K : Int)) = true := decide_eq_true (by omega)
      obtain ⟨H1, F1, a1, a2, a3⟩ := ask_n n hn h hN (by omega) ((i + 1 : Nat) : Int) (kJ i) true (by omega) (kJ_len _)
      rw [hdt, cond_true, strK H i (by omega), Option.bind_some, inc_nat (by omega), a1, Option.bind_some]
      simp only
      obtain ⟨H', F', b1, b2, b3⟩ := ih (i + 1) a2 a3 (by omega) (by omega)
      rw [show K - i = (K - (i + 1)) + 1 by omega, rg1]
      exact ⟨H', F', b1, b2, b3⟩
    · have : i = K := by omega
      subst this
      have hdt : decide ((i : Int) < (i : Int)) = false := decide_eq_false (by omega)
      rw [hdt, cond_false, Nat.sub_self]
      exact ⟨H, F, rfl, h, hN⟩
include hs1
theorem g51 : ∀ (m i : Nat) {H : VH} {F : List Nat} {t T' : Tb} {s8 : VS}, TO H kp F t → NB (K + i) t → Ap H 3 s8 (ints (seqI 1 i)) → rg2 K (K - i) i t = some T' → rgF K (askP T' 100 (kJ (s1 % K)) true).1 = true → i ≤ K → K < i + m →
    ∃ H', L3_1 (n + 10) m (s1 : Int) (K : Int) (.ob kp 0) s8 (i : Int) H = some (.bool true, H') := by
  intro m
  induction m with
  | zero => intros; omega
  | succ m ih =>
    intro i H F t T' s8 h hN hA hr hfin hi hm
    rw [L3_1_eq]
    have sz := nb_s2 hN (by omega)
    by_cases hc : i < K
    · have hdt : decide ((i : Int) < (K : Int)) = true := decide_eq_true (by omega)
      rw [show K - i = (K - (i + 1)) + 1 by omega, rg2] at hr
      cases hg : (okR t ((i + 1 : Nat) : Int) && decide ((stD t ((i + 1 : Nat) : Int)).length = 0)) with
      | false => rw [hg] at hr; cases hr
      | true =>
        rw [hg, cond_true] at hr
        rw [Bool.and_eq_true] at hg
        obtain ⟨o1, o2⟩ := hg
        have o2 := of_decide_eq_true o2
        unfold okR at o1
        rw [Bool.and_eq_true] at o1
        have hR0 := rc_some o1.1
        have hR : ∀ x ∈ rcD t ((i + 1 : Nat) : Int), reachO t 1000 [] (aheadP t x) = some (rcD t x) := fun x hx => rc_some (List.all_eq_true.1 o1.2 x hx)
        obtain ⟨s2, H1, b1, b2, b3⟩ := pS (n + 1) (by omega) h sz ((i + 1 : Nat) : Int) hR0 hR
        have e2 : s2.len = 0 := by
          rw [b2.len, ints_len]; exact o2
        have rK : remI ((i + 1 : Nat) : Int) (K : Int) = some (((i + 1) % K : Nat) : Int) := remI_nat (by omega)
        have hlt : (i + 1) % K < 10 := by have := Nat.mod_lt (i + 1) (show 0 < K by omega); omega
        obtain ⟨H2, F2, c1, c2, c3, c4⟩ := ask_t n hn (h.kn b3) hN (by omega) ((i + 1 : Nat) : Int) (kJ ((i + 1) % K)) true (by omega) (kJ_len _)
        have hA2 := ap_tp hA ((tp0 b3).trans c4)
        obtain ⟨s9, H3, d1, d2, d3, d4⟩ := apI hA2 (show IsE (.fz [[.int .i64 ((i + 1 : Nat) : Int)]] (.ex 1)) (ints [((i + 1 : Nat) : Int)]) from .fz _ _) (by rw [seqI_len]; simp; omega)
        have e9 : seqI 1 i ++ [((i + 1 : Nat) : Int)] = seqI 1 (i + 1) := by
          have := seqI_snoc i 1
          rwa [show 1 + i = i + 1 by omega] at this
        rw [e9] at d2
        have h3 := c2.keep d3 (fun a ha ht => by
          obtain ⟨g, hg⟩ := ap_tok hA2 ht
          exact c2.tok hg ha)
        rw [hdt, cond_true, inc_nat (by omega), b1, Option.bind_some]
        simp only [e2]
        rw [show ((((0 : Nat) : Int)) != 0) = false from rfl, cond_false, rK, Option.bind_some, strK H1 _ hlt, Option.bind_some, c1, Option.bind_some]
        simp only
        rw [d1, Option.bind_some]
        exact ih (i + 1) h3 c3 d2 hr hfin (by omega) (by omega)
    · have : i = K := by omega
      subst this
      rw [Nat.sub_self, rg2] at hr
      injection hr with hr
      subst hr
      have hdt : decide ((i : Int) < (i : Int)) = false := decide_eq_false (by omega)
      have rK : remI (s1 : Int) (i : Int) = some ((s1 % i : Nat) : Int) := remI_nat (by omega)
      have hlt : s1 % i < 10 := by have := Nat.mod_lt s1 (show 0 < i by omega); omega
      have hw : IntKind.wrap .i64 (s1 : Int) = (s1 : Int) := i64_nat (by omega)
      obtain ⟨H1, F1, a1, a2, a3, a4⟩ := ask_t n hn h hN (by omega) 100 (kJ (s1 % i)) true (by omega) (kJ_len _)
      have hA1 := ap_tp hA a4
      generalize hT : (askP t 100 (kJ (s1 % i)) true).1 = T at a2 a3 hfin
      unfold rgF at hfin
      simp only [Bool.and_eq_true] at hfin
      obtain ⟨⟨⟨⟨⟨f1, f2⟩, f3⟩, f4⟩, f5⟩, f6⟩ := hfin
      have f3 := of_decide_eq_true f3
      have f4 := of_decide_eq_true f4
      have f6 := of_decide_eq_true f6
      unfold okR at f1 f2
      rw [Bool.and_eq_true] at f1 f2
      have sz := nb_s2 a3 (by omega)
      have hR0 := rc_some f1.1
      have hR : ∀ x ∈ rcD T 1, reachO T 1000 [] (aheadP T x) = some (rcD T x) := fun x hx => rc_some (List.all_eq_true.1 f1.2 x hx)
      have gR0 := rc_some f2.1
      have gR : ∀ x ∈ rcD T 100, reachO T 1000 [] (aheadP T x) = some (rcD T x) := fun x hx => rc_some (List.all_eq_true.1 f2.2 x hx)
      obtain ⟨H2, b1, b2⟩ := pV n hn a2 sz 1 hR0 hR
      have h2 := a2.kn b2
      obtain ⟨H3, c1, c2⟩ := pV n hn h2 sz 100 gR0 gR
      have h3 := h2.kn c2
      obtain ⟨s4, H4, d1, d2, d3⟩ := pS (n + 1) (by omega) h3 sz 1 hR0 hR
      have h4 := h3.kn d3
      obtain ⟨s5, H5, e1, e2, e3, _⟩ := pR (n + 5) (by omega) h4 sz 100 gR0
      have hA5 : IsE s8 (ints (seqI 1 i)) := hA1.isE
      rw [hdt, cond_false, hw, rK, Option.bind_some, strK H _ hlt, Option.bind_some, a1, Option.bind_some]
      simp only
      rw [b1, Option.bind_some]
      simp only
      rw [c1, Option.bind_some]
      simp only
      rw [d1, Option.bind_some]
      simp only
      have f3' : (sortI (rcD T 1)).filter (stq (rcD T) 1) = seqI 1 i := f3
      have f4' : lastO ((sortI (rcD T 1)).filter (stq (rcD T) 1)) = ((i : Int), true) := f4
      have f5' : (!(lastO ((sortI (rcD T 100)).filter (stq (rcD T) 100))).2) = true := f5
      rw [f4', f5']
      rw [f3'] at d2
      rw [f6] at e2
      rw [p15 (n + 9) (RdI.r d2) (RdI.e hA5) (by rw [seqI_len]; omega) (by rw [seqI_len]; omega), Option.bind_some]
      simp only [decide_true, cond_true, beq_self_eq_true]
      rw [e1, Option.bind_some]
      simp only
      rw [p15 (n + 9) (RdI.r e2) (RdI.e hA5) (by rw [seqI_len]; omega) (by rw [seqI_len]; omega), Option.bind_some]
      simp only [decide_true]
      exact ⟨_, rfl⟩
end
theorem waitRings_law (us : List V) (h : HasAs P [5, 5] us) : ∃ n H', vF P tab n 3 us [] = some (.bool true, H') := by
  match us, h with
  | [u0, u1], ⟨h0, h1, _⟩ =>
    obtain ⟨x, rfl, hx⟩ := hasA_int (k := .u8) (by kernel_rfl) h0
    obtain ⟨y, rfl, hy⟩ := hasA_int (k := .u8) (by kernel_rfl) h1
    obtain ⟨x1, x2⟩ := wf_u8 hx
    obtain ⟨y1, y2⟩ := wf_u8 hy
    obtain ⟨a, rfl⟩ : ∃ a : Nat, x = (a : Int) := ⟨x.toNat, by omega⟩
    obtain ⟨b, rfl⟩ : ∃ a : Nat, y = (a : Int) := ⟨y.toNat, by omega⟩
    obtain ⟨N, hN⟩ : ∃ N, 3000 ≤ N := ⟨3000, Nat.le_refl _⟩
    refine ⟨N + 66, ?_⟩
    rw [vF_body rfl, f3_eq, c_rings (N + 5), show (!(true, ([] : VH)).1) = false from rfl, cond_false]
    have r8 : remI (a : Int) 8 = some ((a % 8 : Nat) : Int) := remI_nat (y := 8) (by decide)
    obtain ⟨k, H1, F1, a1, a2⟩ := p11 (N + 64) []
    have hw : IntKind.wrap .i64 (2 + IntKind.wrap .i64 ((a % 8 : Nat) : Int)) = ((2 + a % 8 : Nat) : Int) := by
      rw [i64_nat (by omega), show (2 : Int) + ((a % 8 : Nat) : Int) = ((2 + a % 8 : Nat) : Int) by omega]
      exact i64_nat (by omega)
    rw [r8, Option.bind_some, a1, Option.bind_some, hw]
    obtain ⟨H2, F2, b1, b2, b3⟩ := g50 (N + 55) (by omega) (K := 2 + a % 8) (by omega) (by omega) b (N + 65) 0 a2 NB.zero (Nat.zero_le _) (by omega)
    rw [show ((0 : Nat) : Int) = 0 from rfl] at b1
    rw [Nat.sub_zero] at b2 b3
    have hmod := Nat.mod_lt b (show 0 < 2 + a % 8 by omega)
    have hall := rgOK_all (2 + a % 8) (by omega) (b % (2 + a % 8)) (by omega)
    rw [decide_eq_false (by omega), decide_eq_false (by omega), Bool.false_or, Bool.false_or] at hall
    unfold rgOK at hall
    cases hr : rg2 (2 + a % 8) (2 + a % 8) 0 (rg1 (2 + a % 8) 0 ⟨[], []⟩) with
    | none => rw [hr] at hall; cases hall
    | some T' =>
      rw [hr] at hall
      obtain ⟨H', c1⟩ := g51 (N + 55) (by omega) (K := 2 + a % 8) (by omega) (by omega) b (by omega) (N + 65) 0 (T' := T') b2 b3 .nil (by rw [Nat.sub_zero]; exact hr) hall (Nat.zero_le _) (by omega)
      rw [show ((0 : Nat) : Int) = 0 from rfl] at c1
      exact ⟨H', b1.trans c1⟩
end Go.Proofs.Ytibdinelkpbhaaa
