import Derived.Test.YtgmgpandhaeniaaB14xe
import Derived.Test.YtgmgpandhaeniaaB14a
import Derived.Test.YtgmgpandhaeniaaVd
set_option maxRecDepth 100000
set_option linter.unusedVariables false
set_option linter.unusedSimpArgs false
namespace Go.Proofs.Ytgmgpandhaeniaa
open Go.Proofs.Ytgmgpandhaeniaa.Sh Go.Proofs.Ytgmgpandhaeniaa.Sh.V Go.RowKit Go.Proofs.Ytgmgpandhaeniaa.Sh.Lk
theorem lets_ok (n : Nat) (H : VH) : vF P tab (n + 60) 10 [] H = some (.bool true, H) := by kernel_rfl
theorem lets_c (n : Nat) (H : VH) : V.callD (vF P tab (n + 60)) P false (.one (.flat .bool)) 10 [] H = some (true, H) := callD_bool (lets_ok n H)
/-! ### LockFifo -/
def boolsE (l : List Bool) : List (List V) := l.map fun b => [.bool b]
theorem boolsE_len (l : List Bool) : (boolsE l).length = l.length := by simp [boolsE]
theorem rd_b {s : VS} {l : List Bool} (h : IsE s (boolsE l)) {i : Nat} {x : Bool} (hx : l[i]? = some x) (H : VH) {β : Type} (f : Bool → Option β) : ((ixV 1 s (i : Int)).bind fun p => (ldV (.flat .bool) H p).bind f) = f x := by
  rw [h.ix (y := [.bool x]) (by simp [boolsE, hx]) 1, Option.bind_some]
  rfl
theorem kA_eq : (⟨#[97]⟩ : ByteArray) = ⟨kA.toArray⟩ := rfl
theorem szF (b : Nat) (r : List Bool) (hs : List Int) (only : Bool) (h1 : r.length ≤ 100) (h2 : hs.length ≤ 100) : SZ (stF b r hs only) := by
  refine ⟨by simp [stF], by simp [stF, wsF_len]; omega, fun k x hx => ?_⟩
  have := getM_mem hx
  simp only [stF, List.mem_singleton, Prod.mk.injEq] at this
  obtain ⟨_, rfl⟩ := this
  simp only [qF_len]
  omega
theorem free_F (n : Nat) (hn : 3000 ≤ n) {H : VH} {k : Nat} {F : List Nat} {b : Nat} {r : List Bool} {hs : List Int} {only : Bool} (h : TO H k F (stF b r hs only)) (h1 : r.length ≤ 100) (h2 : hs.length ≤ 100) (o : Int) :
    ∃ s' H' F', V.callD (vF P tab (n + 5)) P false (.one (.flat (.slice 3))) 13 [.ptr (.ob k 0), .int .i64 o] H = some (s', H') ∧ TO H' k F' (freeP (stF b r hs only) o).1 ∧ IsE s' (ints (freeP (stF b r hs only) o).2) :=
  p13 n hn h o (by simp [stF]) (by simp [stF]) (fun p hp => by
    simp only [stF, List.mem_singleton] at hp
    subst hp
    simp only [qF_len]
    omega)
theorem app_nil {H : VH} {x : VS} (hx : IsE x []) : appD true H 1 8 3 .nil x = some (.nil, H) := by
  obtain ⟨s', H', h1, _, _, _, h5⟩ := (Ap.nil (H := H) (e := 3)).app (sz := 1) (by_ := 8) hx (by simp [bound]) (by simp [bound])
  obtain ⟨rfl, rfl⟩ := h5 rfl
  exact h1
/-- All that were let go. -/
theorem l33F (n : Nat) (hn : 3000 ≤ n) {s0 s5 : VS} {k a c : Nat} {r : List Bool} {nxt : Int} (hs : IsE s5 (ints (seqI a c))) (hc : c ≤ 100) (hr1 : r.length ≤ 100) (m0 : Nat) : ∀ (m i : Nat) {H : VH} {F : List Nat} {only : Bool}, i < c → c ≤ i + m → TO H k F (stF (a + c) r (seqI (a + i) (c - i)) only) → (i + 1 < c → only = false ∧ (r = [] ∨ ∃ r', r = true :: r')) →
    ∃ s' H' F', L3_3 (n + 5) m0 (m + 1) s0 (.ob k 0) s5 nxt .nil (i : Int) H = L3_1 (n + 5) m0 s0 (.ob k 0) s' nxt H' ∧ TO H' k F' (nx (a + c) r).1 ∧ IsE s' (ints (nx (a + c) r).2) := by
  intro m
  induction m with
  | zero => intros; omega
  | succ m ih =>
    intro i H F only hi hm h hcond
    rw [L3_3_eq, hs.len, ints_len, seqI_len]
    have hdt : decide ((i : Int) < (c : Int)) = true := decide_eq_true (by omega)
    rw [hdt, cond_true, isI_rd hs (seqI_get c a i hi)]
    obtain ⟨s', H', F', a1, a2, a3⟩ := free_F n hn h hr1 (by rw [seqI_len]; omega) ((a + i : Nat) : Int)
    rw [a1, Option.bind_some]
    simp only
    by_cases hlast : i + 1 < c
    · obtain ⟨rfl, hr⟩ := hcond hlast
      obtain ⟨d, hd⟩ : ∃ d, c - i = d + 2 := ⟨c - i - 2, by omega⟩
      rw [hd, free_many (a + c) r (a + i) d hr (by omega)] at a2 a3
      have a3 : IsE s' [] := a3
      rw [app_nil a3, Option.bind_some]
      simp only
      rw [inc_nat (by omega)]
      refine ih (i + 1) (F := F') hlast (by omega) ?_ (fun _ => ⟨rfl, hr⟩)
      rw [show a + (i + 1) = a + i + 1 by omega, show c - (i + 1) = d + 1 by omega]
      exact a2
    · have hci : c - i = 1 := by omega
      have hone : seqI (a + i) (c - i) = [((a + i : Nat) : Int)] := by rw [hci]; rfl
      rw [hone, free_one (a + c) r _ only (.inl (by omega))] at a2 a3
      have a2 : TO H' k F' (nx (a + c) r).1 := a2
      have a3 : IsE s' (ints (nx (a + c) r).2) := a3
      have hnl : (nx (a + c) r).2.length ≤ 101 := by
        unfold nx
        match r with
        | [] => simp
        | true :: r' => simp
        | false :: r' => simp only [seqI_len]; have := lead_le r'; simp only [List.length_cons] at hr1; omega
      obtain ⟨s2, H2, b1, b2, b3, b4⟩ := apI (Ap.nil (H := H') (e := 3)) (l := []) a3 (by simp; omega)
      rw [b1, Option.bind_some]
      simp only
      rw [inc_nat (by omega)]
      have h2 := a2.keep b3 (fun a _ => by simp [toks])
      rw [L3_3_eq, hs.len, ints_len, seqI_len]
      have hdt : decide (((i + 1 : Nat) : Int) < (c : Int)) = false := decide_eq_false (by omega)
      rw [hdt, cond_false]
      exact ⟨s2, H2, F', rfl, h2, by have := b2.isE; rwa [List.nil_append] at this⟩
/-- Who was let. -/
theorem l32F (n : Nat) {s0 s5 : VS} {A : List Bool} (hs0 : IsE s0 (boolsE A)) {k a c : Nat} (hs : IsE s5 (ints (seqI a c))) (hA : A.length ≤ 30) (hac : a + c ≤ A.length) (m0 : Nat) {H : VH}
    (hg : (c = 1 ∧ A[a]? = some true) ∨ ((∀ i, i < c → A[a + i]? = some false) ∧ (a + c = A.length ∨ A[a + c]? = some true))) (hc0 : 1 ≤ c) : ∀ (m i : Nat), i ≤ c → c < i + m →
    L3_2 n m0 m s0 (.ob k 0) s5 ((a + i : Nat) : Int) (i : Int) H = L3_3 n m0 n s0 (.ob k 0) s5 ((a + c : Nat) : Int) .nil 0 H := by
  intro m
  induction m with
  | zero => intros; omega
  | succ m ih =>
    intro i hi hm
    rw [L3_2_eq, hs.len, ints_len, seqI_len, hs0.len, boolsE_len]
    by_cases hic : i < c
    · have hdt : decide ((i : Int) < (c : Int)) = true := decide_eq_true (by omega)
      rw [hdt, cond_true, isI_rd hs (seqI_get c a i hic)]
      have hne : ((((a + i : Nat) : Int)) != ((a + i : Nat) : Int)) = false := by simp
      rw [hne, cond_false]
      obtain ⟨x, hx⟩ : ∃ x, A[a + i]? = some x := get_of (by omega)
      rw [rd_b hs0 hx, inc_nat (by omega), inc_nat (by omega)]
      have go := ih (i + 1) (by omega) (by omega)
      rw [show a + (i + 1) = a + i + 1 by omega] at go
      cases x with
      | false => rw [cond_false]; exact go
      | true =>
        have hc1 : c = 1 := by
          rcases hg with ⟨h1, _⟩ | ⟨h1, _⟩
          · exact h1
          · rw [h1 i hic] at hx; injection hx with hx; cases hx
        subst hc1
        rw [cond_true]
        have : ((((1 : Nat) : Int)) != 1) = false := rfl
        rw [this, cond_false]
        exact go
    · have hic : i = c := by omega
      subst hic
      have hdt : decide ((i : Int) < (i : Int)) = false := decide_eq_false (by omega)
      rw [hdt, cond_false]
      by_cases hend : a + i < A.length
      · have hdt2 : decide (((a + i : Nat) : Int) < (A.length : Int)) = true := decide_eq_true (by omega)
        rw [hdt2, cond_true, show (0 : Int) = ((0 : Nat) : Int) from rfl, isI_rd hs (seqI_get i a 0 (by omega))]
        rw [Nat.add_zero]
        obtain ⟨x, hx⟩ : ∃ x, A[a]? = some x := get_of (by omega)
        obtain ⟨y, hy⟩ : ∃ x, A[a + i]? = some x := get_of hend
        rw [rd_b hs0 hx]
        cases x with
        | true => rw [Bool.not_true, cond_false]
        | false =>
          rw [Bool.not_false, cond_true, rd_b hs0 hy]
          have : y = true := by
            rcases hg with ⟨_, h2⟩ | ⟨_, h2 | h2⟩
            · rw [h2] at hx; injection hx with hx; cases hx
            · omega
            · rw [h2] at hy; injection hy with hy; exact hy.symm
          subst this
          rw [Bool.not_true, cond_false]
      · have hdt2 : decide (((a + i : Nat) : Int) < (A.length : Int)) = false := decide_eq_false (by omega)
        rw [hdt2, cond_false]
theorem l31F (n : Nat) (hn : 3000 ≤ n) {s0 : VS} {A : List Bool} (hs0 : IsE s0 (boolsE A)) (hA : A.length ≤ 30) {k : Nat} : ∀ (m b : Nat) {H : VH} {F : List Nat} {s5 : VS}, b ≤ A.length → A.length < b + m → TO H k F (nx b (A.drop b)).1 → IsE s5 (ints (nx b (A.drop b)).2) →
    ∃ H', L3_1 (n + 5) m s0 (.ob k 0) s5 (b : Int) H = some (.bool true, H') := by
  intro m
  induction m with
  | zero => intros; omega
  | succ m ih =>
    intro b H F s5 hb hm h hs
    rw [L3_1_eq, hs.len, ints_len, hs0.len, boolsE_len]
    -- a group of c, from b on
    have group : ∀ (c : Nat) (only : Bool) (r : List Bool), r = A.drop (b + c) → (nx b (A.drop b)).1 = stF (b + c) r (seqI b c) only → (nx b (A.drop b)).2 = seqI b c → 1 ≤ c → b + c ≤ A.length →
        ((c = 1 ∧ A[b]? = some true) ∨ ((∀ i, i < c → A[b + i]? = some false) ∧ (b + c = A.length ∨ A[b + c]? = some true))) → (1 < c → only = false ∧ (r = [] ∨ ∃ r', r = true :: r')) →
        ∃ H', (cond (decide ((((nx b (A.drop b)).2.length : Nat) : Int) > 0)) (L3_2 (n + 5) m (n + 5) s0 (.ob k 0) s5 (b : Int) 0 H)
          (cond ((b : Int) == ((A.length : Nat) : Int)) ((callD (vF P tab (n + 5)) P false (.one (.flat (.int .i64))) 14 [.ptr (.ob k 0)] H).bind fun r1 => (some (V.bool ((r1.1 : Int) == 0), r1.2))) (some (V.bool false, H)))) = some (.bool true, H') := by
      intro c only r hr e1 e2 hc hbc hg hcond
      rw [e1] at h
      rw [e2] at hs ⊢
      rw [seqI_len]
      have hdt : decide ((c : Int) > 0) = true := decide_eq_true (by omega)
      rw [hdt, cond_true]
      have g1 := l32F (n + 5) hs0 (k := k) hs hA hbc m (H := H) hg hc (n + 5) 0 (Nat.zero_le _) (by omega)
      simp only [Nat.add_zero] at g1
      rw [show ((0 : Nat) : Int) = 0 from rfl] at g1
      rw [g1]
      obtain ⟨s', H', F', q1, q2, q3⟩ := l33F n hn (s0 := s0) (k := k) (a := b) (r := r) (nxt := ((b + c : Nat) : Int)) hs (by omega) (by rw [hr, List.length_drop]; omega) m (n + 4) 0 (F := F) (only := only) hc (by omega) (by rw [Nat.add_zero, Nat.sub_zero]; exact h) (fun hh => hcond (by omega))
      rw [show ((0 : Nat) : Int) = 0 from rfl] at q1
      rw [q1]
      rw [hr] at q2 q3
      exact ih (b + c) hbc (by omega) q2 q3
    cases hd : A.drop b with
    | nil =>
      have hbl : b = A.length := by
        have := congrArg List.length hd
        simp only [List.length_drop, List.length_nil] at this
        omega
      rw [hd] at h
      have hdt : decide ((((nx b ([] : List Bool)).2.length : Nat) : Int) > 0) = false := rfl
      rw [hdt, cond_false]
      have he : ((b : Int) == ((A.length : Nat) : Int)) = true := by rw [hbl]; simp
      rw [he, cond_true]
      obtain ⟨H', a1, _⟩ := p14 (n + 2) (show TO H k F ⟨[], []⟩ from h) (by simp)
      rw [a1, Option.bind_some]
      exact ⟨H', rfl⟩
    | cons x r' =>
      rw [← hd]
      have hget : ∀ i, (x :: r')[i]? = A[b + i]? := fun i => by rw [← hd, List.getElem?_drop]
      have hlen : A.length - b = r'.length + 1 := by
        have := congrArg List.length hd
        simpa using this
      cases x with
      | true =>
        refine group 1 true r' ?_ (by rw [hd]; rfl) (by rw [hd]; rfl) (Nat.le_refl _) (by omega) (.inl ⟨rfl, ?_⟩) (fun h => by omega)
        · have := congrArg (fun l : List Bool => l.drop 1) hd
          simp only [List.drop_drop, List.drop_succ_cons, List.drop_zero] at this
          exact this.symm
        · have := hget 0; rw [Nat.add_zero] at this; rw [← this]; rfl
      | false =>
        have hld := lead_le r'
        refine group (lead r' + 1) false (r'.drop (lead r')) ?_ (by rw [hd]; rfl) (by rw [hd]; rfl) (by omega) (by omega) (.inr ⟨fun i hi => ?_, ?_⟩) (fun _ => ⟨rfl, lead_drop r'⟩)
        · have := congrArg (fun l : List Bool => l.drop (lead r' + 1)) hd
          simp only [List.drop_drop, List.drop_succ_cons] at this
          exact this.symm
        · rw [← hget i]
          cases i with
          | zero => rfl
          | succ i => exact lead_get r' i (by omega)
        · rw [← hget (lead r' + 1)]
          show b + (lead r' + 1) = A.length ∨ r'[lead r']? = some true
          rcases lead_drop r' with h0 | ⟨r2, h0⟩
          · left
            have := congrArg List.length h0
            simp only [List.length_drop, List.length_nil] at this
            omega
          · right
            have := congrArg (fun l : List Bool => l[0]?) h0
            simpa using this
theorem l30F (n : Nat) (hn : 3000 ≤ n) {s0 : VS} {A : List Bool} (hs0 : IsE s0 (boolsE A)) (hA : A.length ≤ 30) {k : Nat} : ∀ (m c : Nat) {H : VH} {F : List Nat}, c ≤ A.length → A.length < c + m → TO H k F (stF 0 (A.take c) [100] true) →
    ∃ H', L3_0 (n + 5) m s0 (.ob k 0) (c : Int) H = some (.bool true, H') := by
  intro m
  induction m with
  | zero => intros; omega
  | succ m ih =>
    intro c H F hc hm h
    rw [L3_0_eq, hs0.len, boolsE_len]
    have htl : (A.take c).length = c := by rw [List.length_take]; omega
    by_cases hcl : c < A.length
    · obtain ⟨x, hx⟩ := get_of hcl
      have hdt : decide ((c : Int) < (A.length : Int)) = true := decide_eq_true (by omega)
      rw [hdt, cond_true, rd_b hs0 hx, kA_eq]
      obtain ⟨H', F', a1, a2⟩ := p12 (n + 1) (by omega) h (szF _ _ _ _ (by omega) (by simp)) (by simp [stF]) (c : Int) kA x (by omega) (by simp [kA])
      have hask := ask_F (A.take c) x (by omega)
      rw [htl] at hask
      rw [hask] at a1 a2
      rw [a1, Option.bind_some]
      simp only [cond_false]
      rw [inc_nat (by omega)]
      have e : A.take c ++ [x] = A.take (c + 1) := by rw [List.take_add_one, hx]; rfl
      rw [e] at a2
      exact ih (c + 1) (by omega) (by omega) a2
    · have : c = A.length := by omega
      subst this
      have hdt : decide ((A.length : Int) < (A.length : Int)) = false := decide_eq_false (by omega)
      rw [hdt, cond_false]
      rw [List.take_length] at h
      obtain ⟨s', H', F', a1, a2, a3⟩ := free_F n hn h (by omega) (by simp) 100
      rw [a1, Option.bind_some]
      simp only
      rw [free_one 0 A 100 true (.inr (by omega))] at a2 a3
      have a2 : TO H' k F' (nx 0 (A.drop 0)).1 := a2
      have a3 : IsE s' (ints (nx 0 (A.drop 0)).2) := a3
      exact l31F n hn hs0 hA (n + 5) 0 (Nat.zero_le _) (by omega) a2 a3
theorem lockFifo_law (us : List V) (h : HasAs P [22] us) : ∃ n H', vF P tab n 3 us [] = some (.bool true, H') := by
  match us, h with
  | [u0], ⟨h0, _⟩ =>
    obtain ⟨d, s, es, rfl, hs, hl, hes⟩ := hasA_sl (e := 4) (by kernel_rfl) h0
    obtain ⟨A, rfl, _⟩ := lst_of (f := fun b : Bool => [V.bool b]) (Q := fun _ => True) (es := es) (fun y hy => by
      obtain ⟨b, rfl⟩ := hasT_bool (by kernel_rfl) (hes y hy).1
      exact ⟨b, trivial, rfl⟩)
    have hs : IsE s (boolsE A) := hs
    refine ⟨3000 + 6, ?_⟩
    rw [vF_body rfl, f3_eq, lets_c, Option.bind_some]
    simp only [Bool.not_true, cond_false]
    rw [hs.len, boolsE_len]
    by_cases hA : 30 < A.length
    · have hd : decide ((A.length : Int) > 30) = true := decide_eq_true (by omega)
      rw [hd, cond_true, lets_c, Option.bind_some]
      exact ⟨_, rfl⟩
    · have hd : decide ((A.length : Int) > 30) = false := decide_eq_false (by omega)
      rw [hd, cond_false]
      obtain ⟨k, H1, F1, a1, a2⟩ := p11 3004 []
      rw [a1, Option.bind_some]
      simp only
      obtain ⟨H2, F2, b1, b2⟩ := p12 3001 (by omega) a2 ⟨by simp, by simp, fun k x hx => by cases hx⟩ (by simp) 100 kA true (by omega) (by simp [kA])
      rw [kA_eq, b1, Option.bind_some]
      simp only
      exact l30F 3000 (Nat.le_refl _) hs (by omega) 3005 0 (Nat.zero_le _) (by omega) (show TO H2 k F2 (stF 0 (A.take 0) [100] true) from b2)
end Go.Proofs.Ytgmgpandhaeniaa
