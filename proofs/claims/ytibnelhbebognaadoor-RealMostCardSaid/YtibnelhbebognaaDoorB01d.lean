import Derived.Test.YtibnelhbebognaaDoorB01l
set_option maxRecDepth 100000
set_option linter.unusedVariables false
set_option linter.unusedSimpArgs false
namespace Go.Proofs.YtibnelhbebognaaDoor
open Go.Proofs.YtibnelhbebognaaDoor.Sh Go.Proofs.YtibnelhbebognaaDoor.Sh.V Go.RowKit
/-! ### The greatest -/
def fl (l : List Nat) : List (List V) := l.map fun (a : Nat) => [.flt .f64 a]
def il (l : List Nat) : List (List V) := l.map fun (a : Nat) => [.int .u64 (a : Int)]
@[simp] theorem fl_len (l : List Nat) : (fl l).length = l.length := by simp [fl]
@[simp] theorem il_len (l : List Nat) : (il l).length = l.length := by simp [il]
theorem rdF {s : VS} {l : List Nat} (h : IsE s (fl l)) {i : Nat} {a : Nat} (ha : l[i]? = some a) (H : VH) {β : Type} (f : Nat → Option β) : ((ixV 1 s (i : Int)).bind fun p => (ldV (.flat (.flt .f64)) H p).bind f) = f a := by
  rw [h.ix (y := [.flt .f64 a]) (by simp [fl, ha]) 1, Option.bind_some]; rfl
theorem rdI {s : VS} {l : List Nat} (h : IsE s (il l)) {i : Nat} {a : Nat} (ha : l[i]? = some a) (H : VH) {β : Type} (f : Int → Option β) : ((ixV 1 s (i : Int)).bind fun p => (ldV (.flat (.int .u64)) H p).bind f) = f (a : Int) := by
  rw [h.ix (y := [.int .u64 (a : Int)]) (by simp [il, ha]) 1, Option.bind_some]; rfl
def mostF (m : Nat) (l : List Nat) : Nat := l.foldl (fun m x => if lessF m x = true then x else m) m
theorem less_ntrans {a b c : Nat} (h : lessF a b = false) (h2 : lessF b c = false) : lessF a c = false := by
  unfold lessF at *
  by_cases na : isNaN a <;> by_cases nb : isNaN b <;> by_cases nc : isNaN c <;> simp [na, nb, nc] at h h2 ⊢
  omega
theorem most_ge : ∀ (l : List Nat) (m : Nat), lessF (mostF m l) m = false ∧ (∀ x ∈ l, lessF (mostF m l) x = false) ∧ (mostF m l = m ∨ mostF m l ∈ l)
  | [], m => ⟨less_irr m, (fun x hx => by cases hx), .inl rfl⟩
  | x :: l, m => by
    obtain ⟨h1, h2, h3⟩ := most_ge l (if lessF m x = true then x else m)
    have e : mostF m (x :: l) = mostF (if lessF m x = true then x else m) l := rfl
    rw [e]
    cases hl : lessF m x with
    | true =>
      rw [hl] at h1 h2 h3
      simp only [if_true] at *
      refine ⟨less_ntrans h1 (less_asym hl), fun y hy => ?_, ?_⟩
      · rcases List.mem_cons.1 hy with rfl | hy
        · exact h1
        · exact h2 y hy
      · rcases h3 with h3 | h3
        · rw [h3]; exact .inr (List.mem_cons_self ..)
        · exact .inr (List.mem_cons_of_mem _ h3)
    | false =>
      rw [hl] at h1 h2 h3
      simp only [Bool.false_eq_true, if_false] at *
      refine ⟨h1, fun y hy => ?_, ?_⟩
      · rcases List.mem_cons.1 hy with rfl | hy
        · exact less_ntrans h1 hl
        · exact h2 y hy
      · rcases h3 with h3 | h3
        · exact .inl h3
        · exact .inr (List.mem_cons_of_mem _ h3)
abbrev ninf : Nat := 18442240474082181120
theorem ninf_least {x : Nat} (hx : x < 18446744073709551616) : lessF x ninf = false := by
  unfold lessF
  by_cases h : isNaN x
  · rw [if_pos (.inl h), decide_eq_true h]; rfl
  · have h2 : ¬ isNaN ninf := by decide
    have h3 : skey ninf = -9218868437227405312 := by decide
    have := skey_bd hx h
    rw [if_neg (by simp [h, h2]), decide_eq_false (by omega)]
theorem less_canon {a b : Nat} (ha : a < 18446744073709551616) : lessF (canonB a) b = lessF a b := by
  by_cases na : isNaN a
  · rw [canon_nan na]
    unfold lessF
    have : isNaN 9221120237041090561 := by decide
    rw [if_pos (.inl this), if_pos (.inl na), decide_eq_true na, decide_eq_true this]
  · by_cases ra : rung a = 0
    · rw [canon_zero na ra]
      have h0 : ¬ isNaN 0 := by decide
      have s0 : skey 0 = 0 := by decide
      have s1 : skey a = 0 := by unfold skey; rw [ra]; split <;> rfl
      unfold lessF
      by_cases nb : isNaN b
      · rw [if_pos (.inr nb), if_pos (.inr nb), decide_eq_false na, decide_eq_false h0]
      · rw [if_neg (by simp [h0, nb]), if_neg (by simp [na, nb]), s0, s1]
    · rw [canon_else na ra]
theorem mostF_snoc (m : Nat) (l : List Nat) (x : Nat) : mostF m (l ++ [x]) = if lessF (mostF m l) x = true then x else mostF m l := by unfold mostF; rw [List.foldl_append]; rfl
theorem take_succ' {l : List Nat} {i : Nat} {a : Nat} (ha : l[i]? = some a) : l.take (i + 1) = l.take i ++ [a] := by
  obtain ⟨hlt, he⟩ := List.getElem?_eq_some_iff.1 ha
  rw [List.take_succ_eq_append_getElem hlt, he]
theorem l25 (n : Nat) {s : VS} {l : List Nat} (hs : IsE s (fl l)) (hl : l.length < 1000) (H : VH) : ∀ (m i : Nat), i ≤ l.length → l.length < i + m →
    L25_0 (n + 80) m (mostF ninf (l.take i)) s (l.length : Int) (i : Int) H = some (.flt .f64 (canonB (mostF ninf l)), H) := by
  intro m
  induction m with
  | zero => intro i h1 h2; omega
  | succ m ih =>
    intro i h1 h2
    rw [L25_0_eq]
    by_cases hi : i < l.length
    · rw [decide_eq_true (by omega), cond_true]
      obtain ⟨a, ha⟩ : ∃ a, l[i]? = some a := ⟨_, List.getElem?_eq_getElem hi⟩
      rw [rdF hs ha, c20 (n + 79), Option.bind_some, inc_nat (by omega)]
      have h3 := ih (i + 1) (by omega) (by omega)
      rw [take_succ' ha, mostF_snoc] at h3
      simp only
      cases hle : lessF (mostF ninf (l.take i)) a with
      | true => rw [hle] at h3; exact h3
      | false => rw [hle] at h3; exact h3
    · rw [decide_eq_false (by omega), cond_false]
      have : i = l.length := by omega
      subst this
      rw [List.take_length, c11 (n + 79)]; rfl
theorem c36 (n : Nat) (H : VH) : V.callD (vF P tab (n + 1)) P false (.one (.flat (.flt .f64))) 36 [.int .i64 (-1)] H = some (ninf, H) := by
  refine callD_some (.flt .f64 ninf) ?_ rfl
  rw [vF_body rfl, f36_eq]
  exact congrArg _ (congrArg _ rfl) |>.trans rfl
theorem e25 (n : Nat) {s : VS} {l : List Nat} (hs : IsE s (fl l)) (hl : l.length < 80) (H : VH) : vF P tab (n + 81) 25 [.sl 23 s] H = some (.flt .f64 (canonB (mostF ninf l)), H) := by
  have h : bodyV P tab (vF P tab (n + 80)) (n + 80) 25 ([.sl 23 s].map stripC) [] = some (.flt .f64 (canonB (mostF ninf l)), []) := by
    show bodyV P tab (vF P tab (n + 80)) (n + 80) 25 [.sl 23 s.strip] [] = _
    rw [f25_eq, c36 (n + 79), Option.bind_some, hs.strip.len, fl_len]
    exact l25 n hs.strip (by omega) [] (n + 80) 0 (Nat.zero_le _) (by omega)
  have hcl : ([.sl 23 s] : List V).all closedC = true := by
    show (closed1 (.sl 23 s) && true) = true
    rw [hs.closed 23]; rfl
  rw [vF_lone rfl hcl h rfl]; rfl
theorem l26 (n : Nat) {s : VS} {l : List Nat} (hs : IsE s (fl l)) (hb : ∀ x ∈ l, x < 18446744073709551616) (hl : l.length < 1000) (H : VH) : ∀ (m i : Nat), i ≤ l.length → l.length < i + m →
    L26_0 (n + 80) m s (mostF ninf (l.take i)) (i : Int) H = some (.int .u64 (canonB (mostF ninf l) : Int), H) := by
  have hmb : ∀ i, mostF ninf (l.take i) < 18446744073709551616 := by
    intro i
    rcases (most_ge (l.take i) ninf).2.2 with h | h
    · rw [h]; decide
    · exact hb _ (List.mem_of_mem_take h)
  intro m
  induction m with
  | zero => intro i h1 h2; omega
  | succ m ih =>
    intro i h1 h2
    rw [L26_0_eq, hs.len, fl_len]
    by_cases hi : i < l.length
    · rw [decide_eq_true (by omega), cond_true]
      obtain ⟨a, ha⟩ : ∃ a, l[i]? = some a := ⟨_, List.getElem?_eq_getElem hi⟩
      have hab := hb a (List.mem_of_getElem? ha)
      rw [rdF hs ha, c35 (n + 78) hab, Option.bind_some, c35 (n + 78) (hmb i), Option.bind_some, inc_nat (by omega)]
      have h3 := ih (i + 1) (by omega) (by omega)
      rw [take_succ' ha, mostF_snoc] at h3
      have hk : decide ((keyN a : Int) > (keyN (mostF ninf (l.take i)) : Int)) = lessF (mostF ninf (l.take i)) a := less_key (hmb i) hab
      simp only
      rw [hk]
      cases hle : lessF (mostF ninf (l.take i)) a with
      | true =>
        rw [hle] at h3
        rw [cond_true, rdF hs ha]
        exact h3
      | false => rw [hle] at h3; exact h3
    · rw [decide_eq_false (by omega), cond_false]
      have : i = l.length := by omega
      subst this
      have := hmb l.length
      rw [List.take_length] at this ⊢
      rw [c14 (n + 79) this]; rfl
theorem e26 (n : Nat) {s : VS} {l : List Nat} (hs : IsE s (fl l)) (hb : ∀ x ∈ l, x < 18446744073709551616) (hl : l.length < 80) (H : VH) : vF P tab (n + 81) 26 [.sl 23 s] H = some (.int .u64 (canonB (mostF ninf l) : Int), H) := by
  have h : bodyV P tab (vF P tab (n + 80)) (n + 80) 26 ([.sl 23 s].map stripC) [] = some (.int .u64 (canonB (mostF ninf l) : Int), []) := by
    show bodyV P tab (vF P tab (n + 80)) (n + 80) 26 [.sl 23 s.strip] [] = _
    have h0 := ofbits ninf
    rw [f26_eq]
    rw [show (pvD P (.flt .f64) (ext27 #[.int .u64 18442240474082181120])) = some ninf from h0, Option.bind_some]
    exact l26 n hs.strip hb (by omega) [] (n + 80) 0 (Nat.zero_le _) (by omega)
  have hcl : ([.sl 23 s] : List V).all closedC = true := by
    show (closed1 (.sl 23 s) && true) = true
    rw [hs.closed 23]; rfl
  rw [vF_lone rfl hcl h rfl]; rfl
theorem l9_1 (n : Nat) {s : VS} {l : List Nat} (hs : IsE s (fl l)) (hb : ∀ x ∈ l, x < 18446744073709551616) (hl : l.length < 61) (H : VH) : ∀ (m i : Nat) (fd : Bool), i ≤ l.length → l.length < i + m → (fd = true ∨ ∃ x ∈ l.drop i, canonB (mostF ninf l) = canonB x) →
    L9_1 (n + 81) m s (canonB (mostF ninf l)) fd (i : Int) H = some (.bool true, H) := by
  have hM : mostF ninf l < 18446744073709551616 := by
    rcases (most_ge l ninf).2.2 with h | h
    · rw [h]; decide
    · exact hb _ h
  intro m
  induction m with
  | zero => intro i fd h1 h2; omega
  | succ m ih =>
    intro i fd h1 h2 hfd
    rw [L9_1_eq, hs.len, fl_len]
    by_cases hi : i < l.length
    · rw [decide_eq_true (by omega), cond_true]
      obtain ⟨a, ha⟩ : ∃ a, l[i]? = some a := ⟨_, List.getElem?_eq_getElem hi⟩
      have hle : lessF (canonB (mostF ninf l)) a = false := by rw [less_canon hM]; exact (most_ge l ninf).2.1 a (List.mem_of_getElem? ha)
      cases fd with
      | true =>
        rw [cond_true, rdF hs ha, c20 (n + 80), Option.bind_some, inc_nat (by omega)]
        simp only
        rw [hle, cond_false]
        exact ih (i + 1) true (by omega) (by omega) (.inl rfl)
      | false =>
        rw [cond_false, rdF hs ha, c22 (n + 78), Option.bind_some, rdF hs ha, c20 (n + 80), Option.bind_some, inc_nat (by omega)]
        simp only
        rw [hle, cond_false, canonB_idem]
        refine ih (i + 1) _ (by omega) (by omega) ?_
        rcases hfd with h | ⟨x, hx, he⟩
        · cases h
        · obtain ⟨hlt, hea⟩ := List.getElem?_eq_some_iff.1 ha
          rw [List.drop_eq_getElem_cons hlt] at hx
          rcases List.mem_cons.1 hx with rfl | hx
          · left; rw [hea] at he; exact decide_eq_true he
          · exact .inr ⟨x, hx, he⟩
    · rw [decide_eq_false (by omega), cond_false]
      have : i = l.length := by omega
      subst this
      have hfd : fd = true := by
        rcases hfd with h | ⟨x, hx, _⟩
        · exact h
        · rw [List.drop_length] at hx; cases hx
      subst hfd
      rw [cond_true, tobits, Option.bind_some]
      have h26 := callD_int (P := P) (e26 n hs hb (by omega) H)
      rw [h26, Option.bind_some, beq_nat, decide_eq_true rfl]
theorem l9_0 (n : Nat) {s : VS} {l : List Nat} (hs : IsE s (il l)) (hb : ∀ x ∈ l, x < 18446744073709551616) (hl : l.length < 61) : ∀ (m i : Nat) {H : VH} {s3 : VS}, Ap H 23 s3 (fl (l.take i)) → i ≤ l.length → l.length < i + m →
    ∃ H', L9_0 (n + 81) m s s3 (i : Int) H = some (.bool true, H') := by
  intro m
  induction m with
  | zero => intro i H s3 _ h1 h2; omega
  | succ m ih =>
    intro i H s3 hap h1 h2
    rw [L9_0_eq, hs.len, il_len]
    by_cases hi : i < l.length
    · rw [decide_eq_true (by omega), cond_true]
      obtain ⟨a, ha⟩ : ∃ a, l[i]? = some a := ⟨_, List.getElem?_eq_getElem hi⟩
      rw [rdI hs ha, c10 (n + 80), Option.bind_some, inc_nat (by omega)]
      have htl : (l.take i).length = i := by rw [List.length_take]; omega
      obtain ⟨s', H', g1, g2, _⟩ := hap.app (sz := 1) (by_ := 8) (x := .fz [[.flt .f64 a]] (.ex 1)) (news := [[.flt .f64 a]]) (.fz _ _) (by simp [bound, htl]; omega) (by simp [bound, htl]; omega)
      rw [g1, Option.bind_some]
      have : fl (l.take i) ++ [[.flt .f64 a]] = fl (l.take (i + 1)) := by rw [take_succ' ha]; simp [fl]
      rw [this] at g2
      exact ih (i + 1) g2 (by omega) (by omega)
    · rw [decide_eq_false (by omega), cond_false]
      have : i = l.length := by omega
      subst this
      rw [List.take_length] at hap
      have hE := hap.isE
      have h25 : V.callD (vF P tab (n + 81)) P false (.one (.flat (.flt .f64))) 25 [.sl 23 s3] H = some (canonB (mostF ninf l), H) := callD_some _ (e25 n hE (by omega) H) rfl
      rw [h25, Option.bind_some, hE.len, fl_len]
      have hM : mostF ninf l < 18446744073709551616 := by
        rcases (most_ge l ninf).2.2 with h | h
        · rw [h]; decide
        · exact hb _ h
      refine ⟨H, l9_1 n hE hb hl H _ 0 _ (Nat.zero_le _) (by omega) ?_⟩
      cases l with
      | nil => left; rfl
      | cons x r =>
        right
        rcases (most_ge (x :: r) ninf).2.2 with h | h
        · refine ⟨x, List.mem_cons_self .., ?_⟩
          have h2 := (most_ge (x :: r) ninf).2.1 x (List.mem_cons_self ..)
          have h3 := hb x (List.mem_cons_self ..)
          have := same_less hM h3
          rw [h2] at this
          have h4 : lessF x (mostF ninf (x :: r)) = false := by rw [h]; exact ninf_least h3
          rw [h4] at this
          simpa using this
        · exact ⟨_, h, rfl⟩
/-- RealMost. -/
theorem realMost_law (us : List V) (h : HasAs P [29] us) : ∃ n H', vF P tab n 9 us [] = some (.bool true, H') := by
  match us, h with
  | [u0], ⟨h0, _⟩ =>
    obtain ⟨d, s, es, rfl, hs, hlen, hes⟩ := hasA_sl (e := 22) (by kernel_rfl) h0
    obtain ⟨l, rfl, hl⟩ := lst_of (f := fun a : Nat => [V.int .u64 (a : Int)]) (Q := fun a => a < 18446744073709551616) (es := es) (fun y hy => by
      obtain ⟨x, rfl, hw⟩ := hasT_int (k := .u64) (by kernel_rfl) (hes y hy).1
      have : 0 ≤ x ∧ x < 18446744073709551616 := by
        simp [Lit.wf, IntKind.min, IntKind.max, IntKind.bits, IntKind.signed] at hw; omega
      exact ⟨x.toNat, by omega, by rw [Int.toNat_of_nonneg this.1]⟩)
    have q12 : ∀ (H : VH), V.callD (vF P tab 81) P false (.one (.flat .bool)) 12 [] H = some (true, H) := c12 1
    have hs' : IsE s (il l) := hs
    have key : ∃ H', bodyV P tab (vF P tab 81) 81 9 [.sl 22 s] [] = some (.bool true, H') := by
      rw [f9_eq, q12, Option.bind_some]
      simp only [Bool.not_true, cond_false]
      rw [hs'.len, il_len]
      by_cases h60 : l.length > 60
      · rw [decide_eq_true (by omega), cond_true, q12, Option.bind_some]; exact ⟨_, rfl⟩
      · rw [decide_eq_false (by omega), cond_false]
        exact l9_0 0 hs' hl (by omega) 81 0 (H := []) .nil (Nat.zero_le _) (by omega)
    obtain ⟨H', hk⟩ := key
    exact ⟨82, H', by rw [vF_body rfl]; exact hk⟩
end Go.Proofs.YtibnelhbebognaaDoor
