import Derived.Test.YtibnelhbebognaaDoorB01S
set_option maxRecDepth 100000
set_option linter.unusedVariables false
set_option linter.unusedSimpArgs false
namespace Go.Proofs.YtibnelhbebognaaDoor
open Go.Proofs.YtibnelhbebognaaDoor.Sh Go.Proofs.YtibnelhbebognaaDoor.Sh.V Go.RowKit
/-! ### RealSums -/
theorem e14n (n : Nat) {a : Nat} (ha : isNaN a) (H : VH) : vF P tab (n + 1) 14 [.flt .f64 a] H = some (.int .u64 9221120237041090561, H) := by
  have h : bodyV P tab (vF P tab n) n 14 ([.flt .f64 a].map stripC) [] = some (.int .u64 9221120237041090561, []) := by
    show bodyV P tab (vF P tab n) n 14 [.flt .f64 a] [] = _
    rw [f14_eq, tobits, Option.bind_some]
    have hr : remI (a : Int) 9223372036854775808 = some ((a % 9223372036854775808 : Nat) : Int) := by
      unfold remI; simp [Int.tmod_eq_emod_of_nonneg]
    rw [hr, Option.bind_some]
    have h1 : 9218868437227405312 < a % 9223372036854775808 := ha
    have : decide (((a % 9223372036854775808 : Nat) : Int) > 9218868437227405312) = true := decide_eq_true (by omega)
    rw [this]; rfl
  rw [vF_lone rfl rfl h rfl]; rfl
theorem bits_ok : PrimOKg (globIn globs) Tryd.prog 14 S.bitsP := by
  intro args c v H' hq B w0 SS w args' hs hargs
  unfold S.bitsP at hq
  split at hq
  · rename_i b
    split at hq
    · rename_i hb
      injection hq with hq
      injection hq with e1 e2
      subst e1 e2
      exact vF_sound tabOK 1 14 [.flt .f64 b] c _ _ (e14 0 hb c.H) B w0 SS w args' hs hargs
    · cases hq
  · injection hq with hq
    injection hq with e1 e2
    subst e1 e2
    obtain ⟨us, h1, h2⟩ := hargs
    cases h1 with
    | cons x y =>
      cases y
      cases x with
      | nan hb =>
        rename_i b
        exact vF_sound tabOK 1 14 [.flt .f64 b] c _ _ (e14n 0 hb c.H) B w0 SS w args' hs ⟨_, .cons (.flt .f64 b) .nil, h2⟩
  · cases hq
theorem word_lt (s : Bool) {r : Nat} (h : r < 9223372036854775808) : dbl.word s r < 18446744073709551616 := by
  have e1 : dbl.signWeight = 9223372036854775808 := by decide
  unfold Ieee.Format.word
  rw [e1]
  split <;> omega
theorem write_lt (d : Ieee.Datum) : dbl.write d < 18446744073709551616 := by
  have e2 : dbl.binade = 4503599627370496 := by decide
  have e3 : dbl.infRung = 9218868437227405312 := by decide
  cases d with
  | number s m p =>
    show dbl.nearest s m p < _
    unfold Ieee.Format.nearest
    split
    · exact word_lt _ (by decide)
    · exact word_lt _ (by rw [e3]; omega)
  | infinity s => exact word_lt _ (by rw [e3]; decide)
  | nan s f =>
    show dbl.word s (dbl.infRung + f % dbl.binade) < _
    refine word_lt _ ?_
    rw [e2, e3]; omega
theorem add_lt {a b r : Nat} (h : dbl.add a b = some r) : r < 18446744073709551616 := by
  unfold Ieee.Format.add at h
  rw [Option.map_eq_some_iff] at h
  obtain ⟨d, _, rfl⟩ := h
  exact write_lt d
def addS (s : Option Nat) (x : Nat) : Option Nat := s.bind fun a => dbl.add a x
def encS : Option Nat → V
  | none => .nan
  | some a => .flt .f64 a
def canonS : Option Nat → Nat
  | none => 9221120237041090561
  | some a => canonB a
def sumS (l : List Nat) : Option Nat := l.foldl addS (some 0)
theorem sumS_snoc (l : List Nat) (x : Nat) : sumS (l ++ [x]) = addS (sumS l) x := by unfold sumS; rw [List.foldl_append]; rfl
theorem sum_lt : ∀ (l : List Nat) (s : Option Nat), (∀ a, s = some a → a < 18446744073709551616) → ∀ {a : Nat}, l.foldl addS s = some a → a < 18446744073709551616
  | [], s, hs, a, h => hs a h
  | x :: l, s, hs, a, h => sum_lt l (addS s x) (fun b hb => by
      unfold addS at hb
      rw [Option.bind_eq_some_iff] at hb
      obtain ⟨c, _, hb⟩ := hb
      exact add_lt hb) h
theorem sumS_lt (l : List Nat) {a : Nat} (h : sumS l = some a) : a < 18446744073709551616 := sum_lt l (some 0) (fun a h => by injection h with h; subst h; decide) h
theorem add_some {T : TypeId} {a x r : Nat} (P : Program) (h : dbl.add a x = some r) : pvD P (.flt .f64) (binOp .add T (.float .f64 a) (.float .f64 x)) = some r := by
  have e : binOp .add T (.float .f64 a) (.float .f64 x) = Op.floatArith .add .f64 a x := rfl
  have h' : FloatKind.f64.format.add a x = some r := h
  rw [e]; unfold Op.floatArith; simp only [h']; rfl
theorem nanOf_add (a x : Nat) : nanOf .add (some (.flt .f64 a)) (some (.flt .f64 x)) = (dbl.add a x).isNone := rfl
namespace S
theorem tabOK : VOKg (globIn globs) P tab := mkVg_ok (mkVp_ok (mkV_ok (by kernel_rfl) (by kernel_rfl) (by
  intro f hf
  have : (reach.all fun f => okCode P noteOf f) = true := by kernel_rfl
  exact List.all_eq_true.1 this f hf) (fun f hf => by cases hf)) (fun x hx => by
  simp only [prims, List.mem_cons, List.not_mem_nil, or_false] at hx
  subst hx
  exact bits_ok)) (fun x hx => by
  simp only [globs, List.mem_cons, List.not_mem_nil, or_false] at hx
  rcases hx with rfl | rfl | rfl <;> rfl) (fun B w h => h)
theorem noughts (n : Nat) (H : VH) : vF P tab (n + 80) 12 [] H = some (.bool true, H) := by kernel_rfl
theorem c12 (n : Nat) (H : VH) : V.callD (vF P tab (n + 80)) P false (.one (.flat .bool)) 12 [] H = some (true, H) := callD_bool (noughts n H)
theorem tobits (a : Nat) : pvD P (.int .u64) (ext13 #[.float .f64 a]) = some (a : Int) := by kernel_rfl
theorem ofbits (a : Nat) : pvD P (.flt .f64) (ext27 #[.int .u64 (a : Int)]) = some a := by kernel_rfl
theorem ofnan : pvD P (.flt .f64) (ext27 #[.int .u64 9221120237041090561]) = some 9221120237041090561 := by kernel_rfl
theorem c10 (n : Nat) (b : Nat) (H : VH) : V.callD (vF P tab (n + 1)) P false (.one (.flat (.flt .f64))) 10 [.int .u64 (b : Int)] H = some (b, H) := by
  have h : bodyV P tab (vF P tab n) n 10 ([.int .u64 (b : Int)].map stripC) [] = some (.flt .f64 b, []) := by
    show bodyV P tab (vF P tab n) n 10 [.int .u64 (b : Int)] [] = _
    rw [f10_eq, ofbits, Option.bind_some]
  exact callD_some (.flt .f64 b) (by rw [vF_lone rfl rfl h rfl]; rfl) rfl
theorem c11 (n : Nat) (s : Option Nat) (H : VH) : V.callD (vF P tab (n + 1)) P false (.one (.flat (.flt .f64))) 11 [encS s] H = some (canonS s, H) := by
  cases s with
  | none =>
    have h : bodyV P tab (vF P tab n) n 11 ([.nan].map stripC) [] = some (.flt .f64 9221120237041090561, []) := by
      show bodyV P tab (vF P tab n) n 11 [.nan] [] = _
      rw [f11_nan, ofnan, Option.bind_some]
    exact callD_some (.flt .f64 9221120237041090561) (by show vF P tab (n + 1) 11 [.nan] H = _; rw [vF_lone rfl rfl h rfl]; rfl) rfl
  | some a =>
    have h : bodyV P tab (vF P tab n) n 11 ([.flt .f64 a].map stripC) [] = some (.flt .f64 (canonB a), []) := by
      show bodyV P tab (vF P tab n) n 11 [.flt .f64 a] [] = _
      rw [f11_eq, fne, Option.bind_some, order_self]
      by_cases hn : isNaN a
      · rw [decide_eq_true hn, cond_true, ofnan]
        unfold canonB; rw [if_pos hn]; rfl
      · rw [decide_eq_false hn, cond_false, feq, Option.bind_some, order_zero hn]
        unfold canonB; rw [if_neg hn]
        by_cases h0 : rung a = 0
        · rw [decide_eq_true h0, if_pos h0]; rfl
        · rw [decide_eq_false h0, if_neg h0]; rfl
    exact callD_some (.flt .f64 (canonB a)) (by show vF P tab (n + 1) 11 [.flt .f64 a] H = _; rw [vF_lone rfl rfl h rfl]; rfl) rfl
theorem b14 (n : Nat) (b : Nat) (H : VH) : bodyV P tab (vF P tab n) n 14 [.flt .f64 b] H = (if b < 18446744073709551616 then some (.int .u64 (canonB b : Int), H) else none) := by kernel_rfl
theorem b14n (n : Nat) (H : VH) : bodyV P tab (vF P tab n) n 14 [.nan] H = some (.int .u64 9221120237041090561, H) := by kernel_rfl
theorem c14 (n : Nat) {s : Option Nat} (hs : ∀ a, s = some a → a < 18446744073709551616) (H : VH) : V.callD (vF P tab (n + 1)) P false (.one (.flat (.int .u64))) 14 [encS s] H = some ((canonS s : Int), H) := by
  cases s with
  | none =>
    have h : bodyV P tab (vF P tab n) n 14 ([.nan].map stripC) [] = some (.int .u64 9221120237041090561, []) := b14n n []
    exact callD_int (by show vF P tab (n + 1) 14 [.nan] H = _; rw [vF_lone rfl rfl h rfl]; rfl)
  | some a =>
    have h : bodyV P tab (vF P tab n) n 14 ([.flt .f64 a].map stripC) [] = some (.int .u64 (canonB a : Int), []) := by
      show bodyV P tab (vF P tab n) n 14 [.flt .f64 a] [] = _
      rw [b14, if_pos (hs a rfl)]
    exact callD_int (by show vF P tab (n + 1) 14 [.flt .f64 a] H = _; rw [vF_lone rfl rfl h rfl]; rfl)
def fl (l : List Nat) : List (List V) := l.map fun (a : Nat) => [.flt .f64 a]
def il (l : List Nat) : List (List V) := l.map fun (a : Nat) => [.int .u64 (a : Int)]
@[simp] theorem fl_len (l : List Nat) : (fl l).length = l.length := by simp [fl]
@[simp] theorem il_len (l : List Nat) : (il l).length = l.length := by simp [il]
theorem rdF {s : VS} {l : List Nat} (h : IsE s (fl l)) {i : Nat} {a : Nat} (ha : l[i]? = some a) (H : VH) {β : Type} (f : Nat → Option β) : ((ixV 1 s (i : Int)).bind fun p => (ldV (.flat (.flt .f64)) H p).bind f) = f a := by
  rw [h.ix (y := [.flt .f64 a]) (by simp [fl, ha]) 1, Option.bind_some]; rfl
theorem rdI {s : VS} {l : List Nat} (h : IsE s (il l)) {i : Nat} {a : Nat} (ha : l[i]? = some a) (H : VH) {β : Type} (f : Int → Option β) : ((ixV 1 s (i : Int)).bind fun p => (ldV (.flat (.int .u64)) H p).bind f) = f (a : Int) := by
  rw [h.ix (y := [.int .u64 (a : Int)]) (by simp [il, ha]) 1, Option.bind_some]; rfl
theorem take_succ' {l : List Nat} {i : Nat} {a : Nat} (ha : l[i]? = some a) : l.take (i + 1) = l.take i ++ [a] := by
  obtain ⟨hlt, he⟩ := List.getElem?_eq_some_iff.1 ha
  rw [List.take_succ_eq_append_getElem hlt, he]
theorem l16 (n : Nat) {s : VS} {l : List Nat} (hs : IsE s (fl l)) (hl : l.length < 1000) (H : VH) : ∀ (m i : Nat), i ≤ l.length → l.length < i + m →
    L16v (n + 80) m (encS (sumS (l.take i))) s (l.length : Int) (i : Int) H = some (.flt .f64 (canonS (sumS l)), H) := by
  intro m
  induction m with
  | zero => intro i h1 h2; omega
  | succ m ih =>
    intro i h1 h2
    by_cases hi : i < l.length
    · obtain ⟨x, hx⟩ : ∃ x, l[i]? = some x := ⟨_, List.getElem?_eq_getElem hi⟩
      have h3 := ih (i + 1) (by omega) (by omega)
      rw [take_succ' hx, sumS_snoc] at h3
      cases hS : sumS (l.take i) with
      | none =>
        rw [hS] at h3
        show L16v (n + 80) (m + 1) .nan s (l.length : Int) (i : Int) H = _
        rw [L16v_n, decide_eq_true (by omega), cond_true, rdF hs hx, inc_nat (by omega)]
        exact h3
      | some a =>
        rw [hS] at h3
        show L16v (n + 80) (m + 1) (.flt .f64 a) s (l.length : Int) (i : Int) H = _
        rw [L16v_f, decide_eq_true (by omega), cond_true, rdF hs hx, inc_nat (by omega), nanOf_add]
        have e : addS (some a) x = dbl.add a x := rfl
        rw [e] at h3
        cases hr : dbl.add a x with
        | none => rw [hr] at h3; exact h3
        | some r => rw [hr] at h3; rw [add_some P hr]; exact h3
    · have : i = l.length := by omega
      subst this
      rw [List.take_length]
      cases hS : sumS l with
      | none =>
        have := c11 (n + 79) none H
        show L16v (n + 80) (m + 1) .nan s (l.length : Int) (l.length : Int) H = _
        rw [L16v_n, decide_eq_false (by omega), cond_false]
        show ((V.callD (vF P tab (n + 80)) P false (.one (.flat (.flt .f64))) 11 [encS none] H).bind _) = _
        rw [this]; rfl
      | some a =>
        have := c11 (n + 79) (some a) H
        show L16v (n + 80) (m + 1) (.flt .f64 a) s (l.length : Int) (l.length : Int) H = _
        rw [L16v_f, decide_eq_false (by omega), cond_false]
        show ((V.callD (vF P tab (n + 80)) P false (.one (.flat (.flt .f64))) 11 [encS (some a)] H).bind _) = _
        rw [this]; rfl
theorem c16 (n : Nat) {s : VS} {l : List Nat} (hs : IsE s (fl l)) (hl : l.length < 80) (H : VH) : V.callD (vF P tab (n + 81)) P false (.one (.flat (.flt .f64))) 16 [.sl 23 s] H = some (canonS (sumS l), H) := by
  have h : bodyV P tab (vF P tab (n + 80)) (n + 80) 16 ([.sl 23 s].map stripC) [] = some (.flt .f64 (canonS (sumS l)), []) := by
    show bodyV P tab (vF P tab (n + 80)) (n + 80) 16 [.sl 23 s.strip] [] = _
    rw [f16_eq, hs.strip.len, fl_len]
    exact l16 n hs.strip (by omega) [] (n + 80) 0 (Nat.zero_le _) (by omega)
  have hcl : ([.sl 23 s] : List V).all closedC = true := by
    show (closed1 (.sl 23 s) && true) = true
    rw [hs.closed 23]; rfl
  exact callD_some (.flt .f64 (canonS (sumS l))) (by rw [vF_lone rfl hcl h rfl]; rfl) rfl
theorem l4_end (n : Nat) {s3 : VS} {l : List Nat} (hE : IsE s3 (fl l)) (hl : l.length < 61) (H : VH) :
    (((callD (vF P tab (n + 81)) P false (.one (.flat (.flt .f64))) 16 [.sl 23 s3] H).bind fun r9 =>
      ((pvD P (.int .u64) (ext13 #[.float .f64 r9.1])).bind fun x10 =>
        ((callD (vF P tab (n + 81)) P false (.one (.flat (.int .u64))) 14 [encS (sumS l)] r9.2).bind fun r11 =>
          (some (V.bool ((x10 : Int) == r11.1), r11.2)))))) = some (.bool true, H) := by
  rw [c16 n hE (by omega), Option.bind_some, tobits, Option.bind_some, c14 (n + 80) (fun a h => sumS_lt l h), Option.bind_some]
  simp
theorem l4 (n : Nat) {s : VS} {l : List Nat} (hs : IsE s (il l)) (hl : l.length < 61) : ∀ (m i : Nat) {H : VH} {s3 : VS}, Ap H 23 s3 (fl (l.take i)) → i ≤ l.length → l.length < i + m →
    ∃ H', L4v (n + 81) m s s3 (encS (sumS (l.take i))) (i : Int) H = some (.bool true, H') := by
  intro m
  induction m with
  | zero => intro i H s3 _ h1 h2; omega
  | succ m ih =>
    intro i H s3 hap h1 h2
    by_cases hi : i < l.length
    · obtain ⟨x, hx⟩ : ∃ x, l[i]? = some x := ⟨_, List.getElem?_eq_getElem hi⟩
      have htl : (l.take i).length = i := by rw [List.length_take]; omega
      obtain ⟨s', H', g1, g2, _⟩ := hap.app (sz := 1) (by_ := 8) (x := .fz [[.flt .f64 x]] (.ex 1)) (news := [[.flt .f64 x]]) (.fz _ _) (by simp [bound, htl]; omega) (by simp [bound, htl]; omega)
      have : fl (l.take i) ++ [[.flt .f64 x]] = fl (l.take (i + 1)) := by rw [take_succ' hx]; simp [fl]
      rw [this] at g2
      obtain ⟨H'', h3⟩ := ih (i + 1) g2 (by omega) (by omega)
      rw [take_succ' hx, sumS_snoc] at h3
      refine ⟨H'', ?_⟩
      cases hS : sumS (l.take i) with
      | none =>
        rw [hS] at h3
        show L4v (n + 81) (m + 1) s s3 .nan (i : Int) H = _
        rw [L4v_n, hs.len, il_len, decide_eq_true (by omega), cond_true, rdI hs hx, c10 (n + 80), Option.bind_some]
        simp only
        rw [g1, Option.bind_some, rdI hs hx, c10 (n + 80), Option.bind_some, inc_nat (by omega)]
        exact h3
      | some a =>
        rw [hS] at h3
        show L4v (n + 81) (m + 1) s s3 (.flt .f64 a) (i : Int) H = _
        rw [L4v_f, hs.len, il_len, decide_eq_true (by omega), cond_true, rdI hs hx, c10 (n + 80), Option.bind_some]
        simp only
        rw [g1, Option.bind_some, rdI hs hx, c10 (n + 80), Option.bind_some, inc_nat (by omega)]
        simp only
        rw [nanOf_add]
        have e : addS (some a) x = dbl.add a x := rfl
        rw [e] at h3
        cases hr : dbl.add a x with
        | none => rw [hr] at h3; exact h3
        | some r => rw [hr] at h3; rw [add_some P hr]; exact h3
    · have : i = l.length := by omega
      subst this
      rw [List.take_length] at hap ⊢
      have hend := l4_end n hap.isE hl H
      refine ⟨H, ?_⟩
      cases hS : sumS l with
      | none =>
        rw [hS] at hend
        show L4v (n + 81) (m + 1) s s3 .nan (l.length : Int) H = _
        rw [L4v_n, hs.len, il_len, decide_eq_false (by omega), cond_false]
        exact hend
      | some a =>
        rw [hS] at hend
        show L4v (n + 81) (m + 1) s s3 (.flt .f64 a) (l.length : Int) H = _
        rw [L4v_f, hs.len, il_len, decide_eq_false (by omega), cond_false]
        exact hend
/-- RealSums. -/
theorem realSums_law (us : List V) (h : HasAs P [29] us) : ∃ n H', vF P tab n 4 us [] = some (.bool true, H') := by
  match us, h with
  | [u0], ⟨h0, _⟩ =>
    obtain ⟨d, s, es, rfl, hs, hlen, hes⟩ := hasA_sl (e := 22) (by kernel_rfl) h0
    obtain ⟨l, rfl, hl⟩ := lst_of (f := fun a : Nat => [V.int .u64 (a : Int)]) (Q := fun a => a < 18446744073709551616) (es := es) (fun y hy => by
      obtain ⟨x, rfl, hw⟩ := hasT_int (k := .u64) (by kernel_rfl) (hes y hy).1
      have : 0 ≤ x ∧ x < 18446744073709551616 := by
        simp [Lit.wf, IntKind.min, IntKind.max, IntKind.bits, IntKind.signed] at hw; omega
      exact ⟨x.toNat, by omega, by rw [Int.toNat_of_nonneg this.1]⟩)
    have q12 : ∀ (H : VH), V.callD (vF P tab 81) P false (.one (.flat .bool)) 12 [] H = some (true, H) := c12 1
    have hs' : IsE s (il l) := hs
    have key : ∃ H', bodyV P tab (vF P tab 81) 81 4 [.sl 22 s] [] = some (.bool true, H') := by
      rw [f4_eq, q12, Option.bind_some]
      simp only [Bool.not_true, cond_false]
      rw [hs'.len, il_len]
      by_cases h60 : l.length > 60
      · rw [decide_eq_true (by omega), cond_true, q12, Option.bind_some]; exact ⟨_, rfl⟩
      · rw [decide_eq_false (by omega), cond_false]
        exact l4 0 hs' (by omega) 81 0 (H := []) .nil (Nat.zero_le _) (by omega)
    obtain ⟨H', hk⟩ := key
    exact ⟨82, H', by rw [vF_body rfl]; exact hk⟩
end S
end Go.Proofs.YtibnelhbebognaaDoor
