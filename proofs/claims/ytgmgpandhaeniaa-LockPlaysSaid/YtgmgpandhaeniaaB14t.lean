import Derived.Test.YtgmgpandhaeniaaEq
set_option maxRecDepth 100000
set_option linter.unusedVariables false
set_option linter.unusedSimpArgs false
namespace Go.Proofs.Ytgmgpandhaeniaa
open Go.Proofs.Ytgmgpandhaeniaa.Sh Go.Proofs.Ytgmgpandhaeniaa.Sh.V Go.RowKit Go.Proofs.Ytgmgpandhaeniaa.Sh.Lk
theorem stays_step {H : VH} {p : VP} {τ : V.FT} {x : τ.T} (h : ldV (.flat τ) H p = some x) (r : Held) : V.stays H ((p, τ, V.fenc τ x) :: r) = V.stays H r := by
  rw [V.stays_cons, h]
  simp only [V.same_self, Bool.true_and]
theorem stays_s {H : VH} {i off : Nat} {e : TypeId} {x : VS} (h : ldV (.flat (.slice e)) H (.ob i off) = some x) : V.stays H (hj (heldOf (.ob i off) [.slice e] [.sl e x]) []) = true := stays_step (τ := .slice e) h []
/-! ### Waiters, locks, tables in the heap -/
abbrev WTY : TypeId := 70
abbrev LTY : TypeId := 68 + boxK
abbrev TTY : TypeId := 62 + boxK
def wtc (w : Wt) : List V := [.int .i64 w.o, .bool w.only, .bool w.up]
def wts (q : List Wt) : List (List V) := q.map wtc
theorem wts_len (q : List Wt) : (wts q).length = q.length := by simp [wts]
theorem wts_get {q : List Wt} {i : Nat} {w : Wt} (h : q[i]? = some w) : (wts q)[i]? = some (wtc w) := by simp [wts, h]
theorem dec_w (w : Wt) : V.decs [.int .i64, .bool, .bool] (wtc w) = some (w.o, w.only, w.up, ()) := rfl
/-- A lock in the object b. -/
def LO (H : VH) (b : Nat) (F : List Nat) (x : Lk) : Prop := ∃ s q, H[b]? = some (.row LTY [.sl 3 s, .bool x.only, .sl WTY q]) ∧ Hr H 3 1 s (ints x.hs) ∧ Hr H WTY 3 q (wts x.q) ∧ F = b :: (hps s ++ hps q)
theorem LO.ty {H : VH} {b : Nat} {F : List Nat} {x : Lk} (h : LO H b F x) : ∀ t ∈ F, ∃ T cs, H[t]? = some (.row T cs) ∧ (T = LTY ∨ T = 3 ∨ T = WTY) := by
  obtain ⟨s, q, h1, h2, h3, rfl⟩ := h
  intro t ht
  rcases List.mem_cons.1 ht with rfl | ht
  · exact ⟨_, _, h1, .inl rfl⟩
  · rcases List.mem_append.1 ht with ht | ht
    · obtain ⟨_, cs, hc⟩ := h2.lt t ht
      exact ⟨_, cs, hc, .inr (.inl rfl)⟩
    · obtain ⟨_, cs, hc⟩ := h3.lt t ht
      exact ⟨_, cs, hc, .inr (.inr rfl)⟩
theorem LO.lt {H : VH} {b : Nat} {F : List Nat} {x : Lk} (h : LO H b F x) : ∀ t ∈ F, t < H.length := fun t ht => by
  obtain ⟨T, cs, h1, _⟩ := h.ty t ht
  exact lt_of_ob h1
theorem LO.keep {H H' : VH} {X : List Nat} {b : Nat} {F : List Nat} {x : Lk} (h : LO H b F x) (k : Kp H H' X) (hx : ∀ t ∈ F, t ∉ X) : LO H' b F x := by
  obtain ⟨s, q, h1, h2, h3, rfl⟩ := h
  exact ⟨s, q, k.ob h1 (hx b (List.mem_cons_self ..)), h2.keep k (fun t ht => hx t (List.mem_cons_of_mem _ (List.mem_append_left _ ht))), h3.keep k (fun t ht => hx t (List.mem_cons_of_mem _ (List.mem_append_right _ ht))), rfl⟩
theorem LO.kn {H H' : VH} {b : Nat} {F : List Nat} {x : Lk} (h : LO H b F x) (k : Kp H H' []) : LO H' b F x := h.keep k (fun t _ => by simp)
/-! ### Is a number in a list? -/
theorem l48 (n : Nat) {H : VH} {s : VS} {l : List Int} (hs : Hr H 3 1 s (ints l)) (x : Int) (hl : l.length < 100000) : ∀ (m j : Nat), j ≤ l.length → l.length < j + m →
    ∃ r : Int, L48_0 n m s x (l.length : Int) (j : Int) H = some (.int .i64 r, H) ∧ (decide (r ≥ 0) = (l.drop j).contains x) := by
  intro m
  induction m with
  | zero => intro j h1 h2; omega
  | succ m ih =>
    intro j h1 h2
    rw [L48_0_eq]
    by_cases hj : j < l.length
    · obtain ⟨y, hy⟩ := get_of hj
      obtain ⟨hlt, he⟩ := List.getElem?_eq_some_iff.1 hy
      have hd : l.drop j = y :: l.drop (j + 1) := by rw [List.drop_eq_getElem_cons hlt, he]
      rw [decide_eq_true (by omega), cond_true, hs.rd1 (τ := .int .i64) (ints_get hy) (fd_int .i64 y), inc_nat (by omega), hd]
      by_cases hxy : x = y
      · subst hxy
        have : ((x : Int) == x) = true := by simp
        rw [this, cond_true]
        refine ⟨_, rfl, ?_⟩
        rw [decide_eq_true (by omega), List.contains_cons]
        simp
      · have : ((x : Int) == y) = false := by simpa using hxy
        rw [this, cond_false]
        obtain ⟨r, g1, g2⟩ := ih (j + 1) (by omega) (by omega)
        refine ⟨r, g1, ?_⟩
        rw [g2, List.contains_cons, this, Bool.false_or]
    · rw [decide_eq_false (by omega), cond_false]
      refine ⟨-1, rfl, ?_⟩
      rw [List.drop_eq_nil_of_le (by omega)]; rfl
theorem p27 (n : Nat) (hn : 3000 ≤ n) {H : VH} {s : VS} {l : List Int} (hs : Hr H 3 1 s (ints l)) (x : Int) (hl : l.length < 2000) :
    V.callD (vF P tab (n + 2)) P false (.one (.flat .bool)) 27 [.sl 3 s, .int .i64 x] H = some (l.contains x, H) := by
  refine callD_bool ?_
  obtain ⟨r, h1, h2⟩ := l48 n hs x (by omega) n 0 (Nat.zero_le _) (by omega)
  have hc : V.callD (vF P tab (n + 1)) P false (.one (.flat (.int .i64))) 48 [.sl 3 s, .int .i64 x] H = some (r, H) := by
    refine callD_int ?_
    rw [vF_body rfl, f48_eq, hs.len, ints_len]
    exact h1
  rw [vF_body rfl, f27_eq, hc, Option.bind_some]
  simp only
  rw [h2, List.drop_zero]
/-! ### Numbers that go -/
theorem p53 (n : Nat) {H : VH} {p : Nat} {o : Int} (hp : H[p]? = some (.row (3 + boxK) [.int .i64 o])) (x : Int) : V.callD (vF P tab (n + 1)) P false (.one (.flat .bool)) 53 [.int .i64 x, .ptr (.ob p 0)] H = some (x == o, H) := by
  refine callD_bool ?_
  rw [vF_body rfl, f53_eq, ld_row hp]
  show ((V.fdec (.int .i64) (.int .i64 o)).bind _) = _
  rw [fd_int]; rfl
theorem drop_of {α : Type} {l : List α} {j : Nat} {y : α} (hy : l[j]? = some y) : l.drop j = y :: l.drop (j + 1) := by
  obtain ⟨hlt, he⟩ := List.getElem?_eq_some_iff.1 hy
  rw [List.drop_eq_getElem_cons hlt, he]
theorem l64 (n : Nat) {H : VH} {s : VS} {l : List Int} (hs : Hr H 3 1 s (ints l)) {p : Nat} {o : Int} (hp : H[p]? = some (.row (3 + boxK) [.int .i64 o])) (hl : l.length < 100000) : ∀ (m j : Nat), j ≤ l.length → l.length < j + m →
    (L64_0 (n + 1) m s (.ob p 0) (l.length : Int) (j : Int) H = some (.int .i64 (-1), H) ∧ (l.drop j).filter (· != o) = l.drop j) ∨
    ∃ i, j ≤ i ∧ i < l.length ∧ L64_0 (n + 1) m s (.ob p 0) (l.length : Int) (j : Int) H = some (.int .i64 (i : Int), H) ∧ (l.drop j).filter (· != o) = (l.drop j).take (i - j) ++ (l.drop (i + 1)).filter (· != o) := by
  intro m
  induction m with
  | zero => intro j h1 h2; omega
  | succ m ih =>
    intro j h1 h2
    rw [L64_0_eq]
    by_cases hj : j < l.length
    · obtain ⟨y, hy⟩ := get_of hj
      rw [decide_eq_true (by omega), cond_true, hs.rd1 (τ := .int .i64) (ints_get hy) (fd_int .i64 y), p53 n hp, Option.bind_some, inc_nat (by omega), drop_of hy]
      simp only
      by_cases hyo : y = o
      · have : (y == o) = true := by simpa using hyo
        rw [this, cond_true]
        refine .inr ⟨j, Nat.le_refl _, hj, rfl, ?_⟩
        have : (y != o) = false := by simp [hyo]
        rw [List.filter_cons, this, Nat.sub_self]
        rfl
      · have e1 : (y == o) = false := by simpa using hyo
        have e2 : (y != o) = true := by simpa using hyo
        rw [e1, cond_false, List.filter_cons, if_pos e2]
        rcases ih (j + 1) (by omega) (by omega) with ⟨a, b⟩ | ⟨i, a, b, c, d⟩
        · exact .inl ⟨a, by rw [b]⟩
        · refine .inr ⟨i, by omega, b, c, ?_⟩
          rw [d, show i - j = (i - (j + 1)) + 1 by omega, List.take_succ_cons]; rfl
    · rw [decide_eq_false (by omega), cond_false]
      refine .inl ⟨rfl, ?_⟩
      rw [List.drop_eq_nil_of_le (by omega)]; rfl
theorem ints_set (l : List Int) (i : Nat) (x : Int) : ints (l.set i x) = (ints l).set i [ik x] := by simp [ints, List.map_set]
theorem ints_take (l : List Int) (i : Nat) : ints (l.take i) = (ints l).take i := by simp [ints]
theorem elem3 : elemOf? P 29 = some 3 := by kernel_rfl
theorem zero3 : zeroV P 3 = some [.int .i64 0] := by kernel_rfl
theorem elem70 : elemOf? P 66 = some 70 := by kernel_rfl
theorem zero70 : zeroV P 70 = some [.int .i64 0, .bool false, .bool false] := by kernel_rfl
theorem l52 (n : Nat) {p : Nat} {o : Int} {s : VS} (hp2 : p ∉ hps s) : ∀ (m i j : Nat) {H : VH} {l : List Int}, Hr H 3 1 s (ints l) → H[p]? = some (.row (3 + boxK) [.int .i64 o]) → l.length < 100000 → i ≤ j → j ≤ l.length → l.length < j + m →
    ∃ s' H', L52_0 (n + 1) m s (.ob p 0) (i : Int) (j : Int) H = some (.sl 3 s', H') ∧ Hr H' 3 1 s' (ints (l.take i ++ (l.drop j).filter (· != o))) ∧ Kp H H' (hps s) ∧ hps s' = hps s ∧ H'.length = H.length := by
  intro m
  induction m with
  | zero => intros; omega
  | succ m ih =>
    intro i j H l hs hp hl hij hj hm
    rw [L52_0_eq, hs.len, ints_len]
    by_cases hc : j < l.length
    · obtain ⟨y, hy⟩ := get_of hc
      rw [decide_eq_true (by omega), cond_true, hs.rd1 (τ := .int .i64) (ints_get hy) (fd_int .i64 y), p53 n hp, Option.bind_some, inc_nat (by omega), inc_nat (by omega), drop_of hy, List.filter_cons]
      simp only
      by_cases hyo : y = o
      · have e1 : (y == o) = true := by simpa using hyo
        have e2 : (y != o) = false := by simp [hyo]
        rw [e1, Bool.not_true, cond_false, e2]
        simp only [Bool.false_eq_true, if_false]
        exact ih i (j + 1) hs hp hl (by omega) (by omega) (by omega)
      · have e1 : (y == o) = false := by simpa using hyo
        have e2 : (y != o) = true := by simpa using hyo
        rw [e1, Bool.not_false, cond_true, if_pos e2]
        obtain ⟨H1, a1, a2, a3, a4⟩ := hs.set (i := i) (by rw [ints_len]; omega) (z := [ik y]) rfl rfl (fun h5 => L52_0 (n + 1) m s (.ob p 0) ((i + 1 : Nat) : Int) ((j + 1 : Nat) : Int) h5)
        rw [a1]
        rw [← ints_set] at a2
        obtain ⟨s', H', b1, b2, b3, b4, b5⟩ := ih (i + 1) (j + 1) a2 (a3.ob hp hp2) (by rw [List.length_set]; exact hl) (by omega) (by rw [List.length_set]; omega) (by rw [List.length_set]; omega)
        refine ⟨s', H', b1, ?_, a3.trans b3 (fun x hx _ => hx) (fun x hx _ => hx), b4, by omega⟩
        have e3 : (l.set i y).take (i + 1) ++ ((l.set i y).drop (j + 1)).filter (· != o) = l.take i ++ y :: (l.drop (j + 1)).filter (· != o) := by
          rw [List.drop_set_of_lt (by omega), List.set_eq_take_append_cons_drop, if_pos (by omega)]
          rw [List.take_append, List.length_take, Nat.min_eq_left (by omega), show i + 1 - i = 1 by omega, List.take_of_length_le (by rw [List.length_take]; omega)]
          simp
        rw [e3] at b2
        exact b2
    · have hjl : j = l.length := by omega
      subst hjl
      rw [decide_eq_false (by omega), cond_false, List.drop_eq_nil_of_le (Nat.le_refl _), List.filter_nil, List.append_nil]
      obtain ⟨s2, a1, a2, a3, a4⟩ := hs.drop (c := i) (by rw [ints_len]; omega)
      rw [a1, Option.bind_some]
      obtain ⟨H1, es', b1, b2, b3, b4, b5, b6⟩ := hs.clear (c := i) (by rw [ints_len]; omega) a1 elem3 zero3 rfl (by decide) rfl
      rw [b1, Option.bind_some]
      obtain ⟨s3, c1, c2, c3⟩ := b2.take (c := i) (by rw [b3, ints_len]; omega)
      rw [c1, Option.bind_some]
      refine ⟨s3, H1, rfl, ?_, b5, c3, b6⟩
      rw [b4, ← ints_take] at c2
      exact c2
theorem p52 (n : Nat) (hn : 3000 ≤ n) {H : VH} {s : VS} {l : List Int} (hs : Hr H 3 1 s (ints l)) {p : Nat} {o : Int} (hp : H[p]? = some (.row (3 + boxK) [.int .i64 o])) (hl : l.length < 2000) :
    ∃ s' H', V.callD (vF P tab (n + 3)) P false (.one (.flat (.slice 3))) 52 [.sl 3 s, .func (.func 53) [] [.ptr (.ob p 0)]] H = some (s', H') ∧ Hr H' 3 1 s' (ints (l.filter (· != o))) ∧ Kp H H' (hps s) ∧ hps s' = hps s ∧ H'.length = H.length := by
  have hp2 : p ∉ hps s := fun h => by
    obtain ⟨_, cs, hcs⟩ := hs.lt p h
    rw [hp] at hcs
    injection hcs with hcs
    injection hcs with hcs
    revert hcs; decide
  have hc : ∀ r : Int, L64_0 (n + 1) (n + 1) s (.ob p 0) (l.length : Int) ((0 : Nat) : Int) H = some (.int .i64 r, H) → V.callD (vF P tab (n + 2)) P false (.one (.flat (.int .i64))) 64 [.sl 3 s, .func (.func 53) [] [.ptr (.ob p 0)]] H = some (r, H) := fun r h => by
    refine callD_int ?_
    rw [vF_body rfl, f64_eq, hs.len, ints_len]
    exact h
  rcases l64 n hs hp (by omega) (n + 1) 0 (Nat.zero_le _) (by omega) with ⟨a, b⟩ | ⟨i, a, b, c, d⟩
  · refine ⟨s, H, callD_sl ?_, ?_, Kp.refl _ _, rfl, rfl⟩
    · rw [vF_body rfl, f52_eq, hc _ a, Option.bind_some]; rfl
    · rw [List.drop_zero] at b; rw [b]; exact hs
  · obtain ⟨s', H', e1, e2, e3, e4, e5⟩ := l52 (n + 1) (o := o) hp2 (n + 2) i (i + 1) hs hp (by omega) (by omega) (by omega) (by omega)
    refine ⟨s', H', callD_sl ?_, ?_, e3, e4, e5⟩
    · rw [vF_body rfl, f52_eq, hc _ c, Option.bind_some]
      simp only
      have : ((i : Int) == (-1)) = false := by
        have : (i : Int) ≠ -1 := by omega
        simp
      rw [this, cond_false, inc_nat (by omega)]
      exact e1
    · rw [List.drop_zero, Nat.sub_zero] at d
      rw [d]; exact e2
end Go.Proofs.Ytgmgpandhaeniaa
