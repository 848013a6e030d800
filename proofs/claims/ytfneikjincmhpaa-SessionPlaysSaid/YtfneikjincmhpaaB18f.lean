import Derived.Test.YtfneikjincmhpaaB18w
set_option maxRecDepth 100000
set_option linter.unusedVariables false
set_option linter.unusedSimpArgs false
namespace Go.Proofs.Ytfneikjincmhpaa
open Go.Proofs.Ytfneikjincmhpaa.Sh Go.Proofs.Ytfneikjincmhpaa.Sh.V Go.RowKit
/-! ### Frames, plain -/
def hd (l : List UInt8) : Nat := (l.getD 0 0).toNat * 256 + (l.getD 1 0).toNat
def pullF : Nat → List UInt8 → List (List UInt8) × List UInt8 × Bool
  | 0, l => ([], l, false)
  | f + 1, l =>
    if l.length < 2 then ([], l, false)
    else if hd l < 1 ∨ 2048 < hd l then ([], [], true)
    else if l.length < 2 + hd l then ([], l, false)
    else (((l.drop 2).take (hd l)) :: (pullF f (l.drop (2 + hd l))).1, (pullF f (l.drop (2 + hd l))).2)
theorem pullF_le : ∀ (f g : Nat) (l : List UInt8), l.length ≤ f → l.length ≤ g → pullF f l = pullF g l := by
  intro f
  induction f with
  | zero =>
    intro g l h1 h2
    cases g with
    | zero => rfl
    | succ g => unfold pullF; rw [if_pos (by omega)]
  | succ f ih =>
    intro g l h1 h2
    cases g with
    | zero => unfold pullF; rw [if_pos (by omega)]
    | succ g =>
      unfold pullF
      by_cases c1 : l.length < 2
      · rw [if_pos c1, if_pos c1]
      rw [if_neg c1, if_neg c1]
      by_cases c2 : hd l < 1 ∨ 2048 < hd l
      · rw [if_pos c2, if_pos c2]
      rw [if_neg c2, if_neg c2]
      by_cases c3 : l.length < 2 + hd l
      · rw [if_pos c3, if_pos c3]
      rw [if_neg c3, if_neg c3, ih g (l.drop (2 + hd l)) (by rw [List.length_drop]; omega) (by rw [List.length_drop]; omega)]
/-- All whole payloads; what waits; is it broken? -/
def pull (l : List UInt8) : List (List UInt8) × List UInt8 × Bool := pullF l.length l
theorem pull_eq (l : List UInt8) : pull l =
    if l.length < 2 then ([], l, false)
    else if hd l < 1 ∨ 2048 < hd l then ([], [], true)
    else if l.length < 2 + hd l then ([], l, false)
    else (((l.drop 2).take (hd l)) :: (pull (l.drop (2 + hd l))).1, (pull (l.drop (2 + hd l))).2) := by
  unfold pull
  cases hl : l.length with
  | zero => unfold pullF; rw [if_pos (by omega)]
  | succ f =>
    conv => lhs; unfold pullF
    rw [hl]
    by_cases c1 : f + 1 < 2
    · rw [if_pos c1, if_pos c1]
    rw [if_neg c1, if_neg c1]
    by_cases c2 : hd l < 1 ∨ 2048 < hd l
    · rw [if_pos c2, if_pos c2]
    rw [if_neg c2, if_neg c2]
    by_cases c3 : f + 1 < 2 + hd l
    · rw [if_pos c3, if_pos c3]
    rw [if_neg c3, if_neg c3, pullF_le f (l.drop (2 + hd l)).length (l.drop (2 + hd l)) (by rw [List.length_drop]; omega) (Nat.le_refl _)]
theorem hd_app (a b : List UInt8) (h : 2 ≤ a.length) : hd (a ++ b) = hd a := by
  match a, h with
  | x :: y :: r, _ => rfl
theorem pull_app : ∀ (n : Nat) (a b : List UInt8), a.length ≤ n → pull (a ++ b) = if (pull a).2.2 = true then ((pull a).1, [], true) else ((pull a).1 ++ (pull ((pull a).2.1 ++ b)).1, (pull ((pull a).2.1 ++ b)).2) := by
  intro n
  induction n with
  | zero =>
    intro a b h
    have : a = [] := List.eq_nil_of_length_eq_zero (by omega)
    subst this
    rfl
  | succ n ih =>
    intro a b h
    rw [pull_eq a]
    by_cases c1 : a.length < 2
    · rw [if_pos c1]; simp
    rw [if_neg c1]
    have hh := hd_app a b (by omega)
    by_cases c2 : hd a < 1 ∨ 2048 < hd a
    · rw [if_pos c2, pull_eq (a ++ b), hh, if_neg (by rw [List.length_append]; omega), if_pos c2]; simp
    rw [if_neg c2]
    by_cases c3 : a.length < 2 + hd a
    · rw [if_pos c3]; simp
    rw [if_neg c3, pull_eq (a ++ b), hh, if_neg (by rw [List.length_append]; omega), if_neg c2, if_neg (by rw [List.length_append]; omega)]
    have e1 : (a ++ b).drop (2 + hd a) = a.drop (2 + hd a) ++ b := List.drop_append_of_le_length (by omega)
    have e2 : ((a ++ b).drop 2).take (hd a) = (a.drop 2).take (hd a) := by
      rw [List.drop_append_of_le_length (by omega), List.take_append_of_le_length (by rw [List.length_drop]; omega)]
    rw [e1, e2, ih (a.drop (2 + hd a)) b (by rw [List.length_drop]; omega)]
    simp only
    by_cases c4 : (pull (a.drop (2 + hd a))).2.2 = true
    · rw [if_pos c4, if_pos c4]
    · rw [if_neg c4, if_neg c4]; simp
theorem pull_broken : ∀ (n : Nat) (a : List UInt8), a.length ≤ n → (pull a).2.2 = true → (pull a).2.1 = [] := by
  intro n
  induction n with
  | zero => intro a h; have : a = [] := List.eq_nil_of_length_eq_zero (by omega); subst this; intro h; rfl
  | succ n ih =>
    intro a h
    rw [pull_eq a]
    split
    · intro h; cases h
    · split
      · intro _; rfl
      · split
        · intro h; cases h
        · exact ih _ (by rw [List.length_drop]; omega)
theorem pull_left : ∀ (n : Nat) (a : List UInt8), a.length ≤ n → (pull a).2.1.length ≤ a.length ∧ (pull a).1.length ≤ a.length := by
  intro n
  induction n with
  | zero => intro a h; have : a = [] := List.eq_nil_of_length_eq_zero (by omega); subst this; exact ⟨Nat.le_refl _, Nat.le_refl _⟩
  | succ n ih =>
    intro a h
    rw [pull_eq a]
    split
    · exact ⟨Nat.le_refl _, Nat.zero_le _⟩
    · split
      · exact ⟨Nat.zero_le _, Nat.zero_le _⟩
      · split
        · exact ⟨Nat.le_refl _, Nat.zero_le _⟩
        · obtain ⟨h1, h2⟩ := ih (a.drop (2 + hd a)) (by rw [List.length_drop]; omega)
          rw [List.length_drop] at h1 h2
          simp only [List.length_cons]
          exact ⟨by omega, by omega⟩
theorem pull_mem : ∀ (n : Nat) (a : List UInt8), a.length ≤ n → ∀ x ∈ (pull a).1, x.length ≤ a.length := by
  intro n
  induction n with
  | zero => intro a h; have : a = [] := List.eq_nil_of_length_eq_zero (by omega); subst this; intro x hx; cases hx
  | succ n ih =>
    intro a h
    rw [pull_eq a]
    split
    · intro x hx; cases hx
    · split
      · intro x hx; cases hx
      · split
        · intro x hx; cases hx
        · intro x hx
          rcases List.mem_cons.1 hx with rfl | hx
          · rw [List.length_take, List.length_drop]; omega
          · have := ih (a.drop (2 + hd a)) (by rw [List.length_drop]; omega) x hx
            rw [List.length_drop] at this; omega
theorem u8_mod (n : Nat) : u8 ((n % 256 : Nat) : Int) = u8 (n : Int) := by unfold u8; congr 1; omega
theorem hd_text (p r : List UInt8) (h : p.length < 65536) : hd (textI p ++ r) = p.length := by
  show (u8 ((p.length : Int) / 256)).toNat * 256 + (u8 (p.length : Int)).toNat = p.length
  rw [show ((p.length : Int) / 256) = ((p.length / 256 : Nat) : Int) from rfl, u8_nat, u8_nat]
  omega
theorem pull_text (p r : List UInt8) (h1 : 1 ≤ p.length) (h2 : p.length ≤ 2048) : pull (textI p ++ r) = (p :: (pull r).1, (pull r).2) := by
  rw [pull_eq, hd_text p r (by omega), List.length_append, textI_len, if_neg (by omega), if_neg (by omega), if_neg (by omega)]
  have e1 : (textI p ++ r).drop (2 + p.length) = r := by rw [← textI_len, List.drop_left]
  have e2 : ((textI p ++ r).drop 2).take p.length = p := by
    show (p ++ r).take p.length = p
    rw [List.take_left]
  rw [e1, e2]
def frames (l : List (List UInt8)) : List UInt8 := (l.map textI).flatten
theorem pull_frames : ∀ (l : List (List UInt8)) (r : List UInt8), (∀ x ∈ l, 1 ≤ x.length ∧ x.length ≤ 2048) → pull (frames l ++ r) = (l ++ (pull r).1, (pull r).2) := by
  intro l
  induction l with
  | nil => intro r _; rfl
  | cons a l ih =>
    intro r h
    have h1 := h a (List.mem_cons_self ..)
    have e : frames (a :: l) ++ r = textI a ++ (frames l ++ r) := by simp [frames]
    rw [e, pull_text a _ h1.1 h1.2, ih r (fun x hx => h x (List.mem_cons_of_mem _ hx))]
    rfl
theorem frames_take {l : List (List UInt8)} {i : Nat} {x : List UInt8} (h : l[i]? = some x) : frames (l.take (i + 1)) = frames (l.take i) ++ textI x := by
  unfold frames
  rw [List.take_add_one, h]
  simp
theorem frames_len {l : List (List UInt8)} {c : Nat} (h : ∀ x ∈ l, x.length ≤ c) : (frames l).length ≤ (c + 2) * l.length := by
  unfold frames
  induction l with
  | nil => simp
  | cons a l ih =>
    have h1 := h a (List.mem_cons_self ..)
    have h2 := ih (fun x hx => h x (List.mem_cons_of_mem _ hx))
    simp only [List.map_cons, List.flatten_cons, List.length_append, textI_len, List.length_cons]
    rw [Nat.mul_add]
    omega
/-! ### Slices of bytes as elements -/
inductive PB : List (List V) → List (List UInt8) → Prop
  | nil : PB [] []
  | cons {v x es ls} : IsB v x → PB es ls → PB ([.sl 5 v] :: es) (x :: ls)
theorem PB.app {a b : List (List V)} {la lb : List (List UInt8)} (h : PB a la) (h2 : PB b lb) : PB (a ++ b) (la ++ lb) := by
  induction h with
  | nil => exact h2
  | cons x _ ih => exact .cons x ih
theorem PB.len {a : List (List V)} {la : List (List UInt8)} (h : PB a la) : a.length = la.length := by
  induction h with
  | nil => rfl
  | cons _ _ ih => simp [ih]
theorem PB.get {a : List (List V)} {la : List (List UInt8)} (h : PB a la) {i : Nat} {x : List UInt8} (hx : la[i]? = some x) : ∃ v, a[i]? = some [.sl 5 v] ∧ IsB v x := by
  induction h generalizing i with
  | nil => simp at hx
  | cons hv _ ih =>
    cases i with
    | zero => simp at hx; subst hx; exact ⟨_, rfl, hv⟩
    | succ i => simpa using ih (by simpa using hx)
theorem rdB {s : VS} {es : List (List V)} {ls : List (List UInt8)} (h : IsE s es) (hp : PB es ls) {i : Nat} {x : List UInt8} (hx : ls[i]? = some x) : ∃ v, IsB v x ∧ ∀ (H : VH) {β : Type} (f : VS → Option β), ((ixV 1 s (i : Int)).bind fun p => (ldV (.flat (.slice 5)) H p).bind f) = f v := by
  obtain ⟨v, h1, h2⟩ := hp.get hx
  refine ⟨v, h2, fun H β f => ?_⟩
  rw [h.ix h1 1, Option.bind_some]
  show (V.fdec (.slice 5) (.sl 5 v)).bind f = _
  rw [fd_sl]
  rfl
/-! ### The stream -/
abbrev ST : TypeId := 91 + boxK
theorem e50 (n : Nat) {H : VH} {s : VS} {l : List UInt8} (h : IsB s l) (hl : l.length < 1000000) :
    ∃ s' H', vF P tab (n + 1) 50 [.sl 5 s] H = some (.sl 5 s', H') ∧ Ap H' 5 s' (bs l) ∧ Kp H H' [] ∧ ∀ t ∈ toks s', H.length ≤ t := by
  rw [vF_body rfl, f50_eq]
  cases hn : s.isNil with
  | true =>
    obtain ⟨rfl, h0⟩ := h.isNil hn
    have : l = [] := by cases l with | nil => rfl | cons => cases h0
    subst this
    exact ⟨.nil, H, rfl, .nil, Kp.refl _ _, fun t ht => by cases ht⟩
  | false =>
    rw [cond_false]
    obtain ⟨s', H', g1, g2, g3, g4, _⟩ := (Ap.lit (H := H) (e := 5) []).app (sz := 1) (by_ := 1) h (by rw [bs_len]; simp only [bound, List.length_nil]; omega) (by rw [bs_len]; simp only [bound, List.length_nil]; omega)
    rw [List.length_nil] at g1
    rw [g1, Option.bind_some]
    exact ⟨s', H', rfl, g2, g3, fun t ht => (g4 t ht).elim (fun h => by cases h) id⟩
theorem e62 (n : Nat) {H : VH} {s : VS} {l : List UInt8} (h : IsB s l) (hl : l.length < 1000000) :
    ∃ k H', vF P tab (n + 2) 62 [.sl 5 s] H = some (.ptr (.ob k 0), H') ∧ RS RT H' k l false ∧ H.length ≤ k ∧ Kp H H' [] := by
  obtain ⟨s', H1, g1, g2, g3, g4⟩ := e50 n (H := H) h hl
  rw [vF_body rfl, f62_eq, callD_sl g1, Option.bind_some]
  exact ⟨H1.length, _, rfl, ⟨s', by simp, g2.isE⟩, g3.len, g3.trans (Kp.app _ _) (fun x hx _ => hx) (fun y hy _ => hy)⟩
theorem e56 (n : Nat) {H : VH} {k : Nat} {T : List Nat} {l : List UInt8} (hw : WS H k T l) (hl : l.length < 1000000) :
    ∃ s' H', vF P tab (n + 2) 56 [.ptr (.ob k 0)] H = some (.sl 5 s', H') ∧ IsB s' l ∧ Kp H H' [] := by
  obtain ⟨s, h1, h2, rfl⟩ := hw
  obtain ⟨s', H', g1, g2, g3, g4⟩ := e50 n (H := H) h2.isE hl
  rw [vF_body rfl, f56_eq]
  simp only [VP.isNil, cond_false, nn, atO, Option.bind_some, Nat.zero_add]
  rw [ld_row h1]
  simp only [List.getElem?_cons_zero, Option.bind_some, fd_sl]
  rw [callD_sl g1, Option.bind_some]
  exact ⟨s', H', rfl, g2.isE, g3⟩
theorem b12 (n : Nat) {H : VH} {s : VS} {p : List UInt8} (h : ∀ H', Kp H H' [] → strV H' 5 s = some ⟨p.toArray⟩) (hl : p.length < 900000) :
    ∃ s' H', bodyV P tab (vF P tab (n + 3)) (n + 3) 48 [.sl 5 s] H = some (.sl 5 s', H') ∧ IsB s' (textI p) ∧ Kp H H' [] := by
  rw [f48_eq, h _ (Kp.app _ _), Option.bind_some]
  obtain ⟨H1, T1, g1, g2, g3, g4⟩ := e55 n (WS.new H) p (by simp only [List.length_nil]; omega)
  rw [callD_ptr g1, Option.bind_some]
  obtain ⟨s', H2, q1, q2, q3⟩ := e56 (n + 1) g2 (by rw [List.nil_append, textI_len]; omega)
  simp only
  rw [callD_sl q1, Option.bind_some]
  refine ⟨s', H2, rfl, q2, ((Kp.app H _).trans g3 (fun x hx _ => hx) (fun y hy hl => ?_)).trans q3 (fun x hx _ => hx) (fun y hy _ => hy)⟩
  rw [List.mem_singleton] at hy
  omega
theorem e48 (n : Nat) {H : VH} {s : VS} {p : List UInt8} (h : IsB s p) (hl : p.length < 900000) : ∃ s', vF P tab (n + 4) 48 [.sl 5 s] H = some (.sl 5 s', H) ∧ IsB s' (textI p) := by
  obtain ⟨s', H', g1, g2, _⟩ := b12 n (H := []) (s := s.strip) (fun H' _ => IsB.str h.strip H' 5) hl
  exact ⟨s'.strip, lone_E (H := H) rfl (by simp [closed_sl 5 h]) g1 g2⟩
theorem e32 (n : Nat) (H : VH) : vF P tab (n + 1) 32 [] H = some (.ptr (.ob H.length 0), H ++ [.row ST [.sl 5 .nil, .bool false]]) := by
  rw [vF_body rfl, f32_eq]
theorem new_st (H : VH) : RS ST (H ++ [.row ST [.sl 5 .nil, .bool false]]) H.length [] false := ⟨.nil, by simp, .nil⟩
theorem e35 (n : Nat) {H : VH} {k : Nat} {l : List UInt8} {f : Bool} (h : RS ST H k l f) : vF P tab (n + 1) 35 [.ptr (.ob k 0)] H = some (.bool f, H) := by
  obtain ⟨s, h1, h2⟩ := h
  rw [vF_body rfl, f35_eq]
  simp only [VP.isNil, Bool.not_false, cond_true, nn, atO, Option.bind_some]
  rw [ld_row h1]
  rfl
theorem takeS_two {l : List UInt8} (h : 2 ≤ l.length) : numA 0 (takeS 2 (l.take 2) false).1 = hd l := by
  match l, h with
  | a :: b :: r, _ =>
    show (0 * 256 % 18446744073709551616 + a.toNat) * 256 % 18446744073709551616 + b.toNat = a.toNat * 256 + b.toNat
    have := a.toNat_lt
    omega
theorem hd_lt (l : List UInt8) : hd l < 65536 := by
  unfold hd
  have := (l.getD 0 0).toNat_lt
  have := (l.getD 1 0).toNat_lt
  omega
/-- The next payload. -/
def nextS (l : List UInt8) : List UInt8 × Bool × List UInt8 × Bool :=
  if l.length < 2 then ([], false, l, false) else if hd l < 1 ∨ 2048 < hd l then ([], false, [], true)
  else if l.length < 2 + hd l then ([], false, l, false) else ((l.drop 2).take (hd l), true, l.drop (2 + hd l), false)
theorem e51 (n : Nat) (hn : 300 ≤ n) {H : VH} {k : Nat} {l : List UInt8} (h : RS ST H k l false) (hl : l.length < 900000) :
    ∃ s' H', vF P tab (n + 5) 51 [.ptr (.ob k 0)] H = some (.tup [.sl 5 s', .bool (nextS l).2.1], H') ∧ IsB s' (nextS l).1 ∧ RS ST H' k (nextS l).2.2.1 (nextS l).2.2.2 ∧ Kp H H' [k] := by
  obtain ⟨s, h1, h2⟩ := h
  have hk := lt_of_ob h1
  rw [vF_body rfl, f51_eq]
  simp only [nn, atO, Option.bind_some, Nat.zero_add]
  rw [ld_row h1]
  simp only [List.getElem?_cons_zero, Option.bind_some, fd_sl]
  rw [h2.len, bs_len]
  unfold nextS
  by_cases c1 : l.length < 2
  · rw [decide_eq_true (by omega), cond_true, if_pos c1]
    exact ⟨.nil, H, rfl, .nil, ⟨s, h1, h2⟩, Kp.refl _ _⟩
  rw [decide_eq_false (by omega), cond_false, if_neg c1]
  obtain ⟨s1, g1, g2, _⟩ := h2.cut (lo := 0) (hi := 2) (by omega) (by rw [bs_len]; omega) (lo' := none) (hi' := some ((2 : Nat) : Int)) (mx' := none) (.inr ⟨rfl, rfl⟩) (.inl rfl) (.inl rfl) H 5 1
  rw [show ((2 : Nat) : Int) = 2 from rfl] at g1
  rw [g1, Option.bind_some]
  rw [List.drop_zero, bs_take] at g2
  obtain ⟨kr, H1, q1, q2, q3, q4⟩ := e62 (n + 2) (H := H) g2 (by rw [List.length_take]; omega)
  rw [callD_ptr q1, Option.bind_some]
  obtain ⟨H2, q5, q6, q7, q8⟩ := e63 n q2 hn
  simp only
  rw [callD_int q5, Option.bind_some, takeS_two (by omega)]
  simp only
  have k2 : Kp H H2 [] := q4.trans q7 (fun x hx _ => hx) (fun y hy hl => by rw [List.mem_singleton] at hy; omega)
  have h3 := k2.ob h1 (by simp)
  have hd2 := hd_lt l
  by_cases c2 : hd l = 0
  · rw [show (((hd l : Nat) : Int) == 0) = true by rw [c2]; rfl, cond_true, if_pos (by omega)]
    rw [st_row h3 (by simp) rfl, Option.bind_some, st_row (by rw [List.getElem?_set_self (lt_of_ob h3)]) (by simp [putAllV]) rfl, Option.bind_some]
    refine ⟨.nil, _, rfl, .nil, ⟨.nil, by rw [List.getElem?_set_self (by simpa using lt_of_ob h3)]; rfl, .nil⟩, ?_⟩
    exact k2.trans ((Kp.set H2 k _).trans (Kp.set _ k _) (fun x hx _ => hx) (fun y hy _ => hy)) (fun x hx _ => by cases hx) (fun y hy _ => hy)
  rw [show (((hd l : Nat) : Int) == 0) = false by rw [beq_eq_false_iff_ne]; omega, cond_false]
  by_cases c3 : 2048 < hd l
  · have hh : decide (((hd l : Nat) : Int) > 2048) = true := decide_eq_true (by omega)
    rw [hh, cond_true, if_pos (by omega)]
    rw [st_row h3 (by simp) rfl, Option.bind_some, st_row (by rw [List.getElem?_set_self (lt_of_ob h3)]) (by simp [putAllV]) rfl, Option.bind_some]
    refine ⟨.nil, _, rfl, .nil, ⟨.nil, by rw [List.getElem?_set_self (by simpa using lt_of_ob h3)]; rfl, .nil⟩, ?_⟩
    exact k2.trans ((Kp.set H2 k _).trans (Kp.set _ k _) (fun x hx _ => hx) (fun y hy _ => hy)) (fun x hx _ => by cases hx) (fun y hy _ => hy)
  have hh : decide (((hd l : Nat) : Int) > 2048) = false := decide_eq_false (by omega)
  rw [hh, cond_false, if_neg (by omega)]
  rw [ld_row h3]
  simp only [List.getElem?_cons_zero, Option.bind_some, fd_sl]
  rw [h2.len, bs_len, show (2 + ((hd l : Nat) : Int)) = ((2 + hd l : Nat) : Int) by omega, i64_nat (by omega)]
  by_cases c4 : l.length < 2 + hd l
  · rw [decide_eq_true (by omega), cond_true, if_pos c4]
    exact ⟨.nil, H2, rfl, .nil, ⟨s, h3, h2⟩, k2.weak (fun x hx => by cases hx)⟩
  rw [decide_eq_false (by omega), cond_false, if_neg c4]
  obtain ⟨s2, r1, r2, _⟩ := h2.cut (lo := 2) (hi := 2 + hd l) (by omega) (by rw [bs_len]; omega) (lo' := some ((2 : Nat) : Int)) (hi' := some ((2 + hd l : Nat) : Int)) (mx' := none) (.inl rfl) (.inl rfl) (.inl rfl) H2 5 1
  rw [show ((2 : Nat) : Int) = 2 from rfl] at r1
  rw [r1, Option.bind_some]
  rw [bs_take, bs_drop] at r2
  obtain ⟨s3, H3, t1, t2, t3, t4⟩ := e50 (n + 3) (H := H2) r2 (by rw [List.length_drop, List.length_take]; omega)
  rw [callD_sl t1, Option.bind_some]
  have h4 := t3.ob h3 (by simp)
  simp only
  rw [ld_row h4]
  simp only [List.getElem?_cons_zero, Option.bind_some, fd_sl]
  obtain ⟨s4, u1, u2, _⟩ := h2.cut (lo := 2 + hd l) (hi := l.length) (by omega) (by rw [bs_len]; omega) (lo' := some ((2 + hd l : Nat) : Int)) (hi' := none) (mx' := none) (.inl rfl) (.inr ⟨rfl, by rw [bs_len]⟩) (.inl rfl) H3 5 1
  rw [u1, Option.bind_some, st_row h4 (by simp) rfl, Option.bind_some]
  rw [List.take_of_length_le (by rw [bs_len]; exact Nat.le_refl _), bs_drop] at u2
  refine ⟨s3, _, rfl, ?_, ⟨s4, by rw [List.getElem?_set_self (lt_of_ob h4)]; rfl, u2⟩, ?_⟩
  · have e : (l.take (2 + hd l)).drop 2 = (l.drop 2).take (hd l) := by rw [List.drop_take]; congr 1; omega
    rw [← e]
    exact t2.isE
  · exact (k2.trans t3 (fun x hx _ => hx) (fun y hy _ => hy)).trans (Kp.set _ _ _) (fun x hx _ => by cases hx) (fun y hy _ => hy)
theorem closed1_B {v : VS} {l : List UInt8} (h : IsB v l) : List.all [V.sl 5 v] closed1 = true := by
  simp [h.closed 5]
theorem l33 (n : Nat) (hn : 300 ≤ n) {k : Nat} : ∀ (m : Nat) {H : VH} {l : List UInt8} {s5 : VS} {es : List (List V)} {out : List (List UInt8)}, RS ST H k l false → l.length < m → l.length + out.length < 900000 → Ap H 22 s5 es → PB es out → (∀ t ∈ toks s5, t ≠ k) →
    ∃ s' es' H', L33_0 (n + 5) m (.ob k 0) s5 H = some (.sl 22 s', H') ∧ IsE s' es' ∧ PB es' (out ++ (pull l).1) ∧ RS ST H' k (pull l).2.1 (pull l).2.2 ∧ Kp H H' (k :: toks s5) := by
  intro m
  induction m with
  | zero => intros; omega
  | succ m ih =>
    intro H l s5 es out h hm hl ha hp ht
    rw [L33_0_eq]
    obtain ⟨s', H1, g1, g2, g3, g4⟩ := e51 n hn h (by omega)
    simp only [VP.isNil, Bool.not_false, cond_true]
    rw [callD_some (τ := .tup [(.flat (.slice 5)), (.flat .bool)]) (x := (s', (nextS l).2.1, ())) _ g1 rfl, Option.bind_some]
    simp only
    rw [pull_eq]
    unfold nextS at g2 g3 ⊢
    have stop : ∀ {l' : List UInt8} {b : Bool}, RS ST H1 k l' b → ∃ s' es' H', some (V.sl 22 s5, H1) = some (V.sl 22 s', H') ∧ IsE s' es' ∧ PB es' (out ++ []) ∧ RS ST H' k l' b ∧ Kp H H' (k :: toks s5) := by
      intro l' b h
      exact ⟨s5, es, H1, rfl, ha.isE, by rw [List.append_nil]; exact hp, h, g4.weak (fun x hx _ => by rw [List.mem_singleton.1 hx]; exact List.mem_cons_self ..)⟩
    by_cases c1 : l.length < 2
    · rw [if_pos c1] at g2 g3 ⊢
      rw [if_pos c1]
      exact stop g3
    rw [if_neg c1] at g2 g3 ⊢
    rw [if_neg c1]
    by_cases c2 : hd l < 1 ∨ 2048 < hd l
    · rw [if_pos c2] at g2 g3 ⊢
      rw [if_pos c2]
      exact stop g3
    rw [if_neg c2] at g2 g3 ⊢
    rw [if_neg c2]
    by_cases c3 : l.length < 2 + hd l
    · rw [if_pos c3] at g2 g3 ⊢
      rw [if_pos c3]
      exact stop g3
    rw [if_neg c3] at g2 g3 ⊢
    rw [if_neg c3]
    simp only [Bool.not_true, cond_false]
    rw [if_pos (closed1_B g2)]
    have ha1 := ha.keep g4 (fun t h1 h2 => ht t h1 (List.mem_singleton.1 h2))
    have hpl := hp.len
    obtain ⟨s6, H2, q1, q2, q3, q4, _⟩ := ha1.app (x := .fz [[.sl 5 s'.strip]] (.ex 1)) (sz := 1) (by_ := 24) (.fz _ _) (by simp only [bound, List.length_singleton]; omega) (by simp only [bound, List.length_singleton]; omega)
    rw [q1, Option.bind_some]
    have kt : k ∉ toks s5 := fun h1 => ht k h1 rfl
    have g5 := g3.keep q3 kt
    have hp2 : PB (es ++ [[.sl 5 s'.strip]]) (out ++ [(l.drop 2).take (hd l)]) := hp.app (.cons g2.strip .nil)
    have hk : k < H1.length := by obtain ⟨s, h1, _⟩ := g3; exact lt_of_ob h1
    obtain ⟨s7, es7, H7, r1, r2, r3, r4, r5⟩ := ih g5 (by rw [List.length_drop]; omega) (by simp only [List.length_drop, List.length_append, List.length_singleton]; omega) q2 hp2 (fun t h1 h2 => by
      rcases q4 t h1 with h3 | h3
      · exact ht t h3 h2
      · omega)
    refine ⟨s7, es7, H7, r1, r2, by simpa using r3, r4, (g4.trans q3 (Z := k :: toks s5) (fun x hx _ => by rw [List.mem_singleton.1 hx]; exact List.mem_cons_self ..) (fun y hy _ => List.mem_cons_of_mem _ hy)).trans r5 (fun x hx _ => hx) (fun y hy hl => ?_)⟩
    rcases List.mem_cons.1 hy with rfl | hy
    · exact List.mem_cons_self ..
    · rcases q4 y hy with h3 | h3
      · exact List.mem_cons_of_mem _ h3
      · have := g4.len; omega
/-- What a stream tells of bytes that come. -/
def feedS (l q : List UInt8) (b : Bool) : List (List UInt8) × List UInt8 × Bool := if b = true then ([], l, true) else pull (l ++ q)
theorem e33 (n : Nat) (hn : 300 ≤ n) {H : VH} {k : Nat} {l q : List UInt8} {b : Bool} {s : VS} (h : RS ST H k l b) (hs : IsB s q) (hl : l.length + q.length < 800000) (hln : l.length + q.length ≤ n) :
    ∃ s' es' H', vF P tab (n + 6) 33 [.ptr (.ob k 0), .sl 5 s] H = some (.sl 22 s', H') ∧ IsE s' es' ∧ PB es' (feedS l q b).1 ∧ RS ST H' k (feedS l q b).2.1 (feedS l q b).2.2 ∧ Kp H H' [k] := by
  rw [vF_body rfl, f33_eq, callD_bool (e35 (n + 4) h), Option.bind_some]
  unfold feedS
  cases b with
  | true =>
    simp only [cond_true, if_true]
    exact ⟨.nil, [], H, rfl, .nil, .nil, h, Kp.refl _ _⟩
  | false =>
    simp only [cond_false, VP.isNil, Bool.not_false, cond_true, nn, atO, Option.bind_some, Nat.zero_add, Bool.false_eq_true, if_false]
    obtain ⟨s1, h1, h2⟩ := h
    have hk := lt_of_ob h1
    rw [ld_row h1]
    simp only [List.getElem?_cons_zero, Option.bind_some, fd_sl]
    obtain ⟨s2, H1, g1, g2, g3, g4⟩ := e50 (n + 4) (H := H) h2 (by omega)
    rw [callD_sl g1, Option.bind_some]
    obtain ⟨s3, H2, q1, q2, q3, q4, _⟩ := g2.app (sz := 1) (by_ := 1) hs (by rw [bs_len, bs_len]; simp only [bound]; omega) (by rw [bs_len, bs_len]; simp only [bound]; omega)
    simp only
    have h3 := g3.ob h1 (by simp)
    have kt : k ∉ toks s2 := fun h => by have := g4 k h; omega
    have h4 := q3.ob h3 kt
    rw [q1, Option.bind_some, st_row h4 (by simp) rfl, Option.bind_some]
    have k3 : Kp H2 (H2.set k (.row ST (putAllV [.sl 5 s1, .bool false] 0 [.sl 5 s3]))) [k] := Kp.set _ _ _
    have q2' := q2.isE
    rw [← bs_app] at q2'
    obtain ⟨s7, es7, H7, r1, r2, r3, r4, r5⟩ := l33 n hn (k := k) (n + 5) (l := l ++ q) (s5 := .nil) (out := []) ⟨s3, by rw [List.getElem?_set_self (lt_of_ob h4)], q2'⟩ (by rw [List.length_append]; omega) (by simp only [List.length_append, List.length_nil]; omega) .nil .nil (fun t h => by cases h)
    refine ⟨s7, es7, H7, r1, r2, by simpa using r3, r4, ?_⟩
    refine ((g3.trans q3 (Z := [k]) (fun x hx _ => by cases hx) (fun y hy hl => by have := g4 y hy; omega)).trans k3 (fun x hx _ => hx) (fun y hy _ => hy)).trans r5 (fun x hx _ => hx) (fun y hy _ => ?_)
    simpa [toks] using hy
/-! ### The document's frames -/
theorem e13 (n : Nat) {H : VH} {a b : VS} {la lb : List UInt8} (ha : IsB a la) (hb : IsB b lb) (hl : la.length + lb.length < 10000000) : ∃ s', vF P tab (n + 1) 13 [.sl 5 a, .sl 5 b] H = some (.sl 5 s', H) ∧ IsB s' (la ++ lb) := by
  obtain ⟨s1, H1, g1, g2, _⟩ := (Ap.nil (H := []) (e := 5)).app (sz := 1) (by_ := 1) ha.strip (by rw [bs_len]; simp only [bound, List.length_nil]; omega) (by rw [bs_len]; simp only [bound, List.length_nil]; omega)
  obtain ⟨s2, H2, g3, g4, _⟩ := g2.app (sz := 1) (by_ := 1) hb.strip (by rw [List.nil_append, bs_len, bs_len]; simp only [bound]; omega) (by rw [List.nil_append, bs_len, bs_len]; simp only [bound]; omega)
  have h : bodyV P tab (vF P tab n) n 13 ([.sl 5 a, .sl 5 b].map stripC) [] = some (.sl 5 s2, H2) := by
    show bodyV P tab (vF P tab n) n 13 [.sl 5 a.strip, .sl 5 b.strip] [] = _
    rw [f13_eq, g1, Option.bind_some, g3, Option.bind_some]
  refine ⟨s2.strip, lone_E (H := H) rfl (by simp [closed_sl 5 ha, closed_sl 5 hb]) h ?_⟩
  rw [bs_app]
  exact g4.isE
theorem e14 (n : Nat) {H : VH} {a : VS} {la : List UInt8} (ha : IsB a la) (hl : la.length < 1000000) : ∃ s', vF P tab (n + 2) 14 [.sl 5 a] H = some (.sl 5 s', H) ∧ IsB s' (textI la) := by
  obtain ⟨s', g1, g2⟩ := e13 n (H := []) (a := .fz [[.int .u8 (IntKind.wrap .u8 ((la.length / 256 : Nat) : Int))], [.int .u8 (IntKind.wrap .u8 ((la.length % 256 : Nat) : Int))]] (.ex 2)) (la := [u8 ((la.length / 256 : Nat) : Int), u8 ((la.length % 256 : Nat) : Int)]) (by rw [bc_wrap, bc_wrap]; exact .fz _ _) ha.strip (by simp only [List.length_cons, List.length_nil]; omega)
  have h : bodyV P tab (vF P tab (n + 1)) (n + 1) 14 ([.sl 5 a].map stripC) [] = some (.sl 5 s', []) := by
    show bodyV P tab (vF P tab (n + 1)) (n + 1) 14 [.sl 5 a.strip] [] = _
    rw [f14_eq, ha.strip.len, bs_len, show (256 : Int) = ((256 : Nat) : Int) from rfl, quoI_nat (by decide) (by rw [i64_nat (by omega)]), Option.bind_some, remI_nat (by decide), Option.bind_some, callD_sl g1, Option.bind_some]
  refine ⟨s'.strip, lone_E (H := H) rfl (by simp [closed_sl 5 ha]) h ?_⟩
  rw [u8_mod] at g2
  exact g2
/-- Of none, one byte. -/
def fill (q : List UInt8) : List UInt8 := if q.length = 0 then [7] else q
theorem head2 {s0 : VS} {l : List UInt8} (hs : IsB s0 l) (h2 : 2 ≤ l.length) : ∃ a b : UInt8, hd l = a.toNat * 256 + b.toNat ∧ (∀ (H : VH) {β : Type} (f : Int → Option β), ((ixV 1 s0 0).bind fun p => (ldV (.flat (.int .u8)) H p).bind f) = f (a.toNat : Int)) ∧ (∀ (H : VH) {β : Type} (f : Int → Option β), ((ixV 1 s0 1).bind fun p => (ldV (.flat (.int .u8)) H p).bind f) = f (b.toNat : Int)) := by
  match l, h2 with
  | a :: b :: r, _ =>
    refine ⟨a, b, rfl, fun H β f => ?_, fun H β f => ?_⟩
    · exact hs.rd (i := 0) rfl H f
    · exact hs.rd (i := 1) rfl H f
theorem l22 (n : Nat) : ∀ (m : Nat) {H : VH} {l : List UInt8} {s0 s5 : VS} {es : List (List V)} {out : List (List UInt8)}, IsB s0 l → l.length < m → l.length + out.length < 900000 → Ap H 22 s5 es → PB es out →
    ∃ s' es' H', L22_0 n m s0 s5 H = some (.tup [.sl 22 s', .int .i64 ((pull l).2.1.length : Int), .bool (pull l).2.2], H') ∧ IsE s' es' ∧ PB es' (out ++ (pull l).1) := by
  intro m
  induction m with
  | zero => intros; omega
  | succ m ih =>
    intro H l s0 s5 es out hs hm hl ha hp
    rw [L22_0_eq, hs.len, bs_len, pull_eq]
    by_cases c1 : l.length < 2
    · rw [if_pos c1, decide_eq_false (by omega), cond_false]
      exact ⟨s5, es, H, rfl, ha.isE, by rw [List.append_nil]; exact hp⟩
    rw [if_neg c1, decide_eq_true (by omega), cond_true]
    obtain ⟨a, b, hd1, r0, r1⟩ := head2 hs (by omega)
    rw [r0, r1]
    have ha2 := a.toNat_lt
    have hb2 := b.toNat_lt
    have en : IntKind.wrap .i64 (IntKind.wrap .i64 (256 * IntKind.wrap .i64 (a.toNat : Int)) + IntKind.wrap .i64 (b.toNat : Int)) = ((hd l : Nat) : Int) := by
      rw [i64_nat (n := a.toNat) (by omega), i64_nat (n := b.toNat) (by omega), i64_in (x := 256 * (a.toNat : Int)) (by omega), i64_in (by omega)]; omega
    rw [en]
    have hd2 := hd_lt l
    by_cases c2 : hd l < 1
    · rw [decide_eq_true (by omega), cond_true, if_pos (.inl c2)]
      exact ⟨s5, es, H, rfl, ha.isE, by rw [List.append_nil]; exact hp⟩
    rw [decide_eq_false (by omega), cond_false]
    by_cases c3 : 2048 < hd l
    · rw [decide_eq_true (by omega), cond_true, if_pos (.inr c3)]
      exact ⟨s5, es, H, rfl, ha.isE, by rw [List.append_nil]; exact hp⟩
    rw [decide_eq_false (by omega), cond_false, if_neg (by omega), i64_in (x := ((l.length : Nat) : Int) - 2) (by omega), show (2 + ((hd l : Nat) : Int)) = ((2 + hd l : Nat) : Int) by omega, i64_nat (by omega)]
    by_cases c4 : l.length < 2 + hd l
    · rw [decide_eq_true (by omega), cond_true, if_pos c4]
      exact ⟨s5, es, H, rfl, ha.isE, by rw [List.append_nil]; exact hp⟩
    rw [decide_eq_false (by omega), cond_false, if_neg c4]
    obtain ⟨s2, t1, t2, _⟩ := hs.cut (lo := 2) (hi := 2 + hd l) (by omega) (by rw [bs_len]; omega) (lo' := some ((2 : Nat) : Int)) (hi' := some ((2 + hd l : Nat) : Int)) (mx' := none) (.inl rfl) (.inl rfl) (.inl rfl) H 5 1
    rw [show ((2 : Nat) : Int) = 2 from rfl] at t1
    rw [t1, Option.bind_some]
    rw [bs_take, bs_drop] at t2
    have e : (l.take (2 + hd l)).drop 2 = (l.drop 2).take (hd l) := by rw [List.drop_take]; congr 1; omega
    rw [e] at t2
    rw [if_pos (closed1_B t2)]
    have hpl := hp.len
    obtain ⟨s6, H2, q1, q2, _⟩ := ha.app (x := .fz [[.sl 5 s2.strip]] (.ex 1)) (sz := 1) (by_ := 24) (.fz _ _) (by simp only [bound, List.length_singleton]; omega) (by simp only [bound, List.length_singleton]; omega)
    rw [q1, Option.bind_some]
    obtain ⟨s4, u1, u2, _⟩ := hs.cut (lo := 2 + hd l) (hi := l.length) (by omega) (by rw [bs_len]; omega) (lo' := some ((2 + hd l : Nat) : Int)) (hi' := none) (mx' := none) (.inl rfl) (.inr ⟨rfl, by rw [bs_len]⟩) (.inl rfl) H2 5 1
    rw [u1, Option.bind_some]
    rw [List.take_of_length_le (by rw [bs_len]; exact Nat.le_refl _), bs_drop] at u2
    obtain ⟨s7, es7, H7, v1, v2, v3⟩ := ih u2 (by rw [List.length_drop]; omega) (by simp only [List.length_drop, List.length_append, List.length_singleton]; omega) q2 (hp.app (.cons t2.strip .nil))
    exact ⟨s7, es7, H7, v1, v2, by simpa using v3⟩
theorem e22 (n : Nat) {H : VH} {a : VS} {l : List UInt8} (ha : IsB a l) (hl : l.length < 800000) (hn : l.length < n) :
    ∃ s' es', vF P tab (n + 1) 22 [.sl 5 a] H = some (.tup [.sl 22 s', .int .i64 ((pull l).2.1.length : Int), .bool (pull l).2.2], H) ∧ IsE s' es' ∧ PB es' (pull l).1 := by
  obtain ⟨s', es', H', g1, g2, g3⟩ := l22 n n (H := []) (s5 := .nil) (out := []) ha.strip hn (by simp only [List.length_nil]; omega) .nil .nil
  have h : bodyV P tab (vF P tab n) n 22 ([.sl 5 a].map stripC) [] = some (.tup [.sl 22 s', .int .i64 ((pull l).2.1.length : Int), .bool (pull l).2.2], H') := by
    show bodyV P tab (vF P tab n) n 22 [.sl 5 a.strip] [] = _
    rw [f22_eq]
    exact g1
  have := vF_lone (H := H) (f := 22) rfl (by simp [closed_sl 5 ha]) h (by
    show (closedC (.sl 22 s') && true) = true
    rw [closed_sl 22 g2]; rfl)
  exact ⟨s'.strip, es', this, g2.strip, by simpa using g3⟩
end Go.Proofs.Ytfneikjincmhpaa
