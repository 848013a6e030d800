import Derived.Test.YtaifjlpgggimaaaB13w
set_option linter.unusedVariables false
set_option linter.unusedSimpArgs false
namespace Go.Proofs.Ytaifjlpgggimaaa
open Go.Proofs.Ytaifjlpgggimaaa.Sh Go.Proofs.Ytaifjlpgggimaaa.Sh.V Go.RowKit
/-! ### Frames, plain -/
def hd (l : List UInt8) : Nat := (l.getD 0 0).toNat * 256 + (l.getD 1 0).toNat
def pullF : Nat → List UInt8 → List (List UInt8) × List UInt8 × Bool
  | 0, l => ([], l, false)
  | f + 1, l =>
    if l.length < 2 then ([], l, false)
    else if hd l < 1 ∨ 2048 < hd l then ([], [], true)
    else if l.length < 2 + hd l then ([], l, false)
    else (((l.drop 2).take (hd l)) :: (pullF f (l.drop (2 + hd l))).1, (pullF f (l.drop (2 + hd l))).2)
theorem pullF_le : ∀ (f g : Nat) (l : List UInt8), l.length ≤ f → l.length ≤ g → pullF f l = pullF g l := by
  intro f
  induction f with
  | zero =>
    intro g l h1 h2
    cases g with
    | zero => rfl
    | succ g => unfold pullF; rw [if_pos (by omega)]
  | succ f ih =>
    intro g l h1 h2
    cases g with
    | zero => unfold pullF; rw [if_pos (by omega)]
    | succ g =>
      unfold pullF
      by_cases c1 : l.length < 2
      · rw [if_pos c1, if_pos c1]
      rw [if_neg c1, if_neg c1]
      by_cases c2 : hd l < 1 ∨ 2048 < hd l
      · rw [if_pos c2, if_pos c2]
      rw [if_neg c2, if_neg c2]
      by_cases c3 : l.length < 2 + hd l
      · rw [if_pos c3, if_pos c3]
      rw [if_neg c3, if_neg c3, ih g (l.drop (2 + hd l)) (by rw [List.length_drop]; omega) (by rw [List.length_drop]; omega)]
/-- All whole payloads; what waits; is it broken? -/
def pull (l : List UInt8) : List (List UInt8) × List UInt8 × Bool := pullF l.length l
theorem pull_eq (l : List UInt8) : pull l =
    if l.length < 2 then ([], l, false)
    else if hd l < 1 ∨ 2048 < hd l then ([], [], true)
    else if l.length < 2 + hd l then ([], l, false)
    else (((l.drop 2).take (hd l)) :: (pull (l.drop (2 + hd l))).1, (pull (l.drop (2 + hd l))).2) := by
  unfold pull
  cases hl : l.length with
  | zero => unfold pullF; rw [if_pos (by omega)]
  | succ f =>
    conv => lhs; unfold pullF
    rw [hl]
    by_cases c1 : f + 1 < 2
    · rw [if_pos c1, if_pos c1]
    rw [if_neg c1, if_neg c1]
    by_cases c2 : hd l < 1 ∨ 2048 < hd l
    · rw [if_pos c2, if_pos c2]
    rw [if_neg c2, if_neg c2]
    by_cases c3 : f + 1 < 2 + hd l
    · rw [if_pos c3, if_pos c3]
    rw [if_neg c3, if_neg c3, pullF_le f (l.drop (2 + hd l)).length (l.drop (2 + hd l)) (by rw [List.length_drop]; omega) (Nat.le_refl _)]
theorem hd_app (a b : List UInt8) (h : 2 ≤ a.length) : hd (a ++ b) = hd a := by
  match a, h with
  | x :: y :: r, _ => rfl
theorem pull_app : ∀ (n : Nat) (a b : List UInt8), a.length ≤ n → pull (a ++ b) = if (pull a).2.2 = true then ((pull a).1, [], true) else ((pull a).1 ++ (pull ((pull a).2.1 ++ b)).1, (pull ((pull a).2.1 ++ b)).2) := by
  intro n
  induction n with
  | zero =>
    intro a b h
    have : a = [] := List.eq_nil_of_length_eq_zero (by omega)
    subst this
    rfl
  | succ n ih =>
    intro a b h
    rw [pull_eq a]
    by_cases c1 : a.length < 2
    · rw [if_pos c1]; simp
    rw [if_neg c1]
    have hh := hd_app a b (by omega)
    by_cases c2 : hd a < 1 ∨ 2048 < hd a
    · rw [if_pos c2, pull_eq (a ++ b), hh, if_neg (by rw [List.length_append]; omega), if_pos c2]; simp
    rw [if_neg c2]
    by_cases c3 : a.length < 2 + hd a
    · rw [if_pos c3]; simp
    rw [if_neg c3, pull_eq (a ++ b), hh, if_neg (by rw [List.length_append]; omega), if_neg c2, if_neg (by rw [List.length_append]; omega)]
    have e1 : (a ++ b).drop (2 + hd a) = a.drop (2 + hd a) ++ b := List.drop_append_of_le_length (by omega)
    have e2 : ((a ++ b).drop 2).take (hd a) = (a.drop 2).take (hd a) := by
      rw [List.drop_append_of_le_length (by omega), List.take_append_of_le_length (by rw [List.length_drop]; omega)]
    rw [e1, e2, ih (a.drop (2 + hd a)) b (by rw [List.length_drop]; omega)]
    simp only
    by_cases c4 : (pull (a.drop (2 + hd a))).2.2 = true
    · rw [if_pos c4, if_pos c4]
    · rw [if_neg c4, if_neg c4]; simp
theorem pull_broken : ∀ (n : Nat) (a : List UInt8), a.length ≤ n → (pull a).2.2 = true → (pull a).2.1 = [] := by
  intro n
  induction n with
  | zero => intro a h; have : a = [] := List.eq_nil_of_length_eq_zero (by omega); subst this; intro h; rfl
  | succ n ih =>
    intro a h
    rw [pull_eq a]
    split
    · intro h; cases h
    · split
      · intro _; rfl
      · split
        · intro h; cases h
        · exact ih _ (by rw [List.length_drop]; omega)
theorem pull_left : ∀ (n : Nat) (a : List UInt8), a.length ≤ n → (pull a).2.1.length ≤ a.length ∧ (pull a).1.length ≤ a.length := by
  intro n
  induction n with
  | zero => intro a h; have : a = [] := List.eq_nil_of_length_eq_zero (by omega); subst this; exact ⟨Nat.le_refl _, Nat.le_refl _⟩
  | succ n ih =>
    intro a h
    rw [pull_eq a]
    split
    · exact ⟨Nat.le_refl _, Nat.zero_le _⟩
    · split
      · exact ⟨Nat.zero_le _, Nat.zero_le _⟩
      · split
        · exact ⟨Nat.le_refl _, Nat.zero_le _⟩
        · obtain ⟨h1, h2⟩ := ih (a.drop (2 + hd a)) (by rw [List.length_drop]; omega)
          rw [List.length_drop] at h1 h2
          simp only [List.length_cons]
          exact ⟨by omega, by omega⟩
theorem pull_mem : ∀ (n : Nat) (a : List UInt8), a.length ≤ n → ∀ x ∈ (pull a).1, x.length ≤ a.length := by
  intro n
  induction n with
  | zero => intro a h; have : a = [] := List.eq_nil_of_length_eq_zero (by omega); subst this; intro x hx; cases hx
  | succ n ih =>
    intro a h
    rw [pull_eq a]
    split
    · intro x hx; cases hx
    · split
      · intro x hx; cases hx
      · split
        · intro x hx; cases hx
        · intro x hx
          rcases List.mem_cons.1 hx with rfl | hx
          · rw [List.length_take, List.length_drop]; omega
          · have := ih (a.drop (2 + hd a)) (by rw [List.length_drop]; omega) x hx
            rw [List.length_drop] at this; omega
theorem u8_mod (n : Nat) : u8 ((n % 256 : Nat) : Int) = u8 (n : Int) := by unfold u8; congr 1; omega
theorem hd_text (p r : List UInt8) (h : p.length < 65536) : hd (textI p ++ r) = p.length := by
  show (u8 ((p.length : Int) / 256)).toNat * 256 + (u8 (p.length : Int)).toNat = p.length
  rw [show ((p.length : Int) / 256) = ((p.length / 256 : Nat) : Int) from rfl, u8_nat, u8_nat]
  omega
theorem pull_text (p r : List UInt8) (h1 : 1 ≤ p.length) (h2 : p.length ≤ 2048) : pull (textI p ++ r) = (p :: (pull r).1, (pull r).2) := by
  rw [pull_eq, hd_text p r (by omega), List.length_append, textI_len, if_neg (by omega), if_neg (by omega), if_neg (by omega)]
  have e1 : (textI p ++ r).drop (2 + p.length) = r := by rw [← textI_len, List.drop_left]
  have e2 : ((textI p ++ r).drop 2).take p.length = p := by
    show (p ++ r).take p.length = p
    rw [List.take_left]
  rw [e1, e2]
def frames (l : List (List UInt8)) : List UInt8 := (l.map textI).flatten
theorem pull_frames : ∀ (l : List (List UInt8)) (r : List UInt8), (∀ x ∈ l, 1 ≤ x.length ∧ x.length ≤ 2048) → pull (frames l ++ r) = (l ++ (pull r).1, (pull r).2) := by
  intro l
  induction l with
  | nil => intro r _; rfl
  | cons a l ih =>
    intro r h
    have h1 := h a (List.mem_cons_self ..)
    have e : frames (a :: l) ++ r = textI a ++ (frames l ++ r) := by simp [frames]
    rw [e, pull_text a _ h1.1 h1.2, ih r (fun x hx => h x (List.mem_cons_of_mem _ hx))]
    rfl
theorem frames_take {l : List (List UInt8)} {i : Nat} {x : List UInt8} (h : l[i]? = some x) : frames (l.take (i + 1)) = frames (l.take i) ++ textI x := by
  unfold frames
  rw [List.take_add_one, h]
  simp
theorem frames_len {l : List (List UInt8)} {c : Nat} (h : ∀ x ∈ l, x.length ≤ c) : (frames l).length ≤ (c + 2) * l.length := by
  unfold frames
  induction l with
  | nil => simp
  | cons a l ih =>
    have h1 := h a (List.mem_cons_self ..)
    have h2 := ih (fun x hx => h x (List.mem_cons_of_mem _ hx))
    simp only [List.map_cons, List.flatten_cons, List.length_append, textI_len, List.length_cons]
    rw [Nat.mul_add]
    omega
/-! ### Slices of bytes as elements -/
inductive PB : List (List V) → List (List UInt8) → Prop
  | nil : PB [] []
  | cons {v x es ls} : IsB v x → PB es ls → PB ([.sl 5 v] :: es) (x :: ls)
theorem PB.app {a b : List (List V)} {la lb : List (List UInt8)} (h : PB a la) (h2 : PB b lb) : PB (a ++ b) (la ++ lb) := by
  induction h with
  | nil => exact h2
  | cons x _ ih => exact .cons x ih
theorem PB.len {a : List (List V)} {la : List (List UInt8)} (h : PB a la) : a.length = la.length := by
  induction h with
  | nil => rfl
  | cons _ _ ih => simp [ih]
theorem PB.get {a : List (List V)} {la : List (List UInt8)} (h : PB a la) {i : Nat} {x : List UInt8} (hx : la[i]? = some x) : ∃ v, a[i]? = some [.sl 5 v] ∧ IsB v x := by
  induction h generalizing i with
  | nil => simp at hx
  | cons hv _ ih =>
    cases i with
    | zero => simp at hx; subst hx; exact ⟨_, rfl, hv⟩
    | succ i => simpa using ih (by simpa using hx)
theorem rdB {s : VS} {es : List (List V)} {ls : List (List UInt8)} (h : IsE s es) (hp : PB es ls) {i : Nat} {x : List UInt8} (hx : ls[i]? = some x) : ∃ v, IsB v x ∧ ∀ (H : VH) {β : Type} (f : VS → Option β), ((ixV 1 s (i : Int)).bind fun p => (ldV (.flat (.slice 5)) H p).bind f) = f v := by
  obtain ⟨v, h1, h2⟩ := hp.get hx
  refine ⟨v, h2, fun H β f => ?_⟩
  rw [h.ix h1 1, Option.bind_some]
  show (V.fdec (.slice 5) (.sl 5 v)).bind f = _
  rw [fd_sl]
  rfl
end Go.Proofs.Ytaifjlpgggimaaa
