import Derived.Test.YtgmgpandhaeniaaB14w
set_option maxRecDepth 100000
set_option linter.unusedVariables false
set_option linter.unusedSimpArgs false
namespace Go.Proofs.Ytgmgpandhaeniaa
open Go.Proofs.Ytgmgpandhaeniaa.Sh Go.Proofs.Ytgmgpandhaeniaa.Sh.V Go.RowKit Go.Proofs.Ytgmgpandhaeniaa.Sh.Lk
/-! ### The table -/
structure Ent where
  k : Key
  b : Nat
  F : List Nat
  x : Lk
def pv (b : Nat) : V := .ptr (.ob b 0)
def kb (p : Ent) : Key × Nat := (p.k, p.b)
def kx (p : Ent) : Key × Lk := (p.k, p.x)
def foot (l : List Ent) : List Nat := l.flatMap (·.F)
theorem foot_app (a b : List Ent) : foot (a ++ b) = foot a ++ foot b := by simp [foot]
theorem mem_foot {l : List Ent} {t : Nat} : t ∈ foot l ↔ ∃ p ∈ l, t ∈ p.F := by simp [foot]
def TO (H : VH) (k : Nat) (F : List Nat) (t : Tb) : Prop := ∃ (i j : Nat) (tl : List Ent), H[k]? = some (.row TTY [.map (some i), .map (some j)]) ∧ H[i]? = some (.map .str (ents sk pv (tl.map kb))) ∧ H[j]? = some (.map (.int .i64) (ents ik sk t.ws)) ∧
  t.m = tl.map kx ∧ (∀ p ∈ tl, LO H p.b p.F p.x) ∧ (foot tl).Nodup ∧ F = k :: i :: j :: foot tl
theorem hps_nd (s : VS) : (hps s).Nodup := by cases s <;> simp [hps]
theorem LO.nd {H : VH} {b : Nat} {F : List Nat} {x : Lk} (h : LO H b F x) : F.Nodup := by
  obtain ⟨s, q, h1, h2, h3, rfl⟩ := h
  rw [List.nodup_cons, List.nodup_append]
  refine ⟨fun hm => ?_, hps_nd _, hps_nd _, fun a ha c hc e => ?_⟩
  · rcases List.mem_append.1 hm with hm | hm
    · exact hr_ne h2 h1 (by decide) hm
    · exact hr_ne h3 h1 (by decide) hm
  · subst e
    exact hr_dis h2 h3 (by decide) a hc ha
/-! ### Lists of pairs -/
section
variable {A : Type}
theorem getM_mid {m1 m2 : List (Key × A)} {k : Key} {a : A} (h : k ∉ m1.map (·.1)) : getM (m1 ++ (k, a) :: m2) k = some a := by
  induction m1 with
  | nil => simp [getM]
  | cons p m ih =>
    obtain ⟨k0, a0⟩ := p
    simp only [List.map_cons, List.mem_cons, not_or] at h
    rw [List.cons_append, getM_cons, if_neg h.1, ih h.2]
theorem putA_mid {m1 m2 : List (Key × A)} {k : Key} {a : A} (h : k ∉ m1.map (·.1)) (a' : A) : putA (m1 ++ (k, a) :: m2) k a' = m1 ++ (k, a') :: m2 := by
  induction m1 with
  | nil => simp [putA]
  | cons p m ih =>
    obtain ⟨k0, a0⟩ := p
    simp only [List.map_cons, List.mem_cons, not_or] at h
    rw [List.cons_append, putA, if_neg h.1, ih h.2, List.cons_append]
theorem cutA_mid {m1 m2 : List (Key × A)} {k : Key} {a : A} (h : k ∉ m1.map (·.1)) : cutA (m1 ++ (k, a) :: m2) k = m1 ++ m2 := by
  induction m1 with
  | nil => simp [cutA]
  | cons p m ih =>
    obtain ⟨k0, a0⟩ := p
    simp only [List.map_cons, List.mem_cons, not_or] at h
    rw [List.cons_append, cutA, if_neg h.1, ih h.2, List.cons_append]
theorem putA_none {m : List (Key × A)} {k : Key} (h : getM m k = none) (a : A) : putA m k a = m ++ [(k, a)] := by
  induction m with
  | nil => rfl
  | cons p m ih =>
    obtain ⟨k0, a0⟩ := p
    rw [getM_cons] at h
    by_cases h1 : k = k0
    · rw [if_pos h1] at h; cases h
    · rw [if_neg h1] at h
      rw [putA, if_neg h1, ih h, List.cons_append]
theorem putA_self {m : List (Key × A)} {k : Key} {a : A} (h : getM m k = some a) : putA m k a = m := by
  induction m with
  | nil => cases h
  | cons p m ih =>
    obtain ⟨k0, a0⟩ := p
    rw [getM_cons] at h
    by_cases h1 : k = k0
    · rw [if_pos h1] at h; injection h with h; subst h h1; rw [putA, if_pos rfl]
    · rw [if_neg h1] at h
      rw [putA, if_neg h1, ih h]
end
theorem ent_find (k : Key) : ∀ tl : List Ent, (getM (tl.map kx) k = none ∧ getM (tl.map kb) k = none ∧ k ∉ tl.map (·.k)) ∨ ∃ l1 p l2, tl = l1 ++ p :: l2 ∧ p.k = k ∧ k ∉ l1.map (·.k)
  | [] => .inl ⟨rfl, rfl, by simp⟩
  | p :: tl => by
    by_cases h : k = p.k
    · exact .inr ⟨[], p, tl, rfl, h.symm, by simp⟩
    · rcases ent_find k tl with ⟨a, b, c⟩ | ⟨l1, q, l2, a, b, c⟩
      · refine .inl ⟨?_, ?_, ?_⟩
        · rw [List.map_cons]; show getM ((p.k, p.x) :: _) k = _; rw [getM_cons, if_neg h]; exact a
        · rw [List.map_cons]; show getM ((p.k, p.b) :: _) k = _; rw [getM_cons, if_neg h]; exact b
        · simp [h]; intro x hx e; exact c (by rw [← e]; exact List.mem_map_of_mem hx)
      · refine .inr ⟨p :: l1, q, l2, by rw [a]; rfl, b, ?_⟩
        simp only [List.map_cons, List.mem_cons, not_or]
        exact ⟨h, c⟩
theorem keys_kx (l : List Ent) : (l.map kx).map (·.1) = l.map (·.k) := by simp [kx]
theorem keys_kb (l : List Ent) : (l.map kb).map (·.1) = l.map (·.k) := by simp [kb]
/-! ### One lock of a table, and the rest -/
def frF (k i j : Nat) (l1 l2 : List Ent) : List Nat := k :: i :: j :: foot (l1 ++ l2)
structure Foc (H : VH) (k : Nat) (key : Key) (b : Nat) (Fb : List Nat) (x : Lk) (i j : Nat) (l1 l2 : List Ent) (ws : List (Int × Key)) : Prop where
  hk : H[k]? = some (.row TTY [.map (some i), .map (some j)])
  hi : H[i]? = some (.map .str (ents sk pv (l1.map kb ++ (key, b) :: l2.map kb)))
  hj : H[j]? = some (.map (.int .i64) (ents ik sk ws))
  ho : ∀ p ∈ l1 ++ l2, LO H p.b p.F p.x
  nd : (foot (l1 ++ l2)).Nodup
  lo : LO H b Fb x
  ds : ∀ t ∈ Fb, t ∉ foot (l1 ++ l2)
  nk : key ∉ l1.map (·.k)
def mF (l1 : List Ent) (key : Key) (x : Lk) (l2 : List Ent) : List (Key × Lk) := l1.map kx ++ (key, x) :: l2.map kx
section
variable {H H' : VH} {k b i j : Nat} {key : Key} {Fb Fb' : List Nat} {x x' : Lk} {l1 l2 : List Ent} {ws : List (Int × Key)}
theorem Foc.ft (h : Foc H k key b Fb x i j l1 l2 ws) : ∀ t ∈ foot (l1 ++ l2), ∃ T cs, H[t]? = some (.row T cs) ∧ (T = LTY ∨ T = 3 ∨ T = WTY) := fun t ht => by
  obtain ⟨p, hp, ht⟩ := mem_foot.1 ht
  exact (h.ho p hp).ty t ht
theorem Foc.fr (h : Foc H k key b Fb x i j l1 l2 ws) : ∀ t ∈ Fb, t ∉ frF k i j l1 l2 := fun t ht hm => by
  obtain ⟨T, cs, h1, h2⟩ := h.lo.ty t ht
  unfold frF at hm
  rcases List.mem_cons.1 hm with rfl | hm
  · rw [h.hk] at h1; injection h1 with h1; injection h1 with h1; subst h1; revert h2; decide
  · rcases List.mem_cons.1 hm with rfl | hm
    · rw [h.hi] at h1; injection h1 with h1; cases h1
    · rcases List.mem_cons.1 hm with rfl | hm
      · rw [h.hj] at h1; injection h1 with h1; cases h1
      · exact h.ds t ht hm
theorem Foc.lt (h : Foc H k key b Fb x i j l1 l2 ws) : ∀ t ∈ frF k i j l1 l2, t < H.length := fun t hm => by
  unfold frF at hm
  rcases List.mem_cons.1 hm with rfl | hm
  · exact lt_of_ob h.hk
  · rcases List.mem_cons.1 hm with rfl | hm
    · exact lt_of_ob h.hi
    · rcases List.mem_cons.1 hm with rfl | hm
      · exact lt_of_ob h.hj
      · obtain ⟨T, cs, h1, _⟩ := h.ft t hm
        exact lt_of_ob h1
/-- The lock is another one. -/
theorem Foc.op (h : Foc H k key b Fb x i j l1 l2 ws) (kp : Kp H H' Fb) (lo : LO H' b Fb' x') (hn : ∀ t ∈ Fb', t ∈ Fb ∨ H.length ≤ t) : Foc H' k key b Fb' x' i j l1 l2 ws := by
  have hfr := h.fr
  have hlt := h.lt
  have hne : ∀ t ∈ frF k i j l1 l2, t ∉ Fb := fun t ht hm => hfr t hm ht
  refine ⟨kp.ob h.hk (hne k (by simp [frF])), kp.ob h.hi (hne i (by simp [frF])), kp.ob h.hj (hne j (by simp [frF])), fun p hp => (h.ho p hp).keep kp (fun t ht => hne t ?_), h.nd, lo, fun t ht hm => ?_, h.nk⟩
  · unfold frF
    exact List.mem_cons_of_mem _ (List.mem_cons_of_mem _ (List.mem_cons_of_mem _ (mem_foot.2 ⟨p, hp, ht⟩)))
  · have hm' : t ∈ frF k i j l1 l2 := by unfold frF; exact List.mem_cons_of_mem _ (List.mem_cons_of_mem _ (List.mem_cons_of_mem _ hm))
    rcases hn t ht with h1 | h1
    · exact hne t hm' h1
    · have := hlt t hm'; omega
theorem Foc.kn (h : Foc H k key b Fb x i j l1 l2 ws) (kp : Kp H H' []) : Foc H' k key b Fb x i j l1 l2 ws :=
  h.op (kp.weak fun x hx _ => by cases hx) (h.lo.kn kp) (fun t ht => .inl ht)
theorem foot_mid (l1 l2 : List Ent) (p : Ent) (t : Nat) : t ∈ foot (l1 ++ p :: l2) ↔ t ∈ foot (l1 ++ l2) ∨ t ∈ p.F := by
  simp only [mem_foot, List.mem_append, List.mem_cons]
  constructor
  · rintro ⟨q, h | rfl | h, ht⟩
    · exact .inl ⟨q, .inl h, ht⟩
    · exact .inr ht
    · exact .inl ⟨q, .inr h, ht⟩
  · rintro (⟨q, h | h, ht⟩ | ht)
    · exact ⟨q, .inl h, ht⟩
    · exact ⟨q, .inr (.inr h), ht⟩
    · exact ⟨p, .inr (.inl rfl), ht⟩
theorem foot_perm (l1 l2 : List Ent) (p : Ent) : (foot (l1 ++ p :: l2)).Perm (p.F ++ foot (l1 ++ l2)) := by
  simp only [foot, List.flatMap_append, List.flatMap_cons]
  rw [← List.append_assoc, ← List.append_assoc]
  exact (List.perm_append_comm).append_right _
theorem Foc.to (h : Foc H k key b Fb x i j l1 l2 ws) : ∃ F', TO H k F' ⟨mF l1 key x l2, ws⟩ ∧ ∀ t, t ∈ F' ↔ t ∈ frF k i j l1 l2 ∨ t ∈ Fb := by
  refine ⟨_, ⟨i, j, l1 ++ ⟨key, b, Fb, x⟩ :: l2, h.hk, ?_, h.hj, ?_, ?_, ?_, rfl⟩, fun t => ?_⟩
  · rw [List.map_append, List.map_cons]; exact h.hi
  · rw [List.map_append, List.map_cons]; rfl
  · intro p hp
    rcases List.mem_append.1 hp with hp | hp
    · exact h.ho p (List.mem_append_left _ hp)
    · rcases List.mem_cons.1 hp with rfl | hp
      · exact h.lo
      · exact h.ho p (List.mem_append_right _ hp)
  · rw [(foot_perm l1 l2 _).nodup_iff, List.nodup_append]
    exact ⟨h.lo.nd, h.nd, fun a ha c hc e => h.ds a ha (e ▸ hc)⟩
  · simp only [frF, List.mem_cons, foot_mid]
    constructor
    · rintro (h | h | h | h | h) <;> simp [h]
    · rintro ((h | h | h | h) | h) <;> simp [h]
/-- The lock goes. -/
theorem Foc.cut (h : Foc H k key b Fb x i j l1 l2 ws) : ∃ F', TO (H.set i (.map .str (ents sk pv (l1.map kb ++ l2.map kb)))) k F' ⟨l1.map kx ++ l2.map kx, ws⟩ ∧ ∀ t ∈ F', t ∈ frF k i j l1 l2 := by
  have hik : i ≠ k := fun e => by have := h.hi; rw [e, h.hk] at this; injection this with this; cases this
  have hij : i ≠ j := fun e => by have := h.hi; rw [e, h.hj] at this; injection this with this; injection this with this; cases this
  have kp := Kp.set H i (.map .str (ents sk pv (l1.map kb ++ l2.map kb)))
  refine ⟨_, ⟨i, j, l1 ++ l2, kp.ob h.hk (by simp; exact fun e => hik e.symm), by rw [set_at h.hi, List.map_append], kp.ob h.hj (by simp; exact fun e => hij e.symm), by rw [List.map_append], fun p hp => (h.ho p hp).keep kp (fun t ht => ?_), h.nd, rfl⟩, fun t ht => ht⟩
  simp
  rintro rfl
  obtain ⟨T, cs, h1, _⟩ := (h.ho p hp).ty t ht
  rw [h.hi] at h1; injection h1 with h1; cases h1
end
theorem TO.lt {H : VH} {k : Nat} {F : List Nat} {t : Tb} (h : TO H k F t) : ∀ a ∈ F, a < H.length := by
  obtain ⟨i, j, tl, h1, h2, h3, h4, h5, h6, rfl⟩ := h
  intro a ha
  rcases List.mem_cons.1 ha with rfl | ha
  · exact lt_of_ob h1
  · rcases List.mem_cons.1 ha with rfl | ha
    · exact lt_of_ob h2
    · rcases List.mem_cons.1 ha with rfl | ha
      · exact lt_of_ob h3
      · obtain ⟨p, hp, ht⟩ := mem_foot.1 ha
        exact (h5 p hp).lt a ht
theorem TO.keep {H H' : VH} {X : List Nat} {k : Nat} {F : List Nat} {t : Tb} (h : TO H k F t) (kp : Kp H H' X) (hx : ∀ a ∈ F, a ∉ X) : TO H' k F t := by
  obtain ⟨i, j, tl, h1, h2, h3, h4, h5, h6, rfl⟩ := h
  exact ⟨i, j, tl, kp.ob h1 (hx k (by simp)), kp.ob h2 (hx i (by simp)), kp.ob h3 (hx j (by simp)), h4, fun p hp => (h5 p hp).keep kp (fun t ht => hx t (List.mem_cons_of_mem _ (List.mem_cons_of_mem _ (List.mem_cons_of_mem _ (mem_foot.2 ⟨p, hp, ht⟩))))), h6, rfl⟩
theorem TO.kn {H H' : VH} {k : Nat} {F : List Nat} {t : Tb} (h : TO H k F t) (kp : Kp H H' []) : TO H' k F t := h.keep kp (fun a _ => by simp)
/-- What is found of a key. -/
theorem TO.find {H : VH} {k : Nat} {F : List Nat} {t : Tb} (h : TO H k F t) (key : Key) : ∃ i j : Nat, H[k]? = some (.row TTY [.map (some i), .map (some j)]) ∧ H[j]? = some (.map (.int .i64) (ents ik sk t.ws)) ∧
    ((getM t.m key = none ∧ ∃ tl : List Ent, H[i]? = some (.map .str (ents sk pv (tl.map kb))) ∧ getM (tl.map kb) key = none ∧ t.m = tl.map kx ∧ key ∉ tl.map (·.k) ∧ (∀ p ∈ tl, LO H p.b p.F p.x) ∧ (foot tl).Nodup ∧ F = k :: i :: j :: foot tl) ∨
     ∃ l1 l2 b Fb x, getM t.m key = some x ∧ Foc H k key b Fb x i j l1 l2 t.ws ∧ t.m = mF l1 key x l2 ∧ ∀ a, a ∈ F ↔ a ∈ frF k i j l1 l2 ∨ a ∈ Fb) := by
  obtain ⟨i, j, tl, h1, h2, h3, h4, h5, h6, rfl⟩ := h
  refine ⟨i, j, h1, h3, ?_⟩
  rcases ent_find key tl with ⟨a, b, c⟩ | ⟨l1, p, l2, rfl, hk, hn⟩
  · exact .inl ⟨by rw [h4]; exact a, tl, h2, b, h4, c, h5, h6, rfl⟩
  · obtain ⟨pk, pb, pF, px⟩ := p
    simp only at hk
    subst hk
    rw [(foot_perm l1 l2 _).nodup_iff, List.nodup_append] at h6
    have hm : t.m = mF l1 pk px l2 := by rw [h4, List.map_append, List.map_cons]; rfl
    refine .inr ⟨l1, l2, pb, pF, px, ?_, ⟨h1, by rw [h2, List.map_append, List.map_cons]; rfl, h3, fun p hp => h5 p ?_, h6.2.1, h5 ⟨pk, pb, pF, px⟩ (by simp), fun a ha hm => h6.2.2 a ha a hm rfl, hn⟩, hm, fun a => ?_⟩
    · rw [hm]; exact getM_mid (by rw [keys_kx]; exact hn)
    · rcases List.mem_append.1 hp with hp | hp
      · exact List.mem_append_left _ hp
      · exact List.mem_append_right _ (List.mem_cons_of_mem _ hp)
    · simp only [frF, List.mem_cons, foot_mid]
      constructor
      · rintro (h | h | h | h | h) <;> simp [h]
      · rintro ((h | h | h | h) | h) <;> simp [h]
end Go.Proofs.Ytgmgpandhaeniaa
