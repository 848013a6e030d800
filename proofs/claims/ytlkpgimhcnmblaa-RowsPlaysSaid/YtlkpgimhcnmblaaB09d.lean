import Derived.Test.YtlkpgimhcnmblaaB09c
set_option maxRecDepth 100000
set_option linter.unusedVariables false
set_option linter.unusedSimpArgs false
namespace Go.Proofs.Ytlkpgimhcnmblaa
open Go.Proofs.Ytlkpgimhcnmblaa.Sh Go.Proofs.Ytlkpgimhcnmblaa.Sh.V Go.RowKit
/-! ### Of no table -/
theorem n20 (n : Nat) (s : ByteArray) (a : Int) (H : VH) : vF P tab (n + 1) 20 [.ptr .nil, .str s, .int .i64 a] H = some (.tup [], H) := by
  rw [vF_body rfl, f20_eq]; rfl
theorem n23 (n : Nat) (H : VH) : vF P tab (n + 1) 23 [.ptr .nil] H = some (.int .i64 0, H) := by
  rw [vF_body rfl, f23_eq]; rfl
theorem n31 (n : Nat) (s : ByteArray) (H : VH) : vF P tab (n + 1) 31 [.ptr .nil, .str s] H = some (.tup [.int .i64 0, .bool false], H) := by
  rw [vF_body rfl, f31_eq]; rfl
theorem n30 (n : Nat) (H : VH) : vF P tab (n + 1) 30 [.ptr .nil] H = some (.tup [], H) := by
  rw [vF_body rfl, f30_eq]; rfl
theorem n26 (n : Nat) (H : VH) : vF P tab (n + 1) 26 [.ptr .nil] H = some (.int .i64 0, H) := by
  rw [vF_body rfl, f26_eq]; rfl
theorem n21 (n : Nat) (H : VH) : vF P tab (n + 1) 21 [.ptr .nil] H = some (.sl 9 .nil, H) := by
  rw [vF_body rfl, f21_eq]; rfl
theorem n24 (n : Nat) (s : ByteArray) (H : VH) : vF P tab (n + 2) 24 [.ptr .nil, .str s] H = some (.bool false, H) := by
  rw [vF_body rfl, f24_eq, callD_some (τ := .tup [(.flat (.int .i64)), (.flat .bool)]) (x := (0, false, ())) _ (n31 n s H) rfl]; rfl
theorem n25 (n : Nat) (a : Int) (H : VH) : vF P tab (n + 2) 25 [.ptr .nil, .int .i64 a] H = some (.tup [], H) := by
  rw [vF_body rfl, f25_eq, L25_0_eq, callD_int (n23 n H), Option.bind_some]
  have h : decide ((0 : Int) > (if 0 > a then 0 else a)) = false := decide_eq_false (by split <;> omega)
  simp only
  rw [h, cond_false]
theorem rowsNil (n : Nat) (s : ByteArray) (a : Int) (H : VH) : ∃ H', vF P tab (n + 50) 8 [.str s, .int .i64 a] H = some (.bool true, H') := by
  rw [vF_body rfl, f8_eq, callD_unit (n20 (n + 48) s a H), Option.bind_some]
  simp only
  rw [callD_unit (n25 (n + 47) a H), Option.bind_some]
  simp only
  rw [callD_unit (n30 (n + 48) H), Option.bind_some]
  simp only
  rw [callD_some (τ := .tup [(.flat (.int .i64)), (.flat .bool)]) (x := (0, false, ())) _ (n31 (n + 48) s H) rfl, Option.bind_some]
  simp only
  rw [callD_bool (e9 (n + 9) H), Option.bind_some]
  simp only [cond_true, Bool.not_false]
  rw [callD_bool (n24 (n + 47) s H), Option.bind_some]
  simp only [cond_true, Bool.not_false]
  rw [callD_sl (n21 (n + 48) H), Option.bind_some]
  simp only
  rw [callD_int (n26 (n + 48) H), Option.bind_some]
  simp only
  rw [callD_int (n23 (n + 48) H), Option.bind_some]
  exact ⟨H, rfl⟩
theorem rowsNil_law (us : List V) (h : HasAs P [9, 3] us) : ∃ n H', vF P tab n 8 us [] = some (.bool true, H') := by
  match us, h with
  | [u0, u1], ⟨h0, h1, _⟩ =>
    obtain ⟨l, rfl, _⟩ := hasA_str (by kernel_rfl) h0
    obtain ⟨x, rfl, hx⟩ := hasA_int (k := .i64) (by kernel_rfl) h1
    exact ⟨_, rowsNil 0 _ x []⟩
/-! ### RowsKeys -/
open I in
theorem k4 (n : Nat) {s0 : VS} {l : List Key} (hs : IsT s0 l) (hz : l.length ≤ 60) (hk : ∀ x ∈ l, x.length ≤ 9223372036854775807) : ∀ (m i : Nat) {H : VH} {k j : Nat} {T : List Nat} {mp : List (Key × Int)} {jr : List JE}, TB H k j T mp jr → (∀ y, y ∈ mp.map (·.1) ↔ y ∈ l.take i) → Nd mp → mp.length ≤ i → jr.length ≤ i → i ≤ l.length → l.length < i + m →
    ∃ H', L4_0 (n + 100) m s0 (.ob k 0) (i : Int) H = some (.bool true, H') := by
  intro m
  induction m with
  | zero => intros; omega
  | succ m ih =>
    intro i H k j T mp jr h hm hn hl hj hi hlt
    rw [L4_0_eq, isT_len hs]
    by_cases c : i < l.length
    · obtain ⟨x, hx⟩ := get_of c
      obtain ⟨h1, h2⟩ := List.getElem?_eq_some_iff.1 hx
      have hdt : decide ((i : Int) < (l.length : Int)) = true := decide_eq_true (by omega)
      rw [hdt, cond_true, isT_rd hs hx]
      obtain ⟨H1, T1, a1, a2, a3, a4⟩ := e20 (n + 97) h (i : Int) (hk x (List.mem_of_getElem? hx)) (by omega) (by omega)
      rw [callD_unit a1, Option.bind_some]
      simp only
      rw [inc_nat (by omega)]
      have := (len_put mp x (i : Int)).2
      refine ih (i + 1) a2 (fun y => ?_) (nodup_put hn _ _) (by omega) (by rw [List.length_append, List.length_singleton]; omega) (by omega) (by omega)
      rw [keys_put, List.take_succ_eq_append_getElem h1, h2, List.mem_append, List.mem_singleton, ← hm]
      split
      · rename_i hin
        constructor
        · exact .inl
        · rintro (h | rfl)
          · exact h
          · exact hin
      · rw [List.mem_append, List.mem_singleton]
    · have : i = l.length := by omega
      subst this
      have hdt : decide ((l.length : Int) < (l.length : Int)) = false := decide_eq_false (by omega)
      rw [hdt, cond_false]
      obtain ⟨s1, H1, b1, b2, b3⟩ := e21 (n + 98) h (by omega)
      rw [callD_sl b1, Option.bind_some]
      simp only
      obtain ⟨s2, c1, c2⟩ := e22 (n + 99) hs (by omega) (by omega) H1
      rw [callD_sl c1, Option.bind_some]
      simp only
      rw [List.take_length] at hm
      have e : sortK (mp.map (·.1)) = riseS l := sort_rise hn hm
      rw [e] at b2
      have hrl := riseS_len l
      rw [callD_bool (e18 (n + 99) b2 c2 (by omega) (by omega) H1), Option.bind_some]
      simp only [decide_true]
      exact ⟨_, rfl⟩
theorem rowsKeys (n : Nat) {s0 : VS} {l : List Key} (hs : IsT s0 l) (hk : ∀ x ∈ l, x.length ≤ 9223372036854775807) (H : VH) : ∃ H', vF P tab (n + 101) 4 [.sl 9 s0] H = some (.bool true, H') := by
  rw [vF_body rfl, f4_eq, callD_bool (e9 (n + 60) H), Option.bind_some]
  simp only [Bool.not_true, cond_false]
  rw [isT_len hs]
  by_cases c : 60 < l.length
  · have hdt : decide ((l.length : Int) > 60) = true := decide_eq_true (by omega)
    rw [hdt, cond_true, callD_bool (e9 (n + 60) H), Option.bind_some]
    exact ⟨H, rfl⟩
  · have hdt : decide ((l.length : Int) > 60) = false := decide_eq_false (by omega)
    rw [hdt, cond_false]
    obtain ⟨H1, T1, a1, a2, a3, a4⟩ := I.e19 (n + 99) H
    rw [callD_ptr a1, Option.bind_some]
    exact k4 n hs (by omega) hk (n + 100) 0 a2 (by simp) (by simp [I.Nd]) (Nat.le_refl _) (Nat.le_refl _) (Nat.zero_le _) (by omega)
theorem rowsKeys_law (us : List V) (h : HasAs P [30] us) : ∃ n H', vF P tab n 4 us [] = some (.bool true, H') := by
  match us, h with
  | [u0], ⟨h0, _⟩ =>
    obtain ⟨s, l, rfl, i1, i2, i3⟩ := hasA_texts (e := 9) (by kernel_rfl) (by kernel_rfl) h0
    exact ⟨_, rowsKeys 0 i1 (fun x hx => by have := i3 x hx; rw [maxLen_eq] at this; exact this) []⟩
/-! ### RowsDone -/
open I in
theorem e26 (n : Nat) {H : VH} {k i : Nat} {T : List Nat} {m : List (Key × Int)} {jr : List JE} (h : TB H k i T m jr) : vF P tab (n + 1) 26 [.ptr (.ob k 0)] H = some (.int .i64 (m.length : Int), H) := by
  rw [vF_body rfl, f26_eq]
  simp only [VP.isNil, cond_false, nn, atO, Option.bind_some, Nat.zero_add]
  rw [ld_map h, Option.bind_some]
  obtain ⟨_, _, h2, _⟩ := h
  rw [len_str (m := m) h2, Option.bind_some]
open I in
theorem e30 (n : Nat) {H : VH} {k i : Nat} {T : List Nat} {m : List (Key × Int)} {jr : List JE} (h : TB H k i T m jr) : ∃ H' T', vF P tab (n + 1) 30 [.ptr (.ob k 0)] H = some (.tup [], H') ∧ TB H' k i T' m [] ∧ Kp H H' T ∧ TN H T T' := by
  rw [vF_body rfl, f30_eq]
  simp only [VP.isNil, Bool.not_false, cond_true, nn, atO, Option.bind_some, Nat.zero_add]
  obtain ⟨js, h1, h2, h3, rfl⟩ := h
  have hki : k ≠ i := fun he => by subst he; rw [h1] at h2; cases h2
  rw [st_row h1 (by simp) rfl, Option.bind_some]
  refine ⟨_, [k, i], rfl, ⟨.nil, ?_, ?_, Hq.nil _ _ _, rfl⟩, (Kp.set H k _).weak (fun x hx _ => by rw [List.mem_singleton] at hx; subst hx; simp), fun t ht => .inl ?_⟩
  · rw [List.getElem?_set_self (lt_of_ob h1)]; rfl
  · rw [List.getElem?_set_ne hki]; exact h2
  · rcases List.mem_cons.1 ht with rfl | ht
    · simp
    · rw [List.mem_singleton] at ht; subst ht; simp
open I in
theorem d7 (n : Nat) {s0 : VS} {xs : List Ac} (hs : IsE s0 (acs xs)) (hok : ∀ x ∈ xs, x.ok) (hz : xs.length ≤ 40) (c : Int) : ∀ (m i : Nat) {H : VH} {k j : Nat} {T : List Nat} {mp : List (Key × Int)} {jr : List JE}, TB H k j T mp jr → mp.length ≤ i → jr.length ≤ i → i ≤ xs.length → xs.length < i + m →
    ∃ H', L7_0 (n + 210) m s0 c (.ob k 0) (i : Int) H = some (.bool true, H') := by
  intro m
  induction m with
  | zero => intros; omega
  | succ m ih =>
    intro i H k j T mp jr h hl hj hi hlt
    rw [L7_0_eq, hs.len, acs_len]
    by_cases c1 : i < xs.length
    · obtain ⟨a, ha⟩ := get_of c1
      have hdt : decide ((i : Int) < (xs.length : Int)) = true := decide_eq_true (by omega)
      have hao := hok a (List.mem_of_getElem? ha)
      rw [hdt, cond_true, ix_act hs ha, Option.bind_some, ld_act, Option.bind_some, Option.bind_some, at_v, Option.bind_some, ld_v, Option.bind_some]
      simp only
      rw [c12 (n + 208) hao true H, Option.bind_some]
      simp only [held_fzp, stays_hn, cond_true]
      obtain ⟨H1, T1, a1, a2, a3, a4⟩ := e20 (n + 207) h (key := keyS a true) a.v (keyS_len hao true) (by omega) (by omega)
      rw [callD_unit a1, Option.bind_some]
      simp only [stays_hn, cond_true]
      rw [inc_nat (by omega)]
      have := (len_put mp (keyS a true) a.v).2
      exact ih (i + 1) a2 (by omega) (by rw [List.length_append, List.length_singleton]; omega) (by omega) (by omega)
    · have : i = xs.length := by omega
      subst this
      have hdt : decide ((xs.length : Int) < (xs.length : Int)) = false := decide_eq_false (by omega)
      rw [hdt, cond_false]
      obtain ⟨s1, H1, b1, b2, b3⟩ := e21 (n + 208) h (by omega)
      rw [callD_sl b1, Option.bind_some]
      simp only
      obtain ⟨H2, T2, d1, d2, d3, d4⟩ := e30 (n + 209) (h.kn b3)
      rw [callD_unit d1, Option.bind_some]
      simp only
      rw [callD_int (e23 (n + 209) d2), Option.bind_some]
      simp only
      obtain ⟨c0, hc0⟩ : ∃ c0 : Nat, (if 0 > c then 0 else c) = (c0 : Int) := by
        refine ⟨(if 0 > c then 0 else c).toNat, ?_⟩
        split <;> omega
      obtain ⟨H3, T3, f1, f2, f3, f4⟩ := e25 (n + 208) hc0 d2 (by simp) (by simp; omega) (by simp)
      rw [callD_unit f1, Option.bind_some]
      simp only [List.length_nil, List.drop_nil, List.take_nil, List.reverse_nil, List.foldl_nil] at f2 ⊢
      rw [show (((0 : Nat) : Int) == 0) = true from rfl, cond_true]
      obtain ⟨s4, H4, g1, g2, g3⟩ := e21 (n + 208) f2 (by omega)
      rw [callD_sl g1, Option.bind_some]
      simp only
      have hkl := sortK_len (mp.map (·.1))
      rw [List.length_map] at hkl
      rw [callD_bool (e18 (n + 209) g2 b2 (by omega) (by omega) H4), Option.bind_some]
      simp only [decide_true, cond_true]
      rw [callD_int (e26 (n + 209) (f2.kn g3)), Option.bind_some]
      simp only
      rw [isT_len b2, hkl]
      simp
theorem rowsDone (n : Nat) {s0 : VS} {xs : List Ac} (hs : IsE s0 (acs xs)) (hok : ∀ x ∈ xs, x.ok) (c : Int) (H : VH) : ∃ H', vF P tab (n + 211) 7 [.sl 29 s0, .int .i64 c] H = some (.bool true, H') := by
  rw [vF_body rfl, f7_eq, callD_bool (e9 (n + 170) H), Option.bind_some]
  simp only [Bool.not_true, cond_false]
  rw [hs.len, acs_len]
  by_cases c1 : 40 < xs.length
  · have hdt : decide ((xs.length : Int) > 40) = true := decide_eq_true (by omega)
    rw [hdt, cond_true, callD_bool (e9 (n + 170) H), Option.bind_some]
    exact ⟨H, rfl⟩
  · have hdt : decide ((xs.length : Int) > 40) = false := decide_eq_false (by omega)
    rw [hdt, cond_false]
    obtain ⟨H1, T1, a1, a2, a3, a4⟩ := I.e19 (n + 209) H
    rw [callD_ptr a1, Option.bind_some]
    exact d7 n hs hok (by omega) c (n + 210) 0 a2 (Nat.le_refl _) (Nat.le_refl _) (Nat.zero_le _) (by omega)
theorem rowsDone_law (us : List V) (h : HasAs P [22, 3] us) : ∃ n H', vF P tab n 7 us [] = some (.bool true, H') := by
  match us, h with
  | [u0, u1], ⟨h0, h1, _⟩ =>
    obtain ⟨s, l, rfl, i1, i2, _⟩ := acts_of h0
    obtain ⟨x, rfl, _⟩ := hasA_int (k := .i64) (by kernel_rfl) h1
    exact ⟨_, rowsDone 0 i1 i2 x []⟩
end Go.Proofs.Ytlkpgimhcnmblaa
