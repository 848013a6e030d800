import Derived.Test.YtlkpgimhcnmblaaB09d
set_option maxRecDepth 100000
set_option linter.unusedVariables false
set_option linter.unusedSimpArgs false
namespace Go.Proofs.Ytlkpgimhcnmblaa
open Go.Proofs.Ytlkpgimhcnmblaa.Sh Go.Proofs.Ytlkpgimhcnmblaa.Sh.V Go.RowKit
/-! ### RowsUndone -/
abbrev JK {A : Type} (jr : List (Key × A × Bool)) : Prop := ∀ x ∈ jr, x.1.length ≤ 9223372036854775807
theorem jk_app {A : Type} {jr : List (Key × A × Bool)} (h : JK jr) {x : Key × A × Bool} (hx : x.1.length ≤ 9223372036854775807) : JK (jr ++ [x]) := fun y hy => by
  rcases List.mem_append.1 hy with hy | hy
  · exact h y hy
  · rw [List.mem_singleton] at hy; subst hy; exact hx
def raws (l : List ByteArray) : List (List V) := l.map fun b => [.str b]
theorem raws_len (l : List ByteArray) : (raws l).length = l.length := by simp [raws]
theorem raws_app (a b : List ByteArray) : raws (a ++ b) = raws a ++ raws b := by simp [raws]
theorem raws_rd {s : VS} {l : List ByteArray} (h : IsE s (raws l)) {i : Nat} {x : ByteArray} (hx : l[i]? = some x) (H : VH) {β : Type} (f : ByteArray → Option β) : ((ixV 1 s (i : Int)).bind fun p => (ldV (.flat .str) H p).bind f) = f x := by
  rw [h.ix (y := [.str x]) (by simp [raws, hx]) 1, Option.bind_some]
  rfl
theorem mark_nat (a : Nat) : (if 0 > ((a : Nat) : Int) then 0 else ((a : Nat) : Int)) = (a : Int) := if_neg (by omega)
section
open S
theorem u33 (n : Nat) {s7 s8 : VS} {ks : List Key} {m0 : List (Key × ByteArray)} (h7 : IsT s7 ks) (h8 : IsE s8 (raws (ks.map fun y => (getM m0 y).getD zr))) (hz : ks.length < 1000000) (hin : ∀ y ∈ ks, getM m0 y ≠ none) {H : VH} {k j : Nat} {T : List Nat} {mp : List (Key × ByteArray)} {jr : List JE} (h : TB H k j T mp jr) (he : Eqv mp m0) :
    ∀ (m i : Nat), i ≤ ks.length → ks.length < i + m → L3_3 (n + 1) m (.ob k 0) s7 s8 (i : Int) H = some (.bool true, H) := by
  intro m
  induction m with
  | zero => intros; omega
  | succ m ih =>
    intro i hi hlt
    rw [L3_3_eq, isT_len h7]
    by_cases c : i < ks.length
    · obtain ⟨x, hx⟩ := get_of c
      have hdt : decide ((i : Int) < (ks.length : Int)) = true := decide_eq_true (by omega)
      rw [hdt, cond_true, isT_rd h7 hx, c14 n h x, Option.bind_some]
      simp only
      rw [he x]
      obtain ⟨v, hv⟩ : ∃ v, getM m0 x = some v := by
        cases hg : getM m0 x with
        | none => exact absurd hg (hin x (List.mem_of_getElem? hx))
        | some v => exact ⟨v, rfl⟩
      have hw : (ks.map fun y => (getM m0 y).getD zr)[i]? = some v := by rw [List.getElem?_map, hx, Option.map_some, hv]; rfl
      rw [hv]
      simp only [Option.isSome_some, Bool.not_true, cond_false, Option.getD_some]
      rw [raws_rd h8 hw, strEq_self]
      simp only [Bool.not_true, cond_false]
      rw [inc_nat (by omega)]
      exact ih (i + 1) (by omega) (by omega)
    · have hdt : decide ((i : Int) < (ks.length : Int)) = false := decide_eq_false (by omega)
      rw [hdt, cond_false]
theorem u32 (n : Nat) {s1 s7 s8 : VS} {ys : List Ac} {ks : List Key} {m0 : List (Key × ByteArray)} {jr0 : List JE} (hs : IsE s1 (acs ys)) (hok : ∀ x ∈ ys, x.ok) (hz : ys.length ≤ 40) (h7 : IsT s7 ks) (h8 : IsE s8 (raws (ks.map fun y => (getM m0 y).getD zr)))
    (hks : ks = sortK (m0.map (·.1))) (hn0 : Nd m0) (hl0 : m0.length ≤ 40) (hj0 : jr0.length ≤ 40) : ∀ (m i : Nat) {H : VH} {k j : Nat} {T : List Nat} {mp : List (Key × ByteArray)} {tl : List JE}, TB H k j T mp (jr0 ++ tl) → Jd m0 tl mp → JK (jr0 ++ tl) → mp.length ≤ 40 + i → tl.length ≤ i → i ≤ ys.length → ys.length < i + m →
    ∃ H', L3_2 (n + 210) m s1 (.ob k 0) s7 s8 (jr0.length : Int) (i : Int) H = some (.bool true, H') := by
  have hkl := sortK_len (m0.map (·.1))
  rw [List.length_map, ← hks] at hkl
  intro m
  induction m with
  | zero => intros; omega
  | succ m ih =>
    intro i H k j T mp tl h hjd hjk hl hj hi hlt
    rw [L3_2_eq, hs.len, acs_len]
    by_cases c1 : i < ys.length
    · obtain ⟨a, ha⟩ := get_of c1
      have hdt : decide ((i : Int) < (ys.length : Int)) = true := decide_eq_true (by omega)
      have hao := hok a (List.mem_of_getElem? ha)
      rw [hdt, cond_true, ix_act hs ha, Option.bind_some, at_0, Option.bind_some, ld_d, Option.bind_some, show (2 : Int) = ((2 : Nat) : Int) from rfl, remI_nat (by decide), Option.bind_some]
      by_cases c2 : a.d % 2 = 0
      · have hb : (((a.d % 2 : Nat) : Int) == 0) = true := by rw [c2]; rfl
        rw [hb, cond_true, Option.bind_some, ld_act, Option.bind_some, remI_nat (by decide), Option.bind_some, Option.bind_some, at_k, Option.bind_some, ld_k, Option.bind_some]
        simp only
        rw [c12 (n + 208) hao _ H, Option.bind_some]
        simp only [held_fzp, stays_hn, cond_true]
        obtain ⟨H1, T1, a1, a2, a3, a4⟩ := e11 (n + 207) h (key := keyS a ((((i % 2 : Nat) : Int) == 0))) (⟨a.k.toArray⟩ : ByteArray) (keyS_len hao _) (by omega) (by rw [List.length_append]; omega)
        rw [callD_unit a1, Option.bind_some]
        simp only [stays_hn, cond_true]
        rw [inc_nat (by omega)]
        have := (len_put mp (keyS a ((((i % 2 : Nat) : Int) == 0))) (⟨a.k.toArray⟩ : ByteArray)).2
        rw [List.append_assoc] at a2
        refine ih (i + 1) a2 (hjd.set _ _) ?_ (by omega) (by rw [List.length_append, List.length_singleton]; omega) (by omega) (by omega)
        rw [← List.append_assoc]
        exact jk_app hjk (keyS_len hao _)
      · have hb : (((a.d % 2 : Nat) : Int) == 0) = false := by rw [beq_eq_false_iff_ne]; omega
        rw [hb, cond_false, Option.bind_some, ld_act, Option.bind_some]
        simp only
        rw [c12 (n + 208) hao true H, Option.bind_some]
        simp only
        obtain ⟨H1, T1, a1, a2, a3, a4⟩ := e16 (n + 207) h (keyS a true) (by rw [List.length_append]; omega)
        rw [callD_bool a1, Option.bind_some]
        simp only
        rw [inc_nat (by omega)]
        have hlc := len_cut mp (keyS a true)
        by_cases c3 : (getM mp (keyS a true)).isSome = true
        · rw [if_pos c3, List.append_assoc] at a2
          refine ih (i + 1) a2 (hjd.cut _) ?_ (by omega) (by rw [List.length_append, List.length_singleton]; omega) (by omega) (by omega)
          rw [← List.append_assoc]
          exact jk_app hjk (keyS_len hao true)
        · rw [if_neg c3] at a2
          have hcut : cutA mp (keyS a true) = mp := by
            rcases findV_ents (enc := S.enc) vkeq_sk (keyS a true) mp with ⟨_, _, _, h4⟩ | ⟨_, _, h1, _⟩
            · exact h4
            · rw [h1] at c3; exact absurd rfl c3
          rw [hcut] at a2
          exact ih (i + 1) a2 hjd hjk (by omega) (by omega) (by omega) (by omega)
    · have : i = ys.length := by omega
      subst this
      have hdt : decide ((ys.length : Int) < (ys.length : Int)) = false := decide_eq_false (by omega)
      rw [hdt, cond_false]
      obtain ⟨H3, T3, f1, f2, f3, f4⟩ := e17 (n + 208) (mark_nat jr0.length) h (by rw [List.length_append]; omega) (by rw [List.length_append]; omega) hjk
      rw [callD_unit f1, Option.bind_some]
      simp only
      rw [List.drop_left, List.take_left] at f2
      obtain ⟨ndm, hun⟩ := hjd.undo hn0
      obtain ⟨g1, g2⟩ := hun mp ndm (fun _ => rfl)
      obtain ⟨e1, e2⟩ := g2.keys g1 hn0
      obtain ⟨s4, H4, b1, b2, b3⟩ := e13 (n + 208) f2 (by omega)
      rw [callD_sl b1, Option.bind_some]
      simp only
      rw [e1, ← hks] at b2
      rw [callD_bool (e18 (n + 209) b2 h7 (by omega) (by omega) H4), Option.bind_some]
      simp only [decide_true, Bool.not_true, cond_false]
      have t4 := f2.kn b3
      rw [callD_int (e15 (n + 209) t4), Option.bind_some]
      simp only
      rw [bne_self_eq_false, cond_false]
      refine ⟨H4, u33 (n + 209) h7 h8 (by omega) (fun y hy => ?_) t4 g2 (n + 210) 0 (Nat.zero_le _) (by omega)⟩
      rw [hks] at hy
      exact mem_keys.1 ((sortK_perm _).mem_iff.1 hy)
theorem u31 (n : Nat) {s1 s7 : VS} {ys : List Ac} {ks : List Key} {m0 : List (Key × ByteArray)} {jr0 : List JE} (hs : IsE s1 (acs ys)) (hok : ∀ x ∈ ys, x.ok) (hz : ys.length ≤ 40) (h7 : IsT s7 ks) 
    (hks : ks = sortK (m0.map (·.1))) (hn0 : Nd m0) (hl0 : m0.length ≤ 40) (hj0 : jr0.length ≤ 40) (hjk : JK jr0) : ∀ (m i : Nat) {H : VH} {k j : Nat} {T : List Nat} {s8 : VS}, TB H k j T m0 jr0 → Aq H 9 s8 (raws ((ks.take i).map fun y => (getM m0 y).getD zr)) → (∀ t ∈ toks s8, t ∉ T) → i ≤ ks.length → ks.length < i + m →
    ∃ H', L3_1 (n + 210) m s1 (.ob k 0) s7 s8 (i : Int) H = some (.bool true, H') := by
  have hkl := sortK_len (m0.map (·.1))
  rw [List.length_map, ← hks] at hkl
  intro m
  induction m with
  | zero => intros; omega
  | succ m ih =>
    intro i H k j T s8 h h8 hd hi hlt
    rw [L3_1_eq, isT_len h7]
    by_cases c : i < ks.length
    · obtain ⟨x, hx⟩ := get_of c
      obtain ⟨q1, q2⟩ := List.getElem?_eq_some_iff.1 hx
      have hdt : decide ((i : Int) < (ks.length : Int)) = true := decide_eq_true (by omega)
      rw [hdt, cond_true, isT_rd h7 hx, c14 (n + 209) h x, Option.bind_some]
      simp only
      obtain ⟨s', H1, g1, g2, g3, g4⟩ := h8.appE (sz := 1) (by_ := 16) (x := .fz [[.str ((getM m0 x).getD zr)]] (.ex 1)) (.fz _ _) (by rw [raws_len, List.length_map, List.length_take]; simp only [bound, List.length_singleton]; omega) (by rw [raws_len, List.length_map, List.length_take]; simp only [bound, List.length_singleton]; omega)
      rw [g1, Option.bind_some, inc_nat (by omega)]
      refine ih (i + 1) (h.keep g3 (fun t ht hm => hd t hm ht)) ?_ (fun t ht hm => ?_) (by omega) (by omega)
      · rw [List.take_succ_eq_append_getElem q1, q2, List.map_append, raws_app]; exact g2
      · rcases g4 t ht with h5 | h5
        · exact hd t h5 hm
        · have := h.lt t hm; omega
    · have : i = ks.length := by omega
      subst this
      have hdt : decide ((ks.length : Int) < (ks.length : Int)) = false := decide_eq_false (by omega)
      rw [hdt, cond_false, callD_int (e15 (n + 209) h), Option.bind_some]
      simp only
      rw [List.take_length] at h8
      exact u32 n hs hok hz h7 h8.isE hks hn0 hl0 hj0 (n + 210) 0 (tl := []) (by rw [List.append_nil]; exact h) .nil (by rw [List.append_nil]; exact hjk) (by omega) (Nat.le_refl _) (Nat.zero_le _) (by omega)
theorem u30 (n : Nat) {s0 s1 : VS} {xs ys : List Ac} (hs0 : IsE s0 (acs xs)) (hok0 : ∀ x ∈ xs, x.ok) (hz0 : xs.length ≤ 40) (hs : IsE s1 (acs ys)) (hok : ∀ x ∈ ys, x.ok) (hz : ys.length ≤ 40) : ∀ (m i : Nat) {H : VH} {k j : Nat} {T : List Nat} {mp : List (Key × ByteArray)} {jr : List JE}, TB H k j T mp jr → Nd mp → JK jr → mp.length ≤ i → jr.length ≤ i → i ≤ xs.length → xs.length < i + m →
    ∃ H', L3_0 (n + 210) m s0 s1 (.ob k 0) (i : Int) H = some (.bool true, H') := by
  intro m
  induction m with
  | zero => intros; omega
  | succ m ih =>
    intro i H k j T mp jr h hn hjk hl hj hi hlt
    rw [L3_0_eq, hs0.len, acs_len]
    by_cases c1 : i < xs.length
    · obtain ⟨a, ha⟩ := get_of c1
      have hdt : decide ((i : Int) < (xs.length : Int)) = true := decide_eq_true (by omega)
      have hao := hok0 a (List.mem_of_getElem? ha)
      rw [hdt, cond_true, ix_act hs0 ha, Option.bind_some, ld_act, Option.bind_some, Option.bind_some, at_k, Option.bind_some, ld_k, Option.bind_some]
      simp only
      rw [c12 (n + 208) hao true H, Option.bind_some]
      simp only [held_fzp, stays_hn, cond_true]
      obtain ⟨H1, T1, a1, a2, a3, a4⟩ := e11 (n + 207) h (key := keyS a true) (⟨a.k.toArray⟩ : ByteArray) (keyS_len hao true) (by omega) (by omega)
      rw [callD_unit a1, Option.bind_some]
      simp only [stays_hn, cond_true]
      rw [inc_nat (by omega)]
      have := (len_put mp (keyS a true) (⟨a.k.toArray⟩ : ByteArray)).2
      exact ih (i + 1) a2 (nodup_put hn _ _) (jk_app hjk (keyS_len hao true)) (by omega) (by rw [List.length_append, List.length_singleton]; omega) (by omega) (by omega)
    · have : i = xs.length := by omega
      subst this
      have hdt : decide ((xs.length : Int) < (xs.length : Int)) = false := decide_eq_false (by omega)
      rw [hdt, cond_false]
      obtain ⟨s4, H4, b1, b2, b3⟩ := e13 (n + 208) h (by omega)
      rw [callD_sl b1, Option.bind_some]
      simp only
      have hkl := sortK_len (mp.map (·.1))
      rw [List.length_map] at hkl
      exact u31 n hs hok hz b2 rfl hn (by omega) (by omega) hjk (n + 210) 0 (h.kn b3) (by rw [List.take_zero]; exact .nil) (fun t ht => by cases ht) (Nat.zero_le _) (by omega)
end
theorem rowsUndone (n : Nat) {s0 s1 : VS} {xs ys : List Ac} (hs0 : IsE s0 (acs xs)) (hok0 : ∀ x ∈ xs, x.ok) (hs : IsE s1 (acs ys)) (hok : ∀ x ∈ ys, x.ok) (H : VH) : ∃ H', vF P tab (n + 211) 3 [.sl 29 s0, .sl 29 s1] H = some (.bool true, H') := by
  rw [vF_body rfl, f3_eq, callD_bool (e9 (n + 170) H), Option.bind_some]
  simp only [Bool.not_true, cond_false]
  rw [hs0.len, acs_len, hs.len, acs_len]
  by_cases c1 : 40 < xs.length
  · have hdt : decide ((xs.length : Int) > 40) = true := decide_eq_true (by omega)
    rw [hdt, cond_true, callD_bool (e9 (n + 170) H), Option.bind_some]
    exact ⟨H, rfl⟩
  have hdt : decide ((xs.length : Int) > 40) = false := decide_eq_false (by omega)
  rw [hdt, cond_false]
  by_cases c2 : 40 < ys.length
  · have hdt : decide ((ys.length : Int) > 40) = true := decide_eq_true (by omega)
    rw [hdt, cond_true, callD_bool (e9 (n + 170) H), Option.bind_some]
    exact ⟨H, rfl⟩
  have hdt : decide ((ys.length : Int) > 40) = false := decide_eq_false (by omega)
  rw [hdt, cond_false]
  obtain ⟨H1, T1, a1, a2, a3, a4⟩ := S.e10 (n + 209) H
  rw [callD_ptr a1, Option.bind_some]
  exact u30 n hs0 hok0 (by omega) hs hok (by omega) (n + 210) 0 a2 (by simp [S.Nd]) (fun x hx => by cases hx) (Nat.le_refl _) (Nat.le_refl _) (Nat.zero_le _) (by omega)
theorem rowsUndone_law (us : List V) (h : HasAs P [22, 22] us) : ∃ n H', vF P tab n 3 us [] = some (.bool true, H') := by
  match us, h with
  | [u0, u1], ⟨h0, h1, _⟩ =>
    obtain ⟨s, l, rfl, i1, i2, _⟩ := acts_of h0
    obtain ⟨s', l', rfl, i3, i4, _⟩ := acts_of h1
    exact ⟨_, rowsUndone 0 i1 i2 i3 i4 []⟩
end Go.Proofs.Ytlkpgimhcnmblaa
