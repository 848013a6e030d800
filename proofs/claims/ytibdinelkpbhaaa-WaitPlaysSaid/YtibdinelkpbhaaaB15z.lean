import Derived.Test.YtibdinelkpbhaaaB15r
import Derived.Test.YtibdinelkpbhaaaB15q
import Derived.Test.YtibdinelkpbhaaaB15n
import Derived.Test.YtibdinelkpbhaaaB15h
set_option maxRecDepth 100000
set_option linter.unusedVariables false
set_option linter.unusedSimpArgs false
namespace Go.Proofs.Ytibdinelkpbhaaa.R
open Go.Proofs.Ytibdinelkpbhaaa.Sh Go.Proofs.Ytibdinelkpbhaaa.Sh.V Go.RowKit Go.Proofs.Ytibdinelkpbhaaa.Sh.Lk
/-! ### The document's Reach and Stuck -/
theorem _root_.Go.Proofs.Ytibdinelkpbhaaa.Pa.last' {t : Tb} {a c : Int} (h : Pa t a c) : ∃ b, c ∈ aheadP t b := by
  induction h with
  | one h => exact ⟨_, h⟩
  | more _ _ ih => exact ih
theorem c43s (n : Nat) {s0 : VS} {l : List Int} (hs : IsI s0 l) (hz : l.length < 1000000) (hn : l.length < n) (H : VH) : ∃ s', V.callD (vF P tab (n + 2)) P false (.one (.flat (.slice 3))) 43 [.sl 3 s0] H = some (s', H) ∧ IsI s' (riseI l) := by
  have hb : ∃ s' H', bodyV P tab (vF P tab (n + 1)) (n + 1) 43 [.sl 3 s0.strip] [] = some (.sl 3 s', H') ∧ IsI s' (riseI l) := by
    obtain ⟨s', a, b⟩ := c58 n (s0 := s0.strip) (l := l) hs.strip hz hn []
    rw [f43_eq, a, Option.bind_some]
    exact ⟨s', [], rfl, b⟩
  obtain ⟨s', H', g1, g2⟩ := hb
  obtain ⟨a, b⟩ := lone_E (H := H) (args := [.sl 3 s0]) rfl (by simp [closed_slv 3 hs]) g1 g2
  exact ⟨s'.strip, callD_sl a, b⟩
theorem l41h (n : Nat) {s0 : VS} {l : List Int} (hs : IsI s0 l) (x : Int) (hz : l.length < 1000000) (H : VH) : ∀ (f j : Nat), j ≤ l.length → l.length < j + f → L41_0 n f s0 x (j : Int) H = some (.bool ((l.drop j).contains x), H) := by
  intro f
  induction f with
  | zero => intros; omega
  | succ f ih =>
    intro j hj hm
    rw [L41_0_eq, isI_len hs]
    by_cases c : j < l.length
    · obtain ⟨y, hy⟩ := get_of c
      have hdt : decide ((j : Int) < (l.length : Int)) = true := decide_eq_true (by omega)
      rw [hdt, cond_true, isI_rd hs hy, inc_nat (by omega), drop_cons hy, List.contains_cons]
      by_cases e : y = x
      · have e1 : (y == x) = true := by simpa using e
        have e2 : (x == y) = true := by simpa using e.symm
        rw [e1, e2, cond_true, Bool.true_or]
      · have e1 : (y == x) = false := by simpa using e
        have e2 : (x == y) = false := by simpa using fun h => e h.symm
        rw [e1, e2, cond_false, Bool.false_or]
        exact ih (j + 1) (by omega) (by omega)
    · have hdt : decide ((j : Int) < (l.length : Int)) = false := decide_eq_false (by omega)
      rw [hdt, cond_false, List.drop_eq_nil_of_le (by omega)]
      rfl
theorem c41h (n : Nat) {s0 : VS} {l : List Int} (hs : IsI s0 l) (x : Int) (hz : l.length < 1000000) (hn : l.length < n) (H : VH) : V.callD (vF P tab (n + 1)) P false (.one (.flat .bool)) 41 [.sl 3 s0, .int .i64 x] H = some (l.contains x, H) := by
  refine callD_bool ?_
  refine vF_lone (r := .bool (l.contains x)) (H1 := []) rfl (by show (closedC (.sl 3 s0) && _) = true; rw [closed_slv 3 hs]; rfl) ?_ rfl
  show bodyV P tab (vF P tab n) n 41 [.sl 3 s0.strip, .int .i64 x] [] = _
  rw [f41_eq]
  have := l41h n (l := l) hs.strip x hz [] n 0 (Nat.zero_le _) (by omega)
  rw [List.drop_zero] at this
  exact this
theorem reachO_nd {t : Tb} : ∀ (m : Nat) {l todo R : List Int}, reachO t m l todo = some R → l.Nodup → R.Nodup
  | 0, l, todo, R, h, _ => by cases h
  | m + 1, l, [], R, h, hl => by injection h with h; subst h; exact hl
  | m + 1, l, o :: r, R, h, hl => by
    unfold reachO at h
    cases hd : decide (l.length + r.length + (aheadP t o).length < 1800) with
    | false => rw [hd] at h; cases h
    | true =>
      rw [hd, cond_true] at h
      cases hc : l.contains o with
      | true => rw [hc, cond_true] at h; exact reachO_nd m h hl
      | false =>
        rw [hc, cond_false] at h
        refine reachO_nd m h ?_
        rw [List.nodup_append]
        refine ⟨hl, by simp, fun a ha b hb e => ?_⟩
        rw [List.mem_singleton.1 hb] at e
        have : l.contains o = true := List.contains_iff_mem.2 (by rw [← e]; exact ha)
        rw [hc] at this; cases this
theorem rS_nd {t : Tb} (hi : IT t) (hx : XT S6 t) (o : Int) : (rS t o).Nodup := reachO_nd 1000 (rS_eq hi hx o) .nil
section
variable {t : Tb} {m : List Ln}
theorem sub_len {l : List Int} (hn : l.Pairwise (fun a b => a < b)) (hS : ∀ z ∈ l, z ∈ S6) : l.length ≤ 6 := nodup_len (S := S6) (hn.imp fun h e => by omega) hS
theorem ahead_rise (t : Tb) (o : Int) : (aheadP t o).Pairwise (fun a b => a < b) := by
  unfold aheadP
  cases waitsP t o with
  | none => exact .nil
  | some kw => exact riseI_lt _
theorem l221r (n : Nat) (r : Rel t m) (hi : IT t) (hx : XT S6 t) {s0 : VS} (hs : IsL s0 m) (hz : m.length ≤ 900) (hn : 3000 < n) {s5 : VS} {l : List Int} (h5 : IsI s5 l) (hl : l.length ≤ 6) (m0 : Nat) : ∀ (f i : Nat) {H : VH} {s6 : VS} {acc : List Int}, Aq H 3 s6 (acc.map i1) → acc.length ≤ 6 + i * 6 → i ≤ l.length → l.length < i + f →
    ∃ s' H', L22_1 (n + 2) m0 f s0 s5 s6 (i : Int) H = cond (((((riseI (acc ++ (l.drop i).flatMap (aheadP t))).length : Nat) : Int)) == ((l.length : Nat) : Int)) (some (.sl 3 s5, H')) (L22_0 (n + 2) m0 s0 s' H') ∧ IsI s' (riseI (acc ++ (l.drop i).flatMap (aheadP t))) := by
  intro f
  induction f with
  | zero => intros; omega
  | succ f ih =>
    intro i H s6 acc h ha hc hm
    rw [L22_1_eq, isI_len h5]
    by_cases c : i < l.length
    · obtain ⟨y, hy⟩ := get_of c
      have hdt : decide ((i : Int) < (l.length : Int)) = true := decide_eq_true (by omega)
      obtain ⟨s3, a1, a2⟩ := c45 n hs y (by omega) (by omega) H
      rw [← r.ahead hi hx] at a2
      have hal : (aheadP t y).length ≤ 6 := sub_len (ahead_rise t y) (fun z hz => ahead_S hi hx y z hz)
      rw [hdt, cond_true, isI_rd h5 hy, a1, Option.bind_some]
      simp only
      obtain ⟨s', H', b1, b2, b3⟩ := h.pushs i1 (sz := 1) (by_ := 8) (x := s3) (r := aheadP t y) a2 (by decide) (by omega)
      rw [b1, Option.bind_some]
      simp only
      rw [inc_nat (by omega), drop_cons hy, List.flatMap_cons, ← List.append_assoc]
      exact ih (i + 1) b2 (by rw [List.length_append]; omega) (by omega) (by omega)
    · have hdt : decide ((i : Int) < (l.length : Int)) = false := decide_eq_false (by omega)
      rw [hdt, cond_false, List.drop_eq_nil_of_le (by omega), List.flatMap_nil, List.append_nil]
      obtain ⟨s', a1, a2⟩ := c43s n (s0 := s6) (l := acc) h.isE (by omega) (by omega) H
      rw [a1, Option.bind_some]
      simp only
      rw [isI_len a2]
      exact ⟨s', H, rfl, a2⟩
theorem l220r (n : Nat) (r : Rel t m) (hi : IT t) (hx : XT S6 t) {s0 : VS} (hs : IsL s0 m) (hz : m.length ≤ 900) (hn : 3000 < n) (o : Int) : ∀ (f : Nat) {H : VH} {s5 : VS} {l : List Int}, IsI s5 l → l.Pairwise (fun a b => a < b) → (∀ z ∈ l, Pa t o z) → (∀ z ∈ aheadP t o, z ∈ l) → 6 < l.length + f →
    ∃ s' H', L22_0 (n + 2) f s0 s5 H = some (.sl 3 s', H') ∧ IsI s' (sortI (rS t o)) := by
  intro f
  induction f with
  | zero =>
    intro H s5 l h hp h1 h2 hm
    have := sub_len hp (fun z hz => by obtain ⟨b, hb⟩ := (h1 z hz).last'; exact ahead_S hi hx _ _ hb)
    omega
  | succ f ih =>
    intro H s5 l h hp h1 h2 hm
    have hl := sub_len hp (fun z hz => by obtain ⟨b, hb⟩ := (h1 z hz).last'; exact ahead_S hi hx _ _ hb)
    obtain ⟨s6, H1, a1, a2, a3⟩ := (Aq.nil (H := H) (e := 3)).pushs i1 (l := []) (r := l) (sz := 1) (by_ := 8) h (by decide) (by simp; omega)
    rw [List.nil_append] at a2
    rw [L22_0_eq, a1, Option.bind_some]
    simp only
    obtain ⟨s', H', b1, b2⟩ := l221r n r hi hx hs hz hn h hl f (n + 2) 0 a2 (by omega) (Nat.zero_le _) (by omega)
    rw [show ((0 : Nat) : Int) = 0 from rfl, List.drop_zero] at b1
    rw [List.drop_zero] at b2
    rw [b1]
    have hmem : ∀ z, z ∈ riseI (l ++ l.flatMap (aheadP t)) ↔ z ∈ l ∨ ∃ y ∈ l, z ∈ aheadP t y := fun z => by rw [mem_riseI, List.mem_append, List.mem_flatMap]
    have hlt := riseI_lt (l ++ l.flatMap (aheadP t))
    have hle : l.length ≤ (riseI (l ++ l.flatMap (aheadP t))).length := nodup_len (hp.imp fun h e => by omega) (fun z hz => (hmem z).2 (.inl hz))
    have hPa : ∀ z ∈ riseI (l ++ l.flatMap (aheadP t)), Pa t o z := fun z hz => by
      rcases (hmem z).1 hz with hz | ⟨y, hy, hz⟩
      · exact h1 z hz
      · exact (h1 y hy).snoc hz
    by_cases e : (riseI (l ++ l.flatMap (aheadP t))).length = l.length
    · have e1 : (((((riseI (l ++ l.flatMap (aheadP t))).length : Nat) : Int)) == ((l.length : Nat) : Int)) = true := by rw [e]; simp
      rw [e1, cond_true]
      refine ⟨s5, H', rfl, ?_⟩
      have hsame : ∀ z, z ∈ riseI (l ++ l.flatMap (aheadP t)) → z ∈ l := fun z hz => by
        by_cases hzl : z ∈ l
        · exact hzl
        · exfalso
          have := nodup_len (S := riseI (l ++ l.flatMap (aheadP t))) (l := z :: l) (by
            rw [List.nodup_cons]
            exact ⟨hzl, hp.imp fun h e => by omega⟩) (fun a ha => by
            rcases List.mem_cons.1 ha with rfl | ha
            · exact hz
            · exact (hmem a).2 (.inl ha))
          rw [List.length_cons] at this; omega
      have hcl : ∀ a ∈ l, ∀ b ∈ aheadP t a, b ∈ l := fun a ha b hb => hsame b ((hmem b).2 (.inr ⟨a, ha, hb⟩))
      have hall : ∀ {a b : Int}, Pa t a b → (∀ c ∈ aheadP t a, c ∈ l) → b ∈ l := by
        intro a b hab
        induction hab with
        | one hb => exact fun hc => hc _ hb
        | more hb _ ih => exact fun hc => ih (hcl _ (hc _ hb))
      have hnd : (rS t o).Nodup := rS_nd hi hx o
      have : l = sortI (rS t o) := lt_eq hp (sort_lt hnd) (fun z => by
        rw [mem_sortI, reach_iff (rS_eq hi hx o)]
        exact ⟨h1 z, fun hz => hall hz h2⟩)
      rw [← this]
      exact h
    · have e1 : (((((riseI (l ++ l.flatMap (aheadP t))).length : Nat) : Int)) == ((l.length : Nat) : Int)) = false := by rw [beq_eq_false_iff_ne]; omega
      rw [e1, cond_false]
      exact ih b2 hlt hPa (fun z hz => (hmem z).2 (.inl (h2 z hz))) (by omega)
theorem c22r (n : Nat) (r : Rel t m) (hi : IT t) (hx : XT S6 t) {s0 : VS} (hs : IsL s0 m) (hz : m.length ≤ 900) (hn : 3000 < n) (o : Int) (H : VH) : ∃ s', V.callD (vF P tab (n + 3)) P false (.one (.flat (.slice 3))) 22 [.sl 78 s0, .int .i64 o] H = some (s', H) ∧ IsI s' (sortI (rS t o)) := by
  have hb : ∃ s' H', bodyV P tab (vF P tab (n + 2)) (n + 2) 22 [.sl 78 s0.strip, .int .i64 o] [] = some (.sl 3 s', H') ∧ IsI s' (sortI (rS t o)) := by
    have hs' : IsL s0.strip m := hs.strip
    obtain ⟨s1, a1, a2⟩ := c45 n hs' o (by omega) (by omega) []
    rw [← r.ahead hi hx] at a2
    rw [f22_eq, a1, Option.bind_some]
    exact l220r n r hi hx hs' hz hn o (n + 2) a2 (ahead_rise t o) (fun z hz => .one hz) (fun z hz => hz) (by omega)
  obtain ⟨s', H', g1, g2⟩ := hb
  obtain ⟨a, b⟩ := lone_E (H := H) (args := [.sl 78 s0, .int .i64 o]) rfl (by show (closedC (.sl 78 s0) && _) = true; rw [closed_slv 78 hs]; rfl) g1 g2
  exact ⟨s'.strip, callD_sl a, b⟩
theorem reach_len (hi : IT t) (hx : XT S6 t) (o : Int) : (sortI (rS t o)).length ≤ 6 := sub_len (sort_lt (rS_nd hi hx o)) (fun z hz => by
  have := (reach_iff (rS_eq hi hx o) z).1 (mem_sortI.1 hz)
  obtain ⟨b, hb⟩ := this.last'
  exact ahead_S hi hx _ _ hb)
theorem l21r (n : Nat) (r : Rel t m) (hi : IT t) (hx : XT S6 t) {s0 : VS} (hs : IsL s0 m) (hz : m.length ≤ 900) (hn : 3000 < n) (o : Int) {s5 : VS} {l : List Int} (h5 : IsI s5 l) (hl : l.length ≤ 6) : ∀ (f i : Nat) {H : VH} {s6 : VS} {acc : List Int}, Aq H 3 s6 (acc.map i1) → acc.length ≤ i → i ≤ l.length → l.length < i + f →
    ∃ s' H', L21_0 (n + 3) f s0 o s5 s6 (i : Int) H = some (.sl 3 s', H') ∧ IsI s' (acc ++ (l.drop i).filter (stq (rS t) o)) := by
  intro f
  induction f with
  | zero => intros; omega
  | succ f ih =>
    intro i H s6 acc h ha hc hm
    rw [L21_0_eq, isI_len h5]
    by_cases c : i < l.length
    · obtain ⟨y, hy⟩ := get_of c
      have hdt : decide ((i : Int) < (l.length : Int)) = true := decide_eq_true (by omega)
      obtain ⟨s3, a1, a2⟩ := c22r n r hi hx hs hz hn y H
      have hrl := reach_len hi hx y
      rw [hdt, cond_true, isI_rd h5 hy, a1, Option.bind_some]
      simp only
      rw [c41h (n + 2) a2 o (by omega) (by omega), Option.bind_some, inc_nat (by omega), drop_cons hy, flt_cons]
      simp only
      show ∃ s' H', cond (stq (rS t) o y) _ _ = _ ∧ _
      cases hq : stq (rS t) o y with
      | false => rw [cond_false, cond_false]; exact ih (i + 1) h (by omega) (by omega) (by omega)
      | true =>
        rw [cond_true, cond_true, isI_rd h5 hy]
        obtain ⟨s', H', b1, b2, b3⟩ := h.push i1 (sz := 1) (by_ := 8) y (by decide) (by omega)
        have b1' : appD true H 1 8 3 s6 (.fz [[.int .i64 y]] (.ex 1)) = some (s', H') := b1
        rw [b1', Option.bind_some]
        obtain ⟨s4, H4, d1, d2⟩ := ih (i + 1) b2 (by rw [List.length_append, List.length_singleton]; omega) (by omega) (by omega)
        refine ⟨s4, H4, d1, ?_⟩
        rw [show ∀ r : List Int, acc ++ y :: r = acc ++ [y] ++ r from fun r => by simp]
        exact d2
    · have hdt : decide ((i : Int) < (l.length : Int)) = false := decide_eq_false (by omega)
      rw [hdt, cond_false, List.drop_eq_nil_of_le (by omega)]
      exact ⟨s6, H, rfl, by rw [List.filter_nil, List.append_nil]; exact h.isE⟩
theorem c21r (n : Nat) (r : Rel t m) (hi : IT t) (hx : XT S6 t) {s0 : VS} (hs : IsL s0 m) (hz : m.length ≤ 900) (hn : 3000 < n) (o : Int) (H : VH) : ∃ s', V.callD (vF P tab (n + 4)) P false (.one (.flat (.slice 3))) 21 [.sl 78 s0, .int .i64 o] H = some (s', H) ∧ IsI s' ((sortI (rS t o)).filter (stq (rS t) o)) := by
  have hb : ∃ s' H', bodyV P tab (vF P tab (n + 3)) (n + 3) 21 [.sl 78 s0.strip, .int .i64 o] [] = some (.sl 3 s', H') ∧ IsI s' ((sortI (rS t o)).filter (stq (rS t) o)) := by
    have hs' : IsL s0.strip m := hs.strip
    obtain ⟨s1, a1, a2⟩ := c22r n r hi hx hs' hz hn o []
    rw [f21_eq, a1, Option.bind_some]
    obtain ⟨s', H', b1, b2⟩ := l21r n r hi hx hs' hz hn o a2 (reach_len hi hx o) (n + 3) 0 (H := []) (acc := []) .nil (Nat.le_refl _) (Nat.zero_le _) (by have := reach_len hi hx o; omega)
    exact ⟨s', H', b1, by rw [List.drop_zero, List.nil_append] at b2; exact b2⟩
  obtain ⟨s', H', g1, g2⟩ := hb
  obtain ⟨a, b⟩ := lone_E (H := H) (args := [.sl 78 s0, .int .i64 o]) rfl (by show (closedC (.sl 78 s0) && _) = true; rw [closed_slv 78 hs]; rfl) g1 g2
  exact ⟨s'.strip, callD_sl a, b⟩
/-! ### The law -/
abbrev KP (H H' : VH) : Prop := Kp H H' []
theorem KP.tr {H H1 H2 : VH} (a : KP H H1) (b : KP H1 H2) : KP H H2 := a.trans b (fun x hx _ => hx) (fun x hx _ => hx)
theorem beq_self (b : Bool) : (b == b) = true := by cases b <;> rfl
theorem last_pos (L : List Int) : (lastO L).2 = decide (((L.length : Nat) : Int) > 0) := by
  unfold lastO
  cases L with
  | nil => rfl
  | cons a r =>
    obtain ⟨x, hx⟩ := get_of (l := a :: r) (i := (a :: r).length - 1) (by simp)
    rw [hx]
    exact (decide_eq_true (by simp only [List.length_cons]; omega)).symm
theorem l61 (n : Nat) (hn : 3000 < n) {kp m0 : Nat} {s0 : VS} {c : Int} {F : List Nat} (r : Rel t m) (hi : IT t) (hx : XT S6 t) {N : Nat} (hN : NB N t) (hN2 : N ≤ 390) {s4 : VS} (hs : IsL s4 m) (hz : m.length ≤ 900) : ∀ (f j : Nat) {H : VH}, TO H kp F t → j ≤ 7 → 7 < j + f →
    ∃ H', L6_1 (n + 10) m0 f s0 (.ob kp 0) s4 c (j : Int) H = L6_0 (n + 10) m0 s0 (.ob kp 0) s4 (IntKind.wrap .i64 (c + 1)) H' ∧ KP H H' := by
  intro f
  induction f with
  | zero => intros; omega
  | succ f ih =>
    intro j H h hj hm
    rw [L6_1_eq]
    by_cases hjl : j < 7
    · have hdt : decide ((j : Int) < 7) = true := decide_eq_true (by omega)
      have sz := nb_s2 hN hN2
      obtain ⟨s1, a1, a2⟩ := c21r (n + 6) r hi hx hs hz (by omega) (j : Int) H
      obtain ⟨H2, b1, b2⟩ := pV n (by omega) h sz (j : Int) (R := rS t) (rS_eq hi hx _) (fun x _ => rS_eq hi hx x)
      have h2 := h.kn b2
      obtain ⟨s3, H3, d1, d2, d3, _⟩ := pR (n + 5) (by omega) h2 sz (j : Int) (rS_eq hi hx _)
      obtain ⟨s4', e1, e2⟩ := c22r (n + 7) r hi hx hs hz (by omega) (j : Int) H3
      have hrl := reach_len hi hx (j : Int)
      have h3 := h2.kn d3
      obtain ⟨s6, H6, f1, f2, f3⟩ := pS (n + 1) (by omega) h3 sz (j : Int) (R := rS t) (rS_eq hi hx _) (fun x _ => rS_eq hi hx x)
      have hfl : ((sortI (rS t (j : Int))).filter (stq (rS t) (j : Int))).length ≤ 6 := Nat.le_trans (List.length_filter_le _ _) hrl
      have k6 : KP H H6 := KP.tr (KP.tr b2 d3) f3
      rw [hdt, cond_true, a1, Option.bind_some]
      simp only
      rw [b1, Option.bind_some]
      simp only
      rw [d1, Option.bind_some]
      simp only
      rw [e1, Option.bind_some]
      simp only
      rw [p15 (n + 9) (RdI.r d2) (RdI.e e2) (by omega) (by omega), Option.bind_some, decide_eq_true rfl]
      simp only
      rw [Bool.not_true, cond_false, f1, Option.bind_some]
      simp only
      rw [p15 (n + 9) (RdI.r f2) (RdI.e a2) (by omega) (by omega), Option.bind_some, decide_eq_true rfl]
      simp only
      rw [Bool.not_true, cond_false, isI_len a2, ← last_pos, beq_self, Bool.not_true, cond_false, inc_nat (by omega)]
      obtain ⟨H', w1, w2⟩ := ih (j + 1) (h.kn k6) (by omega) (by omega)
      have on : ∃ H', L6_1 (n + 10) m0 f s0 (.ob kp 0) s4 c ((j + 1 : Nat) : Int) H6 = L6_0 (n + 10) m0 s0 (.ob kp 0) s4 (IntKind.wrap .i64 (c + 1)) H' ∧ KP H H' := ⟨H', w1, KP.tr k6 w2⟩
      generalize hL : (sortI (rS t (j : Int))).filter (stq (rS t) (j : Int)) = L at *
      cases hl : (lastO L).2 with
      | true =>
        have hp := hl
        rw [last_pos] at hp
        have hp := of_decide_eq_true hp
        obtain ⟨x, hxx⟩ := get_of (l := L) (i := L.length - 1) (by omega)
        have hv : (lastO L).1 = x := by unfold lastO; rw [hxx]
        have ew : IntKind.wrap .i64 (((L.length : Nat) : Int) - 1) = ((L.length - 1 : Nat) : Int) := by rw [i64_in (by omega)]; omega
        rw [cond_true, ew, isI_rd a2 hxx, hv, show (x != x) = false by simp, cond_false, Bool.not_true, cond_false]
        exact on
      | false =>
        have hv : (lastO L).1 = 0 := by
          unfold lastO at hl ⊢
          cases hg : L[L.length - 1]? with
          | none => rfl
          | some x => rw [hg] at hl; cases hl
        rw [cond_false, Bool.not_false, cond_true, hv, show ((0 : Int) != 0) = false from rfl, cond_false]
        exact on
    · have hdt : decide ((j : Int) < 7) = false := decide_eq_false (by omega)
      rw [hdt, cond_false]
      exact ⟨H, rfl, Kp.refl _ _⟩
end
theorem l60 (n : Nat) (hn : 3000 < n) {s0 : VS} {A : List Ac} (hs0 : IsE s0 (actE A)) (hA : A.length ≤ 60) (hok : ∀ x ∈ A, x.ok) {kp : Nat} : ∀ (f c : Nat) {H : VH} {F : List Nat} {t : Tb} {m : List Ln} {s4 : VS}, c ≤ A.length → A.length < c + f → TO H kp F t → IT t → XT S6 t → NB c t → Rel t m → IsL s4 m → m.length ≤ c →
    ∃ H', L6_0 (n + 10) f s0 (.ob kp 0) s4 (c : Int) H = some (.bool true, H') := by
  intro f
  induction f with
  | zero => intros; omega
  | succ f ih =>
    intro c H F t m s4 hc hm h hI hX hN r hs hz
    rw [L6_0_eq, hs0.len, actE_len]
    by_cases hcl : c < A.length
    · obtain ⟨x, hx⟩ := get_of hcl
      have hdt : decide ((c : Int) < (A.length : Int)) = true := decide_eq_true (by omega)
      have hxo := hok x (List.mem_of_getElem? hx)
      have r6 : remI (x.o : Int) 6 = some ((x.o % 6 : Nat) : Int) := remI_nat (y := 6) (by decide)
      have r16 : remI (x.d : Int) 16 = some ((x.d % 16 : Nat) : Int) := remI_nat (y := 16) (by decide)
      have hw : IntKind.wrap .i64 ((x.o % 6 : Nat) : Int) = ((x.o % 6 : Nat) : Int) := i64_nat (by omega)
      have hoS : ((x.o % 6 : Nat) : Int) ∈ S6 := by
        have := Nat.mod_lt x.o (show 0 < 6 by decide)
        simp only [S6, List.mem_cons, List.not_mem_nil, or_false]
        omega
      rw [hdt, cond_true, rd_act hs0 hx, Option.bind_some, at_a0, Option.bind_some, ld_a0, Option.bind_some, r6, Option.bind_some, Option.bind_some, ld_aa, Option.bind_some]
      simp only
      rw [c16 (n + 9) hxo H, Option.bind_some, Option.bind_some, at_a2, Option.bind_some, ld_a2, Option.bind_some, r16, Option.bind_some, hw]
      have on : ∀ {H1 : VH} {F1 : List Nat} {t1 : Tb} {m1 : List Ln} {s1 : VS}, TO H1 kp F1 t1 → IT t1 → XT S6 t1 → NB (c + 1) t1 → Rel t1 m1 → IsL s1 m1 → m1.length ≤ c + 1 → ∃ H', L6_1 (n + 10) f (n + 10) s0 (.ob kp 0) s1 (c : Int) 0 H1 = some (.bool true, H') := by
        intro H1 F1 t1 m1 s1 g1 g2 g3 g4 g5 g6 g7
        obtain ⟨H2, a1, a2⟩ := l61 n hn (s0 := s0) (m0 := f) (c := (c : Int)) g5 g2 g3 g4 (by omega) g6 (by omega) (n + 10) 0 g1 (by omega) (by omega)
        rw [show ((0 : Nat) : Int) = 0 from rfl] at a1
        rw [a1, inc_nat (by omega)]
        exact ih (c + 1) (by omega) (by omega) (g1.kn a2) g2 g3 g4 g5 g6 g7
      cases hd : (((x.d % 16 : Nat) : Int) == 15) with
      | true =>
        obtain ⟨s', H1, F1, a1, a2, a3, a4⟩ := free_n n (by omega) h hN (by omega) ((x.o % 6 : Nat) : Int)
        obtain ⟨s1, s2, b1, b2, b3⟩ := c22 (n + 6) hs ((x.o % 6 : Nat) : Int) (by omega) (by omega) H1
        obtain ⟨e1, e2⟩ := r.free hI hX ((x.o % 6 : Nat) : Int)
        rw [cond_true, a1, Option.bind_some]
        simp only
        rw [b1, Option.bind_some]
        have hm2 := freeR_len m ((x.o % 6 : Nat) : Int)
        exact on a2 (hI.free _) (hX.free hI _) (a4.mono (by omega)) e1 b2 (by omega)
      | false =>
        obtain ⟨H1, F1, a1, a2, a3⟩ := ask_n n (by omega) h hN (by omega) ((x.o % 6 : Nat) : Int) (kJ (x.k % 4)) (decide (x.d / 4 % 2 = 0)) (by omega) (kJ_len _)
        obtain ⟨s1, b1, b2⟩ := c23 (n + 6) hs ((x.o % 6 : Nat) : Int) (kJ (x.k % 4)) (decide (x.d / 4 % 2 = 0)) (by omega) (by omega) H1
        obtain ⟨e1, e2⟩ := r.ask hI hX ((x.o % 6 : Nat) : Int) (kJ (x.k % 4)) (decide (x.d / 4 % 2 = 0))
        rw [cond_false, show kbA (x.k % 4) = ⟨(kJ (x.k % 4)).toArray⟩ from rfl, a1, Option.bind_some]
        simp only
        rw [b1, Option.bind_some]
        have hm2 := askR_len m ((x.o % 6 : Nat) : Int) (kJ (x.k % 4)) (decide (x.d / 4 % 2 = 0))
        exact on a2 (hI.ask _ _ _) (hX.ask hI _ hoS _ _) a3 e1 b2 (by omega)
    · have hdt : decide ((c : Int) < (A.length : Int)) = false := decide_eq_false (by omega)
      rw [hdt, cond_false]
      exact ⟨H, rfl⟩
theorem waitPlays_law (us : List V) (h : HasAs P [35] us) : ∃ n H', vF P tab n 6 us [] = some (.bool true, H') := by
  match us, h with
  | [u0], ⟨h0, _⟩ =>
    obtain ⟨d, s, es, rfl, hs, hl, hes⟩ := hasA_sl (e := 39) (by kernel_rfl) h0
    obtain ⟨A, rfl, hA0⟩ := lst_of (f := Ac.cells) (Q := Ac.ok) (es := es) (fun y hy => ac_cells (hes y hy).1)
    have hs : IsE s (actE A) := hs
    obtain ⟨N, hN⟩ : ∃ N, 20000 ≤ N := ⟨20000, Nat.le_refl _⟩
    refine ⟨N + 66, ?_⟩
    rw [vF_body rfl, f6_eq, c_rings (N + 5), show (!(true, ([] : VH)).1) = false from rfl, cond_false, hs.len, actE_len]
    by_cases hA : 60 < A.length
    · have hd : decide ((A.length : Int) > 60) = true := decide_eq_true (by omega)
      rw [hd, cond_true, c_rings (N + 5)]
      exact ⟨_, rfl⟩
    · have hd : decide ((A.length : Int) > 60) = false := decide_eq_false (by omega)
      rw [hd, cond_false]
      obtain ⟨k, H1, F1, a1, a2⟩ := p11 (N + 64) []
      rw [a1, Option.bind_some]
      obtain ⟨H', b1⟩ := l60 (N + 55) (by omega) hs (by omega) hA0 (N + 65) 0 (s4 := .nil) (Nat.zero_le _) (by omega) a2 IT.zero (XT.zero S6) NB.zero Rel.zero .nil (Nat.le_refl _)
      rw [show ((0 : Nat) : Int) = 0 from rfl] at b1
      exact ⟨H', b1⟩
end Go.Proofs.Ytibdinelkpbhaaa.R
