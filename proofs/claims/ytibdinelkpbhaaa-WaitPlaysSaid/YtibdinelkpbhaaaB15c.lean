import Derived.Test.YtibdinelkpbhaaaB15b
import Derived.Test.YtibdinelkpbhaaaVd
set_option maxRecDepth 100000
set_option linter.unusedVariables false
set_option linter.unusedSimpArgs false
namespace Go.Proofs.Ytibdinelkpbhaaa
open Go.Proofs.Ytibdinelkpbhaaa.Sh Go.Proofs.Ytibdinelkpbhaaa.Sh.V Go.RowKit Go.Proofs.Ytibdinelkpbhaaa.Sh.Lk
/-! ### Reach -/
def reachO (t : Tb) : Nat → List Int → List Int → Option (List Int)
  | 0, _, _ => none
  | _ + 1, l, [] => some l
  | m + 1, l, o :: r => cond (decide (l.length + r.length + (aheadP t o).length < 1800)) (cond (l.contains o) (reachO t m l r) (reachO t m (l ++ [o]) (r ++ aheadP t o))) none
theorem l15r (n : Nat) (hn : 3000 ≤ n) {k : Nat} {F : List Nat} {t : Tb} (sz : ∀ key, (lkOf t key).hs.length + (lkOf t key).q.length < 1900) {H0 : VH} (hF : ∀ a ∈ F, a < H0.length) :
    ∀ (m : Nat) {H : VH} {l todo R : List Int} {s5 s6 : VS}, reachO t m l todo = some R → TO H k F t → NL H0 H s5 l → l.length < 1801 → Hr H 3 1 s6 (ints todo) → (∀ a ∈ hps s6, H0.length ≤ a) → (∀ a ∈ hps s6, a ∉ hps s5) → ∀ m', m ≤ m' →
    ∃ s' H', L15_0 (n + 4) m' (.ob k 0) s5 s6 H = some (.sl 3 s', H') ∧ Hr H' 3 1 s' (ints (sortI R)) ∧ Kp H0 H' [] ∧ ∀ a ∈ hps s', H0.length ≤ a := by
  intro m
  induction m with
  | zero => intro H l todo R s5 s6 hR; cases hR
  | succ m ih =>
    intro H l todo R s5 s6 hR h hN hl h6 hf6 hd m' hm'
    obtain ⟨m', rfl⟩ : ∃ x, m' = x + 1 := ⟨m' - 1, by omega⟩
    rw [L15_0_eq, h6.len, ints_len]
    cases todo with
    | nil =>
      injection hR with hR
      subst hR
      have hdt : decide (((([] : List Int).length : Nat) : Int) > 0) = false := rfl
      rw [hdt, cond_false]
      obtain ⟨H1, c1, c2, c3, c4⟩ := hN.r.sort (e1 := 3) (by omega) hN.z
      have hc : V.callD (vF P tab (n + 4)) P false (.tup []) 31 [.sl 3 s5] H = some ((), H1) := by
        refine callD_unit ?_
        rw [vF_body rfl]
        exact c1
      rw [hc, Option.bind_some]
      exact ⟨s5, H1, rfl, c2, hN.k.trans c3 (fun x hx _ => hx) (fun x hx hlt => by have := hN.f x hx; omega), hN.f⟩
    | cons o r =>
      have hdt : decide ((((o :: r : List Int).length : Nat) : Int) > 0) = true := decide_eq_true (by simp only [List.length_cons]; omega)
      unfold reachO at hR
      cases hg : decide (l.length + r.length + (aheadP t o).length < 1800) with
      | false => rw [hg] at hR; cases hR
      | true =>
        rw [hg, cond_true] at hR
        have hg := of_decide_eq_true hg
        rw [hdt, cond_true]
        rw [show ((0 : Int)) = ((0 : Nat) : Int) from rfl, h6.rd1 (τ := .int .i64) (i := 0) (v := ik o) rfl (fd_int .i64 o)]
        obtain ⟨z3, a1, a2, a3, _⟩ := h6.drop (c := 1) (by rw [ints_len]; simp)
        rw [show (1 : Int) = ((1 : Nat) : Int) from rfl, a1, Option.bind_some, p27 (n + 2) (by omega) hN.r o (by omega), Option.bind_some]
        have a2 : Hr H 3 1 z3 (ints r) := a2
        cases hc : l.contains o with
        | true =>
          rw [hc, cond_true] at hR
          simp only [Bool.not_true, cond_false]
          exact ih hR h hN hl a2 (by rw [a3]; exact hf6) (by rw [a3]; exact hd) m' (by omega)
        | false =>
          rw [hc, cond_false] at hR
          simp only [Bool.not_false, cond_true]
          -- it is new
          have k2 := Kp.app H [VO.row 3 [.int .i64 o]]
          have hone : slEs (H ++ [VO.row 3 [.int .i64 o]]) 3 1 (.hp H.length 0 1) = some [[.int .i64 o]] := new_one H 3 rfl rfl
          obtain ⟨s5', H2, b1, b2, b3, b4⟩ := (hN.r.keep k2 (fun t _ => by simp)).app (by_ := 8) (x := .hp H.length 0 1) (news := ints [o]) rfl hone (fun y hy => by rw [List.mem_singleton.1 hy]; rfl) (by rw [ints_len]; simp [ints, bound]; omega) (by rw [ints_len]; simp [ints, bound]; omega)
          rw [← ints_app] at b2
          have hlen := hN.k.len
          have h2 : TO H2 k F t := (h.kn k2).keep b3 (fun a ha hx => by have := hF a ha; have := hN.f a hx; omega)
          have hz2 : Hr H2 3 1 z3 (ints r) := (a2.keep k2 (fun t _ => by simp)).keep b3 (fun a ha => by rw [a3] at ha; exact hd a ha)
          have kk2 : Kp H0 H2 [] := (hN.k.trans k2 (Z := []) (fun x hx _ => hx) (fun x hx _ => hx)).trans b3 (fun x hx _ => hx) (fun x hx hlt => by have := hN.f x hx; omega)
          have hf5 : ∀ a ∈ hps s5', H0.length ≤ a := fun a ha => by
            rcases b4 a ha with h1 | h1
            · exact hN.f a h1
            · have := k2.len; omega
          have hd5 : ∀ a ∈ hps z3, a ∉ hps s5' := fun a ha ha' => by
            rcases b4 a ha' with h1 | h1
            · exact hd a (by rw [← a3]; exact ha) h1
            · have := (a2.lt a ha).1
              have := k2.len
              omega
          rw [b1, Option.bind_some]
          obtain ⟨sA, H3, c1, c2, c3, c4⟩ := p21 (n + 1) (by omega) h2 o sz
          rw [c1, Option.bind_some]
          have h3 := h2.kn c3
          have hz3 := hz2.keep c3 (fun t _ => by simp)
          have hA : (aheadP t o).length < 1800 := by omega
          obtain ⟨s6', H4, d1, d2, d3, d4⟩ := hz3.app (by_ := 8) (x := sA) (news := ints (aheadP t o)) (by rw [c2.len]) (hr_es c2) (fun y hy => by obtain ⟨v, _, rfl⟩ := List.mem_map.1 hy; rfl) (by rw [ints_len, ints_len]; simp [bound]; omega) (by rw [ints_len, ints_len]; simp [bound]; omega)
          rw [← ints_app] at d2
          rw [d1, Option.bind_some]
          have hfz : ∀ a ∈ hps z3, H0.length ≤ a := fun a ha => hf6 a (by rw [← a3]; exact ha)
          refine ih hR (h3.keep d3 (fun a ha hx => by have := hF a ha; have := hfz a hx; omega)) ⟨?_, ?_, hf5, .inr (by simp)⟩ (by simp; omega) d2 (fun a ha => ?_) (fun a ha ha' => ?_) m' (by omega)
          · exact (kk2.trans c3 (Z := []) (fun x hx _ => hx) (fun x hx _ => hx)).trans d3 (fun x hx _ => hx) (fun x hx hlt => by have := hfz x hx; omega)
          · exact (b2.keep c3 (fun t _ => by simp)).keep d3 (fun a ha hx => hd5 a hx ha)
          · rcases d4 a ha with h1 | h1
            · exact hfz a h1
            · have := kk2.len; have := c3.len; omega
          · rcases d4 a ha with h1 | h1
            · exact hd5 a h1 ha'
            · have := (b2.lt a ha').1
              have := c3.len
              omega
theorem pR (n : Nat) (hn : 3000 ≤ n) {H : VH} {k : Nat} {F : List Nat} {t : Tb} (h : TO H k F t) (sz : ∀ key, (lkOf t key).hs.length + (lkOf t key).q.length < 1900) (o : Int) {R : List Int} (hR : reachO t 1000 [] (aheadP t o) = some R) :
    ∃ s' H', V.callD (vF P tab (n + 5)) P false (.one (.flat (.slice 3))) 15 [.ptr (.ob k 0), .int .i64 o] H = some (s', H') ∧ Hr H' 3 1 s' (ints (sortI R)) ∧ Kp H H' [] ∧ ∀ a ∈ hps s', H.length ≤ a := by
  suffices hb : ∃ s' H', bodyV P tab (vF P tab (n + 4)) (n + 4) 15 [.ptr (.ob k 0), .int .i64 o] H = some (.sl 3 s', H') ∧ Hr H' 3 1 s' (ints (sortI R)) ∧ Kp H H' [] ∧ ∀ a ∈ hps s', H.length ≤ a by
    obtain ⟨s', H', h1, h2⟩ := hb
    exact ⟨s', H', callD_sl (by rw [vF_body rfl]; exact h1), h2⟩
  obtain ⟨s1, H1, a1, a2, a3, a4⟩ := p21 (n + 1) (by omega) h o sz
  rw [f15_eq, a1, Option.bind_some]
  exact l15r n hn sz (H0 := H) h.lt 1000 hR (h.kn a3) ⟨a3, Hr.nil _ _ _, fun a ha => (by cases ha), .inl rfl⟩ (by simp) a2 a4 (fun a _ ha' => (by cases ha')) (n + 4) (by omega)
end Go.Proofs.Ytibdinelkpbhaaa
