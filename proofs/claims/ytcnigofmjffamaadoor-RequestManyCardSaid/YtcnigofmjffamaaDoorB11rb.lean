import Derived.Test.YtcnigofmjffamaaDoorB11ra
import Derived.Test.YtcnigofmjffamaaDoorB11z
set_option maxRecDepth 100000
set_option linter.unusedVariables false
set_option linter.unusedSimpArgs false
namespace Go.Proofs.YtcnigofmjffamaaDoor
open Go.Proofs.YtcnigofmjffamaaDoor.Sh Go.Proofs.YtcnigofmjffamaaDoor.Sh.V Go.RowKit
/-! ### The reference's Encode over pieces -/
def rS (a : Nat) : PR := ⟨1, [110], [], [], List.replicate a [114], []⟩
theorem row_new (H : VH) (T : TypeId) (cs : List V) : (H ++ [VO.row T cs])[H.length]? = some (.row T cs) := by simp
theorem c15s (n : Nat) (hn : 70000 ≤ n) {H : VH} {sr : VS} {a : Nat} (ha : a ≤ 19) (hs : Hr H 9 1 sr (ss (List.replicate a [114]))) : ∃ s' H', V.callD (vF P tab (n + 11)) P false (.one (.flat (.slice 5))) 15 [.agg [.int .u8 1, .str ⟨#[110]⟩, .str ⟨#[]⟩, .sl 5 .nil, .sl 9 sr, .sl 34 .nil]] H = some (s', H') ∧ IsB s' (encP (rS a)) ∧ Kp H H' [] := by
  have hz := szs_rep a
  rcases hs.2 with ⟨rfl, h0⟩ | ⟨j, pre, post, hsr, hj⟩
  · have : List.replicate a ([114] : List UInt8) = [] := by
      generalize List.replicate a ([114] : List UInt8) = l at h0
      cases l with | nil => rfl | cons a b => cases h0
    have ha0 : a = 0 := by simpa using this
    subst ha0
    obtain ⟨s', b1, b2⟩ := e15 n hn (r := rS 0) ⟨by decide, by decide, by decide, by decide, by decide, by decide, by decide, fun o ho => by cases ho⟩ (s3 := .nil) (s4 := .nil) (s5 := .nil) ⟨.nil, .nil, [], .nil, .nil⟩ H
    exact ⟨s', H, b1, b2, Kp.refl _ _⟩
  · have hop : List.all [V.agg [.int .u8 1, .str ⟨#[110]⟩, .str ⟨#[]⟩, .sl 5 .nil, .sl 9 sr, .sl 34 .nil]] closedC = false := by rw [hsr]; rfl
    have main : ∃ s' H', bodyV P tab (vF P tab (n + 10)) (n + 10) 15 [.agg [.int .u8 1, .str ⟨#[110]⟩, .str ⟨#[]⟩, .sl 5 .nil, .sl 9 sr, .sl 34 .nil]] H = some (.sl 5 s', H') ∧ IsB s' (encP (rS a)) ∧ Kp H H' [] := by
      rw [f15_eq]
      obtain ⟨H1, e1⟩ : ∃ H1 : VH, H1 = H ++ [.row (31 + boxK) [.int .u8 1, .str ⟨#[110]⟩, .str ⟨#[]⟩, .sl 5 .nil, .sl 9 sr, .sl 34 .nil]] := ⟨_, rfl⟩
      rw [← e1]
      have k1 : Kp H H1 [] := by rw [e1]; exact Kp.app _ _
      have h0 : H1[H.length]? = some (.row QT [.int .u8 1, .str ⟨#[110]⟩, .str ⟨#[]⟩, .sl 5 .nil, .sl 9 sr, .sl 34 .nil]) := by rw [e1]; exact row_new _ _ _
      obtain ⟨k, hk⟩ : ∃ k, k = H.length := ⟨_, rfl⟩
      rw [← hk] at h0 ⊢
      have l0 : ∀ {H : VH}, H[k]? = some (.row QT [.int .u8 1, .str ⟨#[110]⟩, .str ⟨#[]⟩, .sl 5 .nil, .sl 9 sr, .sl 34 .nil]) → ldV (.flat (.int .u8)) H (.ob k 0) = some 1 := fun h => by rw [ld_row h]; exact fd_int .u8 _
      rw [l0 h0, Option.bind_some, Option.bind_some, show ((1 : Int) == 1) = true from rfl, cond_true]
      have l1 : ldV (.flat .str) H1 (.ob k 1) = some ⟨#[110]⟩ := by rw [ld_row h0]; rfl
      rw [l1, Option.bind_some]
      obtain ⟨t, w1, w2⟩ := e13 (n + 8) [110] (by simp) H1
      have w1' : vF P tab (n + 10) 13 [.str ⟨#[110]⟩] H1 = some (.sl 5 t, H1) := w1
      rw [callD_sl w1', Option.bind_some]
      simp only
      have hA : Aq H1 5 (.fz [[.int .u8 1]] (.ex 1)) (bs [1]) := .lit (bs [1])
      obtain ⟨u1, H2, b1, b2, b3, b4, b5⟩ := ab hA w2 (by rw [textI_len]; simp)
      rw [b1, Option.bind_some]
      simp only
      have k2 : Kp H H2 [] := k1.trans b4 (fun x hx _ => hx) (fun x hx _ => by cases hx)
      have f1 : ∀ t ∈ toks u1, H.length ≤ t := fun t ht => (b5 t ht).elim (fun h => by cases h) (fun h => by have := k1.len; omega)
      have o2 := b3 _ _ _ h0
      have l3 : ldV (.flat (.slice 5)) H2 (.ob k 3) = some .nil := by rw [ld_row o2]; exact fd_sl 5 .nil
      have st1 : strV H2 5 .nil = some ⟨([] : List UInt8).toArray⟩ := IsB.str (show IsB .nil [] from .nil) _ _
      rw [l3, Option.bind_some, st1, Option.bind_some]
      obtain ⟨t', w3, w4⟩ := e13 (n + 8) [] (by simp) H2
      rw [callD_sl w3, Option.bind_some]
      simp only
      obtain ⟨u2, H3, d1, d2, d3, d4, d5⟩ := ab b2 w4 (by simp only [textI_len, List.length_append]; simp)
      rw [d1, Option.bind_some]
      simp only
      have k3 : Kp H H3 [] := k2.trans d4 (fun x hx _ => hx) (fun x hx hlt => by have := f1 x hx; omega)
      have f2 : ∀ t ∈ toks u2, H.length ≤ t := fun t ht => (d5 t ht).elim (f1 t) (fun h => by have := k2.len; omega)
      have o3 := d3 _ _ _ o2
      have l4 : ldV (.flat (.slice 9)) H3 (.ob k 4) = some sr := by rw [ld_row o3]; exact fd_sl 9 sr
      rw [l4, Option.bind_some]
      obtain ⟨t2, H4, g1, g2, g3⟩ := c41 (n + 7) (hr_rx hs (kp_rx k3)) (by omega) (by simp; omega) (by simp; omega)
      rw [g1, Option.bind_some]
      simp only
      have t3 : (textsI (List.replicate a [114])).length = 1 + szs (List.replicate a [114]) := by show (_ :: _).length = _; rw [List.length_cons]; show szs (List.replicate a [114]) + 1 = _; omega
      have k4 : Kp H H4 [] := k3.trans g3 (fun x hx _ => hx) (fun x hx _ => by cases hx)
      have d2' := d2.keep g3 (fun t _ => by simp)
      obtain ⟨u3, H5, i1, i2, i3, i4, i5⟩ := ab d2' g2 (by simp only [textI_len, t3, List.length_append]; simp; omega)
      rw [i1, Option.bind_some]
      simp only
      have k5 : Kp H H5 [] := k4.trans i4 (fun x hx _ => hx) (fun x hx hlt => by have := f2 x hx; omega)
      have o5 := i3 _ _ _ (g3.ob o3 (by simp))
      rw [l0 o5, Option.bind_some, show (1 : Int) = ((1 : Nat) : Int) from rfl, p42 (n + 9) (by omega), Option.bind_some]
      simp only
      rw [show pathedP 1 = false from rfl, cond_false, l0 o5, Option.bind_some, show ((1 : Int) == 7) = false from rfl, cond_false]
      refine ⟨u3, H5, rfl, ?_, k5⟩
      have e : encP (rS a) = (([1] ++ textI [110]) ++ textI []) ++ textsI (List.replicate a [114]) := by
        unfold encP rS
        simp only [if_true]
        rw [show pathedP 1 = false from rfl]
        simp
        rfl
      rw [e]
      exact i2.isE
    obtain ⟨s', H', a1, a2, a3⟩ := main
    exact ⟨s', H', callD_sl (by rw [vF_open rfl hop]; exact a1), a2, a3⟩
theorem c15r (n : Nat) (hn : 70000 ≤ n) {H : VH} {so : VS} {es : List (List V)} (hs : Hr H 34 4 so es) (hes : es.length ≤ 6) (hy : ∀ y ∈ es, ∃ sr sn a ns, OO H y sr sn a ns) : ∃ s' H' l, V.callD (vF P tab (n + 11)) P false (.one (.flat (.slice 5))) 15 [.agg [.int .u8 7, .str ⟨#[]⟩, .str ⟨#[]⟩, .sl 5 .nil, .sl 9 .nil, .sl 34 so]] H = some (s', H') ∧ IsB s' l ∧ l.length < 1000000 := by
  rcases hs.2 with ⟨rfl, h0⟩ | ⟨j, pre, post, hsr, hj⟩
  · obtain ⟨s', b1, b2⟩ := e15 n hn (r := ⟨7, [], [], [], [], []⟩) ⟨by decide, by decide, by decide, by decide, by decide, by decide, by decide, fun o ho => by cases ho⟩ (s3 := .nil) (s4 := .nil) (s5 := .nil) ⟨.nil, .nil, [], .nil, .nil⟩ H
    exact ⟨s', H, _, b1, b2, by decide⟩
  · have hop : List.all [V.agg [.int .u8 7, .str ⟨#[]⟩, .str ⟨#[]⟩, .sl 5 .nil, .sl 9 .nil, .sl 34 so]] closedC = false := by rw [hsr]; rfl
    have main : ∃ s' H' l, bodyV P tab (vF P tab (n + 10)) (n + 10) 15 [.agg [.int .u8 7, .str ⟨#[]⟩, .str ⟨#[]⟩, .sl 5 .nil, .sl 9 .nil, .sl 34 so]] H = some (.sl 5 s', H') ∧ IsB s' l ∧ l.length < 1000000 := by
      rw [f15_eq]
      obtain ⟨H1, e1⟩ : ∃ H1 : VH, H1 = H ++ [.row (31 + boxK) [.int .u8 7, .str ⟨#[]⟩, .str ⟨#[]⟩, .sl 5 .nil, .sl 9 .nil, .sl 34 so]] := ⟨_, rfl⟩
      rw [← e1]
      have k1 : Kp H H1 [] := by rw [e1]; exact Kp.app _ _
      have h0 : H1[H.length]? = some (.row QT [.int .u8 7, .str ⟨#[]⟩, .str ⟨#[]⟩, .sl 5 .nil, .sl 9 .nil, .sl 34 so]) := by rw [e1]; exact row_new _ _ _
      obtain ⟨k, hk⟩ : ∃ k, k = H.length := ⟨_, rfl⟩
      rw [← hk] at h0 ⊢
      have l0 : ldV (.flat (.int .u8)) H1 (.ob k 0) = some 7 := by rw [ld_row h0]; exact fd_int .u8 _
      rw [l0, Option.bind_some, Option.bind_some, show ((7 : Int) == 1) = false from rfl, cond_false, Option.bind_some]
      have hp := p42 (n + 9) (H := H1) (k := 7) (by omega)
      rw [show ((7 : Nat) : Int) = 7 from rfl, show pathedP 7 = false from rfl] at hp
      rw [hp, Option.bind_some]
      simp only
      rw [cond_false, l0, Option.bind_some, show ((7 : Int) == 7) = true from rfl, cond_true]
      have l5 : ldV (.flat (.slice 34)) H1 (.ob k 5) = some so := by rw [ld_row h0]; exact fd_sl 34 so
      rw [l5, Option.bind_some]
      have hA : Aq H1 5 (.fz [[.int .u8 7]] (.ex 1)) (bs [7]) := .lit (bs [7])
      obtain ⟨u1, H2, b1, b2, b3, b4, b5⟩ := ab hA (one_b ((so.len : Nat) : Int)) (by simp)
      rw [b1, Option.bind_some]
      simp only
      have r2 := (kp_rx k1).trans b3
      obtain ⟨s', H', l, c1, c2, c3⟩ := l15o (n + 7) (by omega) hes (n + 10) 0 (b3 _ _ _ h0) (hr_rx hs r2) (fun y hm => by
        obtain ⟨sr, sn, a, ns, h⟩ := hy y hm
        exact ⟨sr, sn, a, ns, h.rx r2⟩) b2 (by simp) (by omega) (by omega)
      rw [show ((0 : Nat) : Int) = 0 from rfl] at c1
      exact ⟨s', H', l, c1, c2, c3⟩
    obtain ⟨s', H', l, a1, a2, a3⟩ := main
    exact ⟨s', H', l, callD_sl (by rw [vF_open rfl hop]; exact a1), a2, a3⟩
theorem decS : ∀ a, a < 20 → (((decP (encP (rS a))).2 : Int) == 0) = decide (((a : Nat) : Int) ≤ 16) := by decide
theorem encS : ∀ a, a < 20 → (encP (rS a)).length < 1000000 := by decide
end Go.Proofs.YtcnigofmjffamaaDoor
