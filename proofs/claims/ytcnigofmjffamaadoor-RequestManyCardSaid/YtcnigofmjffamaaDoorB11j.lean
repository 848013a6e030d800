import Derived.Test.YtcnigofmjffamaaDoorB11i
set_option maxRecDepth 100000
set_option linter.unusedVariables false
set_option linter.unusedSimpArgs false
namespace Go.Proofs.YtcnigofmjffamaaDoor
open Go.Proofs.YtcnigofmjffamaaDoor.Sh Go.Proofs.YtcnigofmjffamaaDoor.Sh.V Go.RowKit
theorem hO_fz (y : List V) (l : List V.FT) (vs : List V) : heldOf (.fz y) l vs = [] := rfl
theorem hj_nil (b : Held) : V.hj [] b = b := rfl
theorem hj_one (a : VP × V.FT × V) (b : Held) : V.hj [a] b = a :: b := rfl
theorem ld_fz {H : VH} {a : ByteArray} {s1 s2 s3 : VS} : ldV (.agg [.str, .slice 5, .slice 9, .slice 3]) H (.fz [.str a, .sl 5 s1, .sl 9 s2, .sl 3 s3]) = some (a, s1, s2, s3, ()) := by
  simp only [ldV]
  have : takeN 0 [V.FT.str, V.FT.slice 5, V.FT.slice 9, V.FT.slice 3].length [.str a, .sl 5 s1, .sl 9 s2, .sl 3 s3] = some [.str a, .sl 5 s1, .sl 9 s2, .sl 3 s3] := rfl
  rw [this, Option.bind_some]
  simp only [V.decs, fd_str, fd_sl, Option.bind_some, Option.map_some]
theorem OutsV.at {es : List (List V)} {l : List PO} (h : OutsV es l) : ∀ {j : Nat} {o : PO}, l[j]? = some o → ∃ c, es[j]? = some c ∧ OutV c o := by
  induction h with
  | nil => intro j o h; simp at h
  | cons a b ih =>
    intro j o h
    cases j with
    | zero => simp at h; subst h; exact ⟨_, rfl, a⟩
    | succ j => simp at h; obtain ⟨c, h1, h2⟩ := ih h; exact ⟨c, by simpa using h1, h2⟩
theorem l230 (n : Nat) (hn : 70000 ≤ n) {p q : Nat} {l : List PO} (hl : l.length ≤ 4) (hok : ∀ o ∈ l, POok o) {sp sq : VS} {ep eq : List (List V)} (h1 : IsE sp ep) (h2 : IsE sq eq) (v1 : OutsV ep l) (v2 : OutsV eq l) :
    ∀ (m j : Nat) {H : VH}, ldV (.flat (.slice 34)) H (.ob p 5) = some sp → ldV (.flat (.slice 34)) H (.ob q 5) = some sq → (∀ H', Kp H H' [] → ldV (.flat (.slice 34)) H' (.ob p 5) = some sp ∧ ldV (.flat (.slice 34)) H' (.ob q 5) = some sq) → j ≤ l.length → l.length < j + m →
      ∃ H', L23_0 (n + 1) m p q (j : Int) H = some (.bool true, H') := by
  intro m
  induction m with
  | zero => intro j H _ _ _ a b; omega
  | succ m ih =>
    intro j H hp hq hkp hj1 hj2
    rw [L23_0_eq, hp, Option.bind_some, h1.len, v1.len]
    by_cases hj : j < l.length
    · rw [decide_eq_true (by omega), cond_true]
      obtain ⟨o, ho⟩ := get_of hj
      obtain ⟨c1, c2, c3⟩ := v1.at ho
      obtain ⟨d1, d2, d3⟩ := v2.at ho
      obtain ⟨a1, a2, a3, rfl, a5, a6, a7⟩ := c3
      obtain ⟨b1, b2, b3, rfl, b5, b6, b7⟩ := d3
      obtain ⟨k1, k2, k3⟩ := hok o (List.mem_of_getElem? ho)
      have kS := Kp.app H [VO.slot, VO.slot]
      rw [(hkp _ kS).1, Option.bind_some, h1.ix c2 4, Option.bind_some, ld_fz, Option.bind_some]
      rw [(hkp _ kS).2, Option.bind_some, h2.ix d2 4, Option.bind_some, ld_fz, Option.bind_some]
      simp only [hO_fz, hj_nil, hj_one]
      have st2 : ∀ H', Kp H H' [] → V.stays H' [(.ob q 5, .slice 34, .sl 34 sq), (.ob p 5, .slice 34, .sl 34 sp)] = true := fun H' k => by
        rw [stays_c_sl (hkp _ k).2, stays_c_sl (hkp _ k).1]; rfl
      have st1 : ∀ H', Kp H H' [] → V.stays H' [(.ob q 5, .slice 34, .sl 34 sq)] = true := fun H' k => by
        rw [stays_c_sl (hkp _ k).2]; rfl
      rw [st2 _ kS, cond_true]
      have s0 : (H ++ [VO.slot, VO.slot])[H.length]? = some .slot := by simp
      rw [slotD_of s0, Option.bind_some]
      obtain ⟨H8, e8⟩ : ∃ H8 : VH, H8 = (H ++ [VO.slot, VO.slot]).set H.length (.row (34 + boxK) [.str ⟨#[]⟩, .sl 5 .nil, .sl 9 .nil, .sl 3 .nil]) := ⟨_, rfl⟩
      rw [← e8]
      have k8 : Kp H H8 [] := by
        rw [e8]; exact ⟨by simp, fun i hi _ => by rw [List.getElem?_set_ne (by omega), List.getElem?_append_left hi]⟩
      have hr8 : H8[H.length]? = some (.row OT [.str ⟨#[]⟩, .sl 5 .nil, .sl 9 .nil, .sl 3 .nil]) := by rw [e8, List.getElem?_set_self (by simp)]
      have hs8 : H8[H.length + 1]? = some .slot := by rw [e8, List.getElem?_set_ne (by omega)]; simp
      rw [st2 _ k8, cond_true, slotD_of hs8, Option.bind_some]
      obtain ⟨H9, e9⟩ : ∃ H9 : VH, H9 = H8.set (H.length + 1) (.row (34 + boxK) [.str ⟨#[]⟩, .sl 5 .nil, .sl 9 .nil, .sl 3 .nil]) := ⟨_, rfl⟩
      rw [← e9]
      have k9 : Kp H H9 [] := by rw [e9]; exact k8.trans (Kp.set _ _ _) (fun x hx _ => hx) (fun y hy hl => by simp at hy; omega)
      have hr9 : H9[H.length]? = some (.row OT [.str ⟨#[]⟩, .sl 5 .nil, .sl 9 .nil, .sl 3 .nil]) := by rw [e9, List.getElem?_set_ne (by omega)]; exact hr8
      have hs9 : H9[H.length + 1]? = some (.row OT [.str ⟨#[]⟩, .sl 5 .nil, .sl 9 .nil, .sl 3 .nil]) := by rw [e9, List.getElem?_set_self (lt_of_ob hs8)]
      rw [st_row hr9 (by simp) rfl, Option.bind_some]
      obtain ⟨H10, e10⟩ : ∃ H10 : VH, H10 = List.set H9 H.length (.row OT (putAllV [.str ⟨#[]⟩, .sl 5 .nil, .sl 9 .nil, .sl 3 .nil] 0 [.str ⟨o.name.toArray⟩, .sl 5 a1, .sl 9 a2, .sl 3 a3])) := ⟨_, rfl⟩
      rw [← e10]
      have k10 : Kp H H10 [] := by rw [e10]; exact k9.trans (Kp.set _ _ _) (fun x hx _ => hx) (fun y hy hl => by simp at hy; omega)
      have hr10 : H10[H.length]? = some (.row OT [.str ⟨o.name.toArray⟩, .sl 5 a1, .sl 9 a2, .sl 3 a3]) := by rw [e10, List.getElem?_set_self (lt_of_ob hr9)]; rfl
      have hs10 : H10[H.length + 1]? = some (.row OT [.str ⟨#[]⟩, .sl 5 .nil, .sl 9 .nil, .sl 3 .nil]) := by rw [e10, List.getElem?_set_ne (by omega)]; exact hs9
      rw [st1 _ k10, cond_true, st_row hs10 (by simp) rfl, Option.bind_some]
      obtain ⟨H11, e11⟩ : ∃ H11 : VH, H11 = List.set H10 (H.length + 1) (.row OT (putAllV [.str ⟨#[]⟩, .sl 5 .nil, .sl 9 .nil, .sl 3 .nil] 0 [.str ⟨o.name.toArray⟩, .sl 5 b1, .sl 9 b2, .sl 3 b3])) := ⟨_, rfl⟩
      rw [← e11]
      have k11 : Kp H H11 [] := by rw [e11]; exact k10.trans (Kp.set _ _ _) (fun x hx _ => hx) (fun y hy hl => by simp at hy; omega)
      have hr : H11[H.length]? = some (.row OT [.str ⟨o.name.toArray⟩, .sl 5 a1, .sl 9 a2, .sl 3 a3]) := by rw [e11, List.getElem?_set_ne (by omega)]; exact hr10
      have hs : H11[H.length + 1]? = some (.row OT [.str ⟨o.name.toArray⟩, .sl 5 b1, .sl 9 b2, .sl 3 b3]) := by rw [e11, List.getElem?_set_self (lt_of_ob hs10)]; rfl
      rw [ld_o0 hr, Option.bind_some, ld_o0 hs, Option.bind_some, strEq_self, Bool.not_true, cond_false]
      rw [ld_o1 hr, Option.bind_some, ld_o1 hs, Option.bind_some, callD_bool (e18 n a5 b5 (by rw [maxLen_eq]; omega) (by omega)), Option.bind_some]
      simp only [decide_true, Bool.not_true, cond_false]
      rw [ld_o2 hr, Option.bind_some, ld_o2 hs, Option.bind_some, callD_bool (e55 n a6 b6 (by omega) (by omega)), Option.bind_some]
      simp only [Bool.not_true, cond_false]
      rw [ld_o3 hr, Option.bind_some, ld_o3 hs, Option.bind_some, callD_bool (e56 n a7 b7 (by omega) (by omega)), Option.bind_some]
      simp only [Bool.not_true, cond_false]
      rw [inc_nat (by omega)]
      exact ih (j + 1) (hkp _ k11).1 (hkp _ k11).2 (fun H' k => hkp _ (k11.trans k (fun x hx _ => hx) (fun y hy _ => hy))) (by omega) (by omega)
    · rw [decide_eq_false (by omega), cond_false]
      exact ⟨_, rfl⟩
end Go.Proofs.YtcnigofmjffamaaDoor
