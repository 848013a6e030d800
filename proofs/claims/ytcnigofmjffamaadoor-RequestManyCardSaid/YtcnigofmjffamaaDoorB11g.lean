import Derived.Test.YtcnigofmjffamaaDoorB11f
set_option maxRecDepth 100000
set_option linter.unusedVariables false
set_option linter.unusedSimpArgs false
namespace Go.Proofs.YtcnigofmjffamaaDoor
open Go.Proofs.YtcnigofmjffamaaDoor.Sh Go.Proofs.YtcnigofmjffamaaDoor.Sh.V Go.RowKit
theorem stR {H : VH} {T : TypeId} {j : Nat} {cs : List V} (h : H[j]? = some (.row T cs)) (off : Nat) (v : V) (hl : off + 1 ≤ cs.length) (h1 : onesV [v] = true) : ∃ H', stV H (.ob j off) [v] = some H' ∧ H'[j]? = some (.row T (putAllV cs off [v])) ∧ Kp H H' [j] :=
  ⟨_, st_row h hl h1, by rw [List.getElem?_set_self (lt_of_ob h)], Kp.set _ _ _⟩
noncomputable def tl31 (n k i j : Nat) (H : VH) : VRes :=
  (callD (vF P tab n) P false (.one (.flat .bool)) 72 [.ptr (.ob k 0)] H).bind fun r44 =>
    (cond (!r44.1)
      ((stV r44.2 (.ob i 0) [.int .u8 0, .str ⟨#[]⟩, .str ⟨#[]⟩, .sl 5 .nil, .sl 9 .nil, .sl 34 .nil]).bind fun h45 =>
        (((ldV AG6 h45 (.ob i 0)).bind fun x46 =>
        some (.tup [.agg [.int .u8 x46.1, .str x46.2.1, .str x46.2.2.1, .sl 5 x46.2.2.2.1, .sl 9 x46.2.2.2.2.1, .sl 34 x46.2.2.2.2.2.1], .int .i64 2], h45))))
      ((ldV AG6 r44.2 (.ob j 0)).bind fun x47 =>
        ((stV r44.2 (.ob i 0) [.int .u8 x47.1, .str x47.2.1, .str x47.2.2.1, .sl 5 x47.2.2.2.1, .sl 9 x47.2.2.2.2.1, .sl 34 x47.2.2.2.2.2.1]).bind fun h48 =>
        (((ldV AG6 h48 (.ob i 0)).bind fun x49 =>
        some (.tup [.agg [.int .u8 x49.1, .str x49.2.1, .str x49.2.2.1, .sl 5 x49.2.2.2.1, .sl 9 x49.2.2.2.2.1, .sl 34 x49.2.2.2.2.2.1], .int .i64 0], h48))))))
theorem fin31 (n : Nat) {H : VH} {k i j : Nat} {s : RdS} {cs cs0 : List V} {r : PR} (hl : cs0.length = 6) (hi : H[i]? = some (.row QT cs0)) (hj : H[j]? = some (.row QT cs)) (hV : ReqV cs r) (hR : RI H k s) :
    ∃ cs' H', tl31 (n + 1) k i j H = some (.tup [.agg cs', .int .i64 ((finP r s).2 : Int)], H') ∧ ReqV cs' (finP r s).1 := by
  unfold tl31
  rw [p72 n hR, Option.bind_some]
  obtain ⟨s3, s4, s5, es, rfl, h3, h4, h5, h6⟩ := hV
  simp only
  unfold finP
  by_cases he : endS s.1 s.2 = 0
  · rw [if_pos he, he]
    rw [show (!((0 : Nat) == 0)) = false from rfl, cond_false, ld_q hj, Option.bind_some]
    obtain ⟨H', h⟩ := put14 hl hi 0 (r.kind : Int) ⟨r.root.toArray⟩ ⟨r.path.toArray⟩ s3 s4 s5
    exact ⟨_, H', h, s3, s4, s5, es, rfl, h3, h4, h5, h6⟩
  · rw [if_neg he]
    have : (!(endS s.1 s.2 == 0)) = true := by simp [he]
    rw [this, cond_true]
    obtain ⟨H', h⟩ := zero14 hl hi 2
    exact ⟨_, H', h, ReqV.zero⟩
def outsR (n idx : Nat) (s : RdS) (acc : List PO) : PR × Nat :=
  match (outsL n idx s acc).1 with
  | none => (PR0, 2)
  | some l => finP ⟨7, [], [], [], [], l⟩ (outsL n idx s acc).2
theorem l310 (n : Nat) (hn : 500 ≤ n) {H0 : VH} {k i j : Nat} (c : Nat) (hc : c ≤ 4)
    (hk : k < H0.length) (hi : i < H0.length) (hj0 : j < H0.length) (d1 : i ≠ k) (d2 : i ≠ j) (d3 : k ≠ j) {cs0 : List V} (hl0 : cs0.length = 6) :
    ∀ (m idx : Nat) {H : VH} {s : RdS} {s5 : VS} {es : List (List V)} {acc : List PO}, RI H k s → H[i]? = some (.row QT cs0) → H[j]? = some (.row QT [.int .u8 7, .str ⟨#[]⟩, .str ⟨#[]⟩, .sl 5 .nil, .sl 9 .nil, .sl 34 s5]) →
      Ap H 34 s5 es → OutsV es acc → (∀ t ∈ toks s5, H0.length ≤ t ∧ t < H.length) → H0.length ≤ H.length → acc.length = idx → idx ≤ c → c < idx + m →
      ∃ cs H', L31_0 (n + 14) m i k j (c : Int) (idx : Int) H = some (.tup [.agg cs, .int .i64 ((outsR (c - idx) idx s acc).2 : Int)], H') ∧ ReqV cs (outsR (c - idx) idx s acc).1 := by
  intro m
  induction m with
  | zero => intro idx H s s5 es acc _ _ _ _ _ _ _ _ a b; omega
  | succ m ih =>
    intro idx H s s5 es acc hR hI hJ hA hV hT hle ha hj1 hj2
    rw [L31_0_eq]
    by_cases hj : idx < c
    · rw [decide_eq_true (by omega), cond_true]
      obtain ⟨o, ho⟩ : ∃ o, o = H.length := ⟨_, rfl⟩
      rw [← ho]
      have kA := Kp.app H [VO.row OT [.str ⟨#[]⟩, .sl 5 .nil, .sl 9 .nil, .sl 3 .nil]]
      have hO0 : (H ++ [VO.row OT [.str ⟨#[]⟩, .sl 5 .nil, .sl 9 .nil, .sl 3 .nil]])[o]? = some (.row OT [.str ⟨#[]⟩, .sl 5 .nil, .sl 9 .nil, .sl 3 .nil]) := by rw [ho]; simp
      have nok : o ∉ [k] := by simp; omega
      have nko : k ∉ [o] := by simp; omega
      have zz : ∀ {Y : List Nat} (x : Nat), x < H.length → x ≠ k → x ∉ [k, o] := fun x h1 h2 => by simp [h2]; omega
      obtain ⟨H1, a1, a2, a3, _⟩ := p70 (n + 11) (hR.keep kA (by simp)) (by omega)
      rw [a1, Option.bind_some]
      simp only
      obtain ⟨H2, b1, b2, b3⟩ := stR (a3.ob hO0 nok) 0 (.str ⟨(TX s).1.toArray⟩) (by simp) rfl
      rw [b1, Option.bind_some]
      obtain ⟨H3, c1, c2, c3, _⟩ := p70 (n + 11) (a2.keep b3 nko) (by omega)
      rw [c1, Option.bind_some]
      simp only
      obtain ⟨H4, e1, e2, e3⟩ := stR (c3.ob b2 nok) 1 (.sl 5 (.fz (bytesE ⟨(TX (TX s).2).1.toArray⟩) .no)) (Nat.le_of_ble_eq_true rfl) rfl
      rw [e1, Option.bind_some]
      obtain ⟨s2, H5, f1, f2, f3, f4⟩ := p71 (n + 10) (c2.keep e3 nko) (by omega)
      rw [f1, Option.bind_some]
      simp only
      obtain ⟨H6, g1, g2, g3⟩ := stR (f4.ob e2 nok) 2 (.sl 9 s2) (Nat.le_of_ble_eq_true rfl) rfl
      rw [g1, Option.bind_some]
      obtain ⟨H7, i1, i2, i3, _⟩ := p68 (n + 12) (f3.keep g3 nko) (by omega)
      rw [i1, Option.bind_some]
      simp only
      have kp7 : Kp H H7 [k, o] := by
        have w1 := kA.trans a3 (Z := [k, o]) (fun x hx _ => by cases hx) (fun y hy _ => by simp at hy; simp [hy])
        have w2 := w1.trans b3 (Z := [k, o]) (fun x hx _ => hx) (fun y hy _ => by simp at hy; simp [hy])
        have w3 := w2.trans c3 (Z := [k, o]) (fun x hx _ => hx) (fun y hy _ => by simp at hy; simp [hy])
        have w4 := w3.trans e3 (Z := [k, o]) (fun x hx _ => hx) (fun y hy _ => by simp at hy; simp [hy])
        have w5 := w4.trans f4 (Z := [k, o]) (fun x hx _ => hx) (fun y hy _ => by simp at hy; simp [hy])
        have w6 := w5.trans g3 (Z := [k, o]) (fun x hx _ => hx) (fun y hy _ => by simp at hy; simp [hy])
        exact w6.trans i3 (Z := [k, o]) (fun x hx _ => hx) (fun y hy _ => by simp at hy; simp [hy])
      have hI7 := kp7.ob hI (by simp [d1]; omega)
      have hJ7 := kp7.ob hJ (by simp [Ne.symm d3]; omega)
      have hO7 := i3.ob g2 nok
      have hA7 := hA.keep kp7 (fun t ht => by have := hT t ht; simp; omega)
      have hlt := T1_lt (TS 16 (TX (TX s).2).2).2
      obtain ⟨d, hd⟩ : ∃ d : Nat × RdS, d = T1 (TS 16 (TX (TX s).2).2).2 := ⟨_, rfl⟩
      rw [← hd] at hlt i2 ⊢
      have hw : IntKind.wrap .i64 ((d.1 : Nat) : Int) = (d.1 : Int) := i64_nat (by omega)
      rw [hw]
      have q1 : c - idx = (c - (idx + 1)) + 1 := by omega
      have hout : outS idx s = if 4 ≤ d.1 then (⟨(TX s).1, (TX (TX s).2).1, (TS 16 (TX (TX s).2).2).1, []⟩, false, d.2) else (⟨(TX s).1, (TX (TX s).2).1, (TS 16 (TX (TX s).2).2).1, (needsS d.1 d.2 []).1⟩, (needsS d.1 d.2 []).1.all (fun x => decide (x < idx)), (needsS d.1 d.2 []).2) := by rw [hd]; rfl
      have hstep : outsL (c - idx) idx s acc = if (outS idx s).2.1 = true then outsL (c - (idx + 1)) (idx + 1) (outS idx s).2.2 (acc ++ [(outS idx s).1]) else (none, (outS idx s).2.2) := by rw [q1]; rfl
      have bad : (outS idx s).2.1 = false → outsR (c - idx) idx s acc = (PR0, 2) := by
        intro h; unfold outsR; rw [hstep, h]; rfl
      by_cases h4 : 4 ≤ d.1
      · rw [decide_eq_true (by omega), cond_true]
        rw [bad (by rw [hout, if_pos h4])]
        obtain ⟨H', h⟩ := zero14 hl0 hI7 2
        exact ⟨_, H', h, ReqV.zero⟩
      · rw [decide_eq_false (by omega), cond_false]
        rw [if_neg h4] at hout
        have hl7 := kp7.len
        have hlo := lt_of_ob hO7
        rcases l311 n hn (H0 := H7) (cc := (c : Int)) (nm := (TX s).1) (s1 := .fz (bytesE ⟨(TX (TX s).2).1.toArray⟩) .no) (s2 := s2) (idx := idx) d.1 (by omega) m (by omega) (by omega) hlo d1 (by omega) (by omega) hl0 (n + 14) 0 i2 hI7 hO7 (show Ap H7 3 .nil (ns []) from .nil) (fun t ht => by cases ht) (Kp.refl _ _) rfl (by omega) (by omega) rfl with ⟨z1, H', z2⟩ | ⟨z1, m', sv, H8, z2, z3, z4, z5, z6⟩
        · rw [Nat.sub_zero] at z1
          rw [bad (by rw [hout]; exact z1)]
          exact ⟨_, H', z2, ReqV.zero⟩
        · rw [Nat.sub_zero] at z1 z3 z5
          have z2' : L31_1 (n + 14) m (n + 14) i k j (c : Int) (idx : Int) o (d.1 : Int) 0 H7 = L31_1 (n + 14) m (m' + 1) i k j (c : Int) (idx : Int) o (d.1 : Int) (d.1 : Int) H8 := z2
          rw [z2', L31_1_eq, decide_eq_false (by omega), cond_false]
          have hJ8 := z6.ob hJ7 (by simp [Ne.symm d3]; omega)
          have hI8 := z6.ob hI7 (by simp [d1]; omega)
          have hA8 := hA7.keep z6 (fun t ht => by have := hT t ht; simp; omega)
          have l5 : ldV (.flat (.slice 34)) H8 (.ob j 5) = some s5 := by rw [ld_row hJ8]; exact fd_sl 34 s5
          rw [l5, Option.bind_some, ld_o z4, Option.bind_some]
          simp only
          have hz1 : IsB (.fz (bytesE ⟨(TX (TX s).2).1.toArray⟩) .no) (TX (TX s).2).1 := .fz _ _
          have hcl : List.all [V.str ⟨(TX s).1.toArray⟩, .sl 5 (.fz (bytesE ⟨(TX (TX s).2).1.toArray⟩) .no), .sl 9 s2, .sl 3 sv] closed1 = true := by
            have q2 := hz1.closed 5
            have q3 := f2.closed 9
            have q4 := z5.closed 3
            simp only [List.all_cons, List.all_nil, q2, q3, q4]; rfl
          rw [if_pos hcl]
          have hlen := hV.len
          have tk8 : ∀ t ∈ toks s5, t ≠ k ∧ t ≠ i ∧ t ≠ j := fun t ht => by have := hT t ht; omega
          have hO : OutV [.str ⟨(TX s).1.toArray⟩, .sl 5 (.fz (bytesE ⟨(TX (TX s).2).1.toArray⟩) .no), .sl 9 s2, .sl 3 sv] (outS idx s).1 := by
            rw [hout]; exact ⟨_, _, _, rfl, hz1, f2, z5⟩
          have hOs := hO.strip
          obtain ⟨s5', H9, y1, y2, y3, y4, _⟩ := hA8.app (sz := 4) (by_ := 88) (x := .fz [[.str ⟨(TX s).1.toArray⟩, .sl 5 (VS.strip (.fz (bytesE ⟨(TX (TX s).2).1.toArray⟩) .no)), .sl 9 s2.strip, .sl 3 sv.strip]] (.ex 1)) (news := [[.str ⟨(TX s).1.toArray⟩, .sl 5 (VS.strip (.fz (bytesE ⟨(TX (TX s).2).1.toArray⟩) .no)), .sl 9 s2.strip, .sl 3 sv.strip]]) (.fz _ _) (by simp [bound]; omega) (by simp [bound]; omega)
          rw [y1, Option.bind_some]
          simp only
          have hJ9 := y3.ob hJ8 (fun h => (tk8 j h).2.2 rfl)
          have hI9 := y3.ob hI8 (fun h => (tk8 i h).2.1 rfl)
          have hR9 := z3.keep y3 (fun h => (tk8 k h).1 rfl)
          obtain ⟨H10, x1, x2, x3⟩ := stR hJ9 5 (.sl 34 s5') (by simp) rfl
          rw [x1, Option.bind_some, inc_nat (by omega)]
          have l8 := z6.len
          have l9 := y3.len
          have l10 := x3.len
          have tk9 : ∀ t ∈ toks s5', H0.length ≤ t ∧ t < H10.length := fun t ht => by
            have b1 : t < H9.length := by obtain ⟨_, hg⟩ := y2.tok_at ht; exact lt_of_ob hg
            rcases y4 t ht with h | h
            · have := hT t h; omega
            · omega
          have good : outsR (c - idx) idx s acc = outsR (c - (idx + 1)) (idx + 1) (outS idx s).2.2 (acc ++ [(outS idx s).1]) := by
            unfold outsR; rw [hstep, if_pos (by rw [hout]; exact z1)]
          rw [good]
          have hs2 : (outS idx s).2.2 = (needsS d.1 d.2 []).2 := by rw [hout]
          rw [hs2]
          exact ih (idx + 1) (hR9.keep x3 (by simp [d3])) (x3.ob hI9 (by simp [d2])) x2 (y2.keep x3 (fun t ht => by have := tk9 t ht; simp; omega)) (hV.snoc hOs) tk9 (by omega) (by simp [ha]) (by omega) (by omega)
    · have hjc : idx = c := by omega
      subst hjc
      rw [decide_eq_false (by omega), cond_false, Nat.sub_self]
      have e0 : outsR 0 idx s acc = finP ⟨7, [], [], [], [], acc⟩ s := rfl
      rw [e0]
      exact fin31 (n + 13) (r := ⟨7, [], [], [], [], acc⟩) hl0 hI hJ ⟨.nil, .nil, s5, es, rfl, .nil, .nil, hA.isE, hV⟩ hR
end Go.Proofs.YtcnigofmjffamaaDoor
