import Derived.Test.YtlkpgimhcnmblaaB09f
set_option maxRecDepth 100000
set_option linter.unusedVariables false
set_option linter.unusedSimpArgs false
namespace Go.Proofs.Ytlkpgimhcnmblaa
open Go.Proofs.Ytlkpgimhcnmblaa.Sh Go.Proofs.Ytlkpgimhcnmblaa.Sh.V Go.RowKit
/-! ### The reference: rows in a list -/
abbrev RT : TypeId := 50 + boxK
abbrev Rw := List (Key × Int)
def rws (l : Rw) : List (List V) := l.map fun p => [sk p.1, .int .i64 p.2]
theorem rws_len (l : Rw) : (rws l).length = l.length := by simp [rws]
theorem rws_get {l : Rw} {i : Nat} {x : Key × Int} (h : l[i]? = some x) : (rws l)[i]? = some [sk x.1, .int .i64 x.2] := by simp [rws, h]
theorem rws_app (a b : Rw) : rws (a ++ b) = rws a ++ rws b := by simp [rws]
def IsR (s : VS) (l : Rw) : Prop := IsE s (rws l)
def WsOK (es : List (List V)) (ws : List Rw) : Prop := es.length = ws.length ∧ ∀ (i : Nat) (w : Rw), ws[i]? = some w → ∃ v : VS, es[i]? = some [.sl 83 v] ∧ IsR v w
def IsW (s : VS) (ws : List Rw) : Prop := ∃ es, IsE s es ∧ WsOK es ws
theorem WsOK.app {es : List (List V)} {ws : List Rw} (h : WsOK es ws) {x : Rw} {v : VS} (hv : IsR v x) : WsOK (es ++ [[.sl 83 v]]) (ws ++ [x]) := by
  obtain ⟨h1, h2⟩ := h
  refine ⟨by simp [h1], fun i y hy => ?_⟩
  by_cases c : i < ws.length
  · rw [List.getElem?_append_left c] at hy
    obtain ⟨w', a, b⟩ := h2 i y hy
    exact ⟨w', by rw [List.getElem?_append_left (by omega)]; exact a, b⟩
  · rw [List.getElem?_append_right (by omega)] at hy
    have e : i - ws.length = 0 := by
      obtain ⟨q, _⟩ := List.getElem?_eq_some_iff.1 hy
      simp at q; omega
    rw [e] at hy
    simp only [List.getElem?_cons_zero, Option.some.injEq] at hy
    subst hy
    exact ⟨v, by rw [List.getElem?_append_right (by omega), h1, e]; rfl, hv⟩
theorem WsOK.cut {es : List (List V)} {ws : List Rw} (h : WsOK es ws) (c : Nat) : WsOK (es.take c) (ws.take c) := by
  obtain ⟨h1, h2⟩ := h
  refine ⟨by simp [h1], fun i y hy => ?_⟩
  rw [List.getElem?_take] at hy ⊢
  split at hy
  · rename_i hlt
    obtain ⟨v, a, b⟩ := h2 i y hy
    rw [if_pos hlt]
    exact ⟨v, a, b⟩
  · cases hy
theorem IsW.len {s : VS} {ws : List Rw} (h : IsW s ws) : s.len = ws.length := by
  obtain ⟨es, h1, h2⟩ := h
  rw [h1.len, h2.1]
theorem IsR.len {s : VS} {l : Rw} (h : IsR s l) : s.len = l.length := by rw [IsE.len h, rws_len]
theorem IsW.strip {s : VS} {ws : List Rw} (h : IsW s ws) : IsW s.strip ws := by
  obtain ⟨es, h1, h2⟩ := h
  exact ⟨es, h1.strip, h2⟩
theorem IsR.strip {s : VS} {l : Rw} (h : IsR s l) : IsR s.strip l := IsE.strip h
theorem IsW.closed {s : VS} {ws : List Rw} (h : IsW s ws) : closed1 (.sl 47 s) = true := h.choose_spec.1.closed 47
theorem IsR.closed {s : VS} {l : Rw} (h : IsR s l) : closed1 (.sl 83 s) = true := IsE.closed h 83
section
variable {H : VH} {i : Nat} {a b : VS}
theorem ld_ab (h : H[i]? = some (.row RT [.sl 83 a, .sl 47 b])) : ldV (.agg [.slice 83, .slice 47]) H (.ob i 0) = some (a, b, ()) := by
  show ((rowV H i).bind fun cs => takeN 0 2 cs).bind (decs [.slice 83, .slice 47]) = _
  unfold rowV
  rw [h]; rfl
theorem ld_a (h : H[i]? = some (.row RT [.sl 83 a, .sl 47 b])) : ldV (.flat (.slice 83)) H (.ob i 0) = some a := by rw [ld_row h]; rfl
theorem ld_b (h : H[i]? = some (.row RT [.sl 83 a, .sl 47 b])) : ldV (.flat (.slice 47)) H (.ob i 1) = some b := by rw [ld_row h]; rfl
theorem st_a (h : H[i]? = some (.row RT [.sl 83 a, .sl 47 b])) (r : Held) : V.stays H ((.ob i 0, .slice 83, .sl 83 a) :: r) = V.stays H r := by
  have := stays_sl (ld_a h)
  rw [stays_cons, stays_nil, Bool.and_true] at this
  rw [stays_cons, this, Bool.true_and]
theorem st_b (h : H[i]? = some (.row RT [.sl 83 a, .sl 47 b])) (r : Held) : V.stays H ((.ob i 1, .slice 47, .sl 47 b) :: r) = V.stays H r := by
  have := stays_sl (ld_b h)
  rw [stays_cons, stays_nil, Bool.and_true] at this
  rw [stays_cons, this, Bool.true_and]
theorem st_ab (h : H[i]? = some (.row RT [.sl 83 a, .sl 47 b])) (c d : VS) : stV H (.ob i 0) [.sl 83 c, .sl 47 d] = some (H.set i (.row RT [.sl 83 c, .sl 47 d])) := st_row h (by simp) rfl
theorem st_at (h : H[i]? = some (.row RT [.sl 83 a, .sl 47 b])) (x : VO) : (H.set i x)[i]? = some x := List.getElem?_set_self (lt_of_ob h)
end
theorem at_r0 (k : Key) (v : Int) : atO (.fz [sk k, .int .i64 v]) 0 = some (.fz [sk k, .int .i64 v]) := rfl
theorem ld_r0 (k : Key) (v : Int) (H : VH) : ldV (.flat .str) H (.fz [sk k, .int .i64 v]) = some ⟨k.toArray⟩ := rfl
/-- Rows without a key. -/
def wo (L : Rw) (key : Key) : Rw := L.filter fun p => !(decide (p.1 = key))
theorem l40 (n : Nat) {s0 : VS} {L : Rw} (hs : IsR s0 L) (key : Key) (hz : L.length < 1000000) {H0 : VH} : ∀ (m i : Nat) {H : VH} {s5 : VS} {acc : Rw}, Aq H 83 s5 (rws acc) → Kp H0 H [] → (∀ t ∈ toks s5, H0.length ≤ t) → acc.length ≤ i → i ≤ L.length → L.length < i + m →
    ∃ s' H', L40_0 n m s0 ⟨key.toArray⟩ s5 (i : Int) H = some (.sl 83 s', H') ∧ Aq H' 83 s' (rws (acc ++ wo (L.drop i) key)) ∧ Kp H0 H' [] ∧ (∀ t ∈ toks s', H0.length ≤ t) := by
  intro m
  induction m with
  | zero => intros; omega
  | succ m ih =>
    intro i H s5 acc h5 hk0 ht0 ha hi hlt
    rw [L40_0_eq, hs.len]
    by_cases c : i < L.length
    · obtain ⟨x, hx⟩ := get_of c
      obtain ⟨q1, q2⟩ := List.getElem?_eq_some_iff.1 hx
      have hdt : decide ((i : Int) < (L.length : Int)) = true := decide_eq_true (by omega)
      rw [hdt, cond_true, IsE.ix hs (rws_get hx) 2, Option.bind_some]
      rw [at_r0, Option.bind_some, ld_r0, Option.bind_some, strEq_iff, List.drop_eq_getElem_cons q1, q2]
      by_cases e : x.1 = key
      · rw [decide_eq_true e, Bool.not_true, cond_false, inc_nat (by omega)]
        obtain ⟨s', H', g1, g2, g3⟩ := ih (i + 1) h5 hk0 ht0 (by omega) (by omega) (by omega)
        refine ⟨s', H', g1, ?_, g3⟩
        unfold wo at g2 ⊢
        rw [List.filter_cons_of_neg (by simp [e])]
        exact g2
      · rw [decide_eq_false e, Bool.not_false, cond_true, Option.bind_some]
        rw [show ldV (.agg [.str, .int .i64]) H (.fz [sk x.1, .int .i64 x.2]) = some (⟨x.1.toArray⟩, x.2, ()) from rfl, Option.bind_some]
        obtain ⟨s6, H1, g1, g2, g3, g4⟩ := h5.appE (sz := 2) (by_ := 24) (x := .fz [[sk x.1, .int .i64 x.2]] (.ex 1)) (.fz _ _) (by rw [rws_len]; simp only [bound, List.length_singleton]; omega) (by rw [rws_len]; simp only [bound, List.length_singleton]; omega)
        rw [g1, Option.bind_some, inc_nat (by omega)]
        have hkl := hk0.len
        obtain ⟨s', H', u1, u2, u3⟩ := ih (i + 1) (acc := acc ++ [x]) (by rw [rws_app]; exact g2) (hk0.trans g3 (fun x hx _ => hx) (fun y hy hl => by have := ht0 y hy; omega)) (fun t ht => by
          rcases g4 t ht with h | h
          · exact ht0 t h
          · omega) (by rw [List.length_append, List.length_singleton]; omega) (by omega) (by omega)
        refine ⟨s', H', u1, ?_, u3⟩
        unfold wo at u2 ⊢
        rw [List.filter_cons_of_pos (by simp [e])]
        rw [List.append_assoc] at u2
        exact u2
    · have hdt : decide ((i : Int) < (L.length : Int)) = false := decide_eq_false (by omega)
      rw [hdt, cond_false, List.drop_eq_nil_of_le (by omega)]
      exact ⟨s5, H, rfl, by unfold wo; rw [List.filter_nil, List.append_nil]; exact h5, hk0, ht0⟩
theorem e40 (n : Nat) {s0 : VS} {L : Rw} (hs : IsR s0 L) (key : Key) (hz : L.length < 1000000) (hn : L.length < n) (H : VH) : ∃ s' H', vF P tab (n + 1) 40 [.sl 83 s0, sk key] H = some (.sl 83 s', H') ∧ Aq H' 83 s' (rws (wo L key)) ∧ Kp H H' [] ∧ (∀ t ∈ toks s', H.length ≤ t) := by
  show ∃ s' H', vF P tab (n + 1) 40 [.sl 83 s0, .str ⟨key.toArray⟩] H = some (.sl 83 s', H') ∧ _
  rw [vF_body rfl, f40_eq]
  have := l40 n hs key hz n 0 (acc := []) (H := H) (s5 := .nil) .nil (Kp.refl _ _) (fun t ht => by cases ht) (Nat.le_refl _) (by omega) (by omega)
  exact this
theorem l32 (n : Nat) {s0 b : VS} {L : Rw} (hs : IsR s0 L) (key : Key) (hz : L.length < 1000000) {H : VH} {o : Nat} (hr : H[o]? = some (.row RT [.sl 83 s0, .sl 47 b])) : ∀ (m i : Nat), i ≤ L.length → L.length < i + m →
    L32_0 n m ⟨key.toArray⟩ o (i : Int) H = some (.tup [.int .i64 ((getM (L.drop i) key).getD 0), .bool (getM (L.drop i) key).isSome], H) := by
  intro m
  induction m with
  | zero => intros; omega
  | succ m ih =>
    intro i hi hlt
    rw [L32_0_eq, ld_a hr, Option.bind_some, hs.len]
    by_cases c : i < L.length
    · obtain ⟨x, hx⟩ := get_of c
      obtain ⟨q1, q2⟩ := List.getElem?_eq_some_iff.1 hx
      have hdt : decide ((i : Int) < (L.length : Int)) = true := decide_eq_true (by omega)
      rw [hdt, cond_true, Option.bind_some, IsE.ix hs (rws_get hx) 2, Option.bind_some]
      rw [at_r0, Option.bind_some, ld_r0, Option.bind_some, strEq_iff, List.drop_eq_getElem_cons q1, q2]
      obtain ⟨x1, x2⟩ := x
      unfold getM
      by_cases e : x1 = key
      · rw [decide_eq_true e, cond_true, if_pos e.symm, Option.bind_some, IsE.ix hs (rws_get hx) 2, Option.bind_some]
        rfl
      · rw [decide_eq_false e, cond_false, if_neg (fun h => e h.symm), inc_nat (by omega)]
        exact ih (i + 1) (by omega) (by omega)
    · have hdt : decide ((i : Int) < (L.length : Int)) = false := decide_eq_false (by omega)
      rw [hdt, cond_false, List.drop_eq_nil_of_le (by omega)]
      rfl
theorem e32 (n : Nat) {a b : VS} {L : Rw} {ws : List Rw} (ha : IsR a L) (hb : IsW b ws) (key : Key) (hz : L.length < 1000000) (hn : L.length < n) (H : VH) :
    vF P tab (n + 1) 32 [.agg [.sl 83 a, .sl 47 b], sk key] H = some (.tup [.int .i64 ((getM L key).getD 0), .bool (getM L key).isSome], H) := by
  have h : bodyV P tab (vF P tab n) n 32 [.agg [.sl 83 a.strip, .sl 47 b.strip], .str ⟨key.toArray⟩] [] = some (.tup [.int .i64 ((getM L key).getD 0), .bool (getM L key).isSome], [.row RT [.sl 83 a.strip, .sl 47 b.strip]]) := by
    rw [f32_eq]
    exact l32 n ha.strip key hz (H := [.row RT [.sl 83 a.strip, .sl 47 b.strip]]) (o := 0) rfl n 0 (by omega) (by omega)
  exact vF_lone (r := .tup [.int .i64 ((getM L key).getD 0), .bool (getM L key).isSome]) rfl (by simp [closedC, ha.closed, hb.closed]; rfl) h rfl
theorem l33 (n : Nat) {s0 b : VS} {L : Rw} (hs : IsR s0 L) (hz : L.length < 800000) (hn : L.length < n) {o : Nat} : ∀ (m i : Nat) {H : VH} {s3 : VS}, H[o]? = some (.row RT [.sl 83 s0, .sl 47 b]) → o < 1 → Aq H 9 s3 (strs ((L.take i).map (·.1))) → (∀ t ∈ toks s3, t ≠ o) → i ≤ L.length → L.length < i + m →
    ∃ s' H', L33_0 (n + 1) m o s3 (i : Int) H = some (.sl 9 s', H') ∧ IsT s' (riseS (L.map (·.1))) := by
  intro m
  induction m with
  | zero => intros; omega
  | succ m ih =>
    intro i H s3 hr ho h3 hd hi hlt
    rw [L33_0_eq, ld_a hr, Option.bind_some, hs.len]
    by_cases c : i < L.length
    · obtain ⟨x, hx⟩ := get_of c
      obtain ⟨q1, q2⟩ := List.getElem?_eq_some_iff.1 hx
      have hdt : decide ((i : Int) < (L.length : Int)) = true := decide_eq_true (by omega)
      rw [hdt, cond_true, Option.bind_some, IsE.ix hs (rws_get hx) 2, Option.bind_some, at_r0, Option.bind_some, ld_r0, Option.bind_some]
      have hl : (strs ((L.take i).map (·.1))).length = i := by rw [strs_len, List.length_map, List.length_take]; omega
      obtain ⟨s6, H1, g1, g2, g3, g4⟩ := h3.appE (sz := 1) (by_ := 16) (x := .fz [[sk x.1]] (.ex 1)) (.fz _ _) (by rw [hl]; simp only [bound, List.length_singleton]; omega) (by rw [hl]; simp only [bound, List.length_singleton]; omega)
      rw [g1, Option.bind_some, inc_nat (by omega)]
      refine ih (i + 1) (g3.ob hr (fun h => hd o h rfl)) ho ?_ (fun t ht => ?_) (by omega) (by omega)
      · rw [List.take_succ_eq_append_getElem q1, q2, List.map_append, strs_app]; exact g2
      · rcases g4 t ht with h | h
        · exact hd t h
        · have := (List.getElem?_eq_some_iff.1 hr).1; omega
    · have : i = L.length := by omega
      subst this
      have hdt : decide ((L.length : Int) < (L.length : Int)) = false := decide_eq_false (by omega)
      rw [hdt, cond_false]
      rw [List.take_length] at h3
      obtain ⟨s', g1, g2⟩ := e22 n h3.isE (by rw [List.length_map]; omega) (by rw [List.length_map]; omega) H
      rw [callD_sl g1]
      exact ⟨s', H, rfl, g2⟩
theorem e33 (n : Nat) {a b : VS} {L : Rw} {ws : List Rw} (ha : IsR a L) (hb : IsW b ws) (hz : L.length < 800000) (hn : L.length < n) (H : VH) :
    ∃ s', vF P tab (n + 2) 33 [.agg [.sl 83 a, .sl 47 b]] H = some (.sl 9 s', H) ∧ IsT s' (riseS (L.map (·.1))) := by
  have h : ∃ s' H', bodyV P tab (vF P tab (n + 1)) (n + 1) 33 [.agg [.sl 83 a.strip, .sl 47 b.strip]] [] = some (.sl 9 s', H') ∧ IsT s' (riseS (L.map (·.1))) := by
    rw [f33_eq]
    exact l33 n ha.strip hz hn (H := [.row RT [.sl 83 a.strip, .sl 47 b.strip]]) (o := 0) (n + 1) 0 rfl (by omega) .nil (fun t ht => by cases ht) (by omega) (by omega)
  obtain ⟨s', H', g1, g2⟩ := h
  exact ⟨s'.strip, lone_E (H := H) rfl (by simp [closedC, ha.closed, hb.closed]) g1 g2⟩
/-- The last three steps: what is returned lies in its own box. -/
theorem ret_ab {H : VH} {i : Nat} {a b c d : VS} (h : H[i]? = some (.row RT [.sl 83 a, .sl 47 b])) {β : Type} (f : VH → VS × VS × Unit → Option β) :
    ((stV H (.ob i 0) [.sl 83 c, .sl 47 d]).bind fun h6 => (ldV (.agg [.slice 83, .slice 47]) h6 (.ob i 0)).bind fun x7 => f h6 x7) = f (H.set i (.row RT [.sl 83 c, .sl 47 d])) (c, d, ()) := by
  rw [st_ab h, Option.bind_some, ld_ab (st_at h _), Option.bind_some]
abbrev H2 (a b : VS) : VH := [.row RT [.sl 83 a, .sl 47 b], .row RT [.sl 83 .nil, .sl 47 .nil]]
theorem h2_eq (a b : VS) : List.append (α := VO) ([] ++ [.row (50 + boxK) [.sl 83 a, .sl 47 b]]) [.row (50 + boxK) [.sl 83 .nil, .sl 47 .nil]] = H2 a b := rfl
theorem h1_len (a b : VS) : List.length (([] ++ [.row (50 + boxK) [.sl 83 a, .sl 47 b]]) : VH) = 1 := rfl
theorem e39 (n : Nat) {a b c : VS} {L L' : Rw} {ws : List Rw} (ha : IsR a L) (hb : IsW b ws) (hc : IsR c L') (hz : ws.length < 1000000) (H : VH) :
    ∃ s t, vF P tab (n + 1) 39 [.agg [.sl 83 a, .sl 47 b], .sl 83 c] H = some (.agg [.sl 83 s, .sl 47 t], H) ∧ IsR s L' ∧ IsW t (ws ++ [L]) := by
  have h : ∃ t H', bodyV P tab (vF P tab n) n 39 [.agg [.sl 83 a.strip, .sl 47 b.strip], .sl 83 c.strip] [] = some (.agg [.sl 83 c.strip, .sl 47 t], H') ∧ IsW t (ws ++ [L]) := by
    rw [f39_eq]
    simp only [h2_eq, h1_len, List.length_nil]
    have h0 : (H2 a.strip b.strip)[0]? = some (.row RT [.sl 83 a.strip, .sl 47 b.strip]) := rfl
    have h1 : (H2 a.strip b.strip)[1]? = some (.row RT [.sl 83 .nil, .sl 47 .nil]) := rfl
    obtain ⟨es, b1, b2⟩ := hb.strip
    rw [ld_b h0, Option.bind_some]
    obtain ⟨s1, H1, g1, g2, g3, g4⟩ := (Aq.nil (H := H2 a.strip b.strip) (e := 47)).appE (sz := 1) (by_ := 24) b1 (by rw [b2.1]; simp only [bound, List.length_nil]; omega) (by rw [b2.1]; simp only [bound, List.length_nil]; omega)
    rw [List.nil_append] at g2
    rw [g1, Option.bind_some]
    have k0 := g3.ob h0 (by simp [toks])
    have k1 := g3.ob h1 (by simp [toks])
    simp only
    rw [ld_a k0, Option.bind_some]
    have hcl1 : List.all [V.sl 83 a.strip] closed1 = true := by simp only [List.all_cons, List.all_nil, Bool.and_true]; exact ha.strip.closed
    rw [if_pos hcl1]
    obtain ⟨s2, H2', q1, q2, q3, q4⟩ := g2.appE (sz := 1) (by_ := 24) (x := .fz [[.sl 83 (VS.strip a.strip)]] (.ex 1)) (.fz _ _) (by rw [b2.1]; simp only [bound, List.length_singleton]; omega) (by rw [b2.1]; simp only [bound, List.length_singleton]; omega)
    rw [q1, Option.bind_some]
    have nt : ∀ (j : Nat) (x : VO), (H2 a.strip b.strip)[j]? = some x → j ∉ toks s1 := fun j x hj hm => by
      rcases g4 j hm with h | h
      · cases h
      · have := (List.getElem?_eq_some_iff.1 hj).1; omega
    have k3 := q3.ob k1 (nt 1 _ h1)
    simp only
    rw [ret_ab k3]
    exact ⟨s2, _, rfl, ⟨_, q2.isE, b2.app ha.strip.strip⟩⟩
  obtain ⟨t, H', g1, g2⟩ := h
  have := vF_lone (H := H) (r := .agg [.sl 83 c.strip, .sl 47 t]) (f := 39) (args := [.agg [.sl 83 a, .sl 47 b], .sl 83 c]) rfl (by simp [closedC, ha.closed, hb.closed, hc.closed]) g1 (by simp [closedT, closedC, hc.strip.closed, g2.closed])
  exact ⟨_, _, this, hc.strip.strip, g2.strip⟩
theorem callD_ab {call : FuncId → List V → VH → VRes} {f : FuncId} {args : List V} {H H' : VH} {s t : VS} (hc : call f args H = some (.agg [.sl 83 s, .sl 47 t], H')) : callD call P false (.one (.agg [.slice 83, .slice 47])) f args H = some ((s, t, ()), H') := callD_some _ hc rfl
theorem wo_len (L : Rw) (key : Key) : (wo L key).length ≤ L.length := List.length_filter_le _ _
theorem e27 (n : Nat) {a b : VS} {L : Rw} {ws : List Rw} (ha : IsR a L) (hb : IsW b ws) (key : Key) (v : Int) (hz : L.length < 100000) (hw : ws.length < 1000000) (hn : L.length < n) (H : VH) :
    ∃ s t, vF P tab (n + 2) 27 [.agg [.sl 83 a, .sl 47 b], sk key, .int .i64 v] H = some (.agg [.sl 83 s, .sl 47 t], H) ∧ IsR s (wo L key ++ [(key, v)]) ∧ IsW t (ws ++ [L]) := by
  have h : ∃ s t H', bodyV P tab (vF P tab (n + 1)) (n + 1) 27 [.agg [.sl 83 a.strip, .sl 47 b.strip], .str ⟨key.toArray⟩, .int .i64 v] [] = some (.agg [.sl 83 s, .sl 47 t], H') ∧ IsR s (wo L key ++ [(key, v)]) ∧ IsW t (ws ++ [L]) := by
    rw [f27_eq]
    simp only [h2_eq, h1_len, List.length_nil]
    have h0 : (H2 a.strip b.strip)[0]? = some (.row RT [.sl 83 a.strip, .sl 47 b.strip]) := rfl
    have h1 : (H2 a.strip b.strip)[1]? = some (.row RT [.sl 83 .nil, .sl 47 .nil]) := rfl
    rw [ld_ab h0, Option.bind_some, ld_a h0, Option.bind_some]
    obtain ⟨s1, H1, g1, g2, g3, g4⟩ := e40 n ha.strip key (by omega) hn (H2 a.strip b.strip)
    rw [callD_sl g1, Option.bind_some]
    have k0 := g3.ob h0 (by simp)
    have k1 := g3.ob h1 (by simp)
    simp only [st_a k0, st_b k0, stays_nil, cond_true]
    have hwl := wo_len L key
    obtain ⟨s2, H3, q1, q2, q3, q4⟩ := g2.appE (sz := 2) (by_ := 24) (x := .fz [[sk key, .int .i64 v]] (.ex 1)) (.fz _ _) (by rw [rws_len]; simp only [bound, List.length_singleton]; omega) (by rw [rws_len]; simp only [bound, List.length_singleton]; omega)
    rw [q1, Option.bind_some]
    have nt : ∀ (j : Nat) (x : VO), (H2 a.strip b.strip)[j]? = some x → j ∉ toks s1 := fun j x hj hm => by
      have := g4 j hm
      have := (List.getElem?_eq_some_iff.1 hj).1; omega
    have k2 := q3.ob k0 (nt 0 _ h0)
    have k3 := q3.ob k1 (nt 1 _ h1)
    simp only [st_a k2, st_b k2, stays_nil, cond_true]
    have hR : IsR s2 (wo L key ++ [(key, v)]) := by unfold IsR; rw [rws_app]; exact q2.isE
    obtain ⟨s, t, u1, u2, u3⟩ := e39 n ha.strip hb.strip hR hw H3
    rw [callD_ab u1, Option.bind_some]
    simp only [st_a k2, stays_nil, cond_true]
    rw [ret_ab k3]
    exact ⟨s, t, _, rfl, u2, u3⟩
  obtain ⟨s, t, H', g1, g2, g3⟩ := h
  have := vF_lone (H := H) (r := .agg [.sl 83 s, .sl 47 t]) (f := 27) (args := [.agg [.sl 83 a, .sl 47 b], sk key, .int .i64 v]) rfl (by simp [closedC, ha.closed, hb.closed]; exact ⟨rfl, rfl⟩) g1 (by simp [closedT, closedC, g2.closed, g3.closed])
  exact ⟨_, _, this, g2.strip, g3.strip⟩
theorem e28 (n : Nat) {a b : VS} {L : Rw} {ws : List Rw} (ha : IsR a L) (hb : IsW b ws) (key : Key) (hz : L.length < 100000) (hw : ws.length < 1000000) (hn : L.length < n) (H : VH) :
    ∃ s t, vF P tab (n + 2) 28 [.agg [.sl 83 a, .sl 47 b], sk key] H = some (.tup [.agg [.sl 83 s, .sl 47 t], .bool (getM L key).isSome], H) ∧ IsR s (if (getM L key).isSome = true then wo L key else L) ∧ IsW t (if (getM L key).isSome = true then ws ++ [L] else ws) := by
  have h : ∃ s t H', bodyV P tab (vF P tab (n + 1)) (n + 1) 28 [.agg [.sl 83 a.strip, .sl 47 b.strip], .str ⟨key.toArray⟩] [] = some (.tup [.agg [.sl 83 s, .sl 47 t], .bool (getM L key).isSome], H') ∧ IsR s (if (getM L key).isSome = true then wo L key else L) ∧ IsW t (if (getM L key).isSome = true then ws ++ [L] else ws) := by
    rw [f28_eq]
    simp only [h2_eq, h1_len, List.length_nil]
    have h0 : (H2 a.strip b.strip)[0]? = some (.row RT [.sl 83 a.strip, .sl 47 b.strip]) := rfl
    have h1 : (H2 a.strip b.strip)[1]? = some (.row RT [.sl 83 .nil, .sl 47 .nil]) := rfl
    rw [ld_ab h0, Option.bind_some]
    rw [callD_some (τ := .tup [(.flat (.int .i64)), (.flat .bool)]) (x := ((getM L key).getD 0, (getM L key).isSome, ())) _ (e32 n ha.strip hb.strip key (by omega) hn (H2 a.strip b.strip)) rfl, Option.bind_some]
    simp only
    cases hg : (getM L key).isSome with
    | false =>
      simp only [Bool.not_false, cond_true, Bool.false_eq_true, if_false]
      rw [ld_ab h0, Option.bind_some, ret_ab h1]
      exact ⟨_, _, _, rfl, ha.strip, hb.strip⟩
    | true =>
      simp only [Bool.not_true, cond_false, if_true]
      rw [ld_ab h0, Option.bind_some, ld_a h0, Option.bind_some]
      obtain ⟨s1, H1, g1, g2, g3, g4⟩ := e40 n ha.strip key (by omega) hn (H2 a.strip b.strip)
      rw [callD_sl g1, Option.bind_some]
      have k0 := g3.ob h0 (by simp)
      have k1 := g3.ob h1 (by simp)
      simp only [st_a k0, st_b k0, stays_nil, cond_true]
      obtain ⟨s, t, u1, u2, u3⟩ := e39 n ha.strip hb.strip (show IsR s1 (wo L key) from g2.isE) hw H1
      rw [callD_ab u1, Option.bind_some]
      simp only [st_a k0, stays_nil, cond_true]
      rw [ret_ab k1]
      exact ⟨s, t, _, rfl, u2, u3⟩
  obtain ⟨s, t, H', g1, g2, g3⟩ := h
  have := vF_lone (H := H) (r := .tup [.agg [.sl 83 s, .sl 47 t], .bool (getM L key).isSome]) (f := 28) (args := [.agg [.sl 83 a, .sl 47 b], sk key]) rfl (by simp [closedC, ha.closed, hb.closed]; rfl) g1 (by simp [closedT, closedC, g2.closed, g3.closed]; rfl)
  exact ⟨_, _, this, g2.strip, g3.strip⟩
theorem e29 (n : Nat) {a b : VS} {L : Rw} {ws : List Rw} (ha : IsR a L) (hb : IsW b ws) (c : Int) {c0 : Nat} (hc : (if c < 0 then 0 else c) = (c0 : Int)) (hw : ws.length < 1000000) (H : VH) :
    ∃ s t, vF P tab (n + 1) 29 [.agg [.sl 83 a, .sl 47 b], .int .i64 c] H = some (.agg [.sl 83 s, .sl 47 t], H) ∧ IsR s ((ws[c0]?).getD L) ∧ IsW t (ws.take c0) := by
  have h : ∃ s t H', bodyV P tab (vF P tab n) n 29 [.agg [.sl 83 a.strip, .sl 47 b.strip], .int .i64 c] [] = some (.agg [.sl 83 s, .sl 47 t], H') ∧ IsR s ((ws[c0]?).getD L) ∧ IsW t (ws.take c0) := by
    rw [f29_eq]
    simp only [h2_eq, h1_len, List.length_nil]
    have h0 : (H2 a.strip b.strip)[0]? = some (.row RT [.sl 83 a.strip, .sl 47 b.strip]) := rfl
    have h1 : (H2 a.strip b.strip)[1]? = some (.row RT [.sl 83 .nil, .sl 47 .nil]) := rfl
    have both : ∀ (cc : Int), cc = (c0 : Int) → ∃ (s t : VS) (H' : VH), ((ldV (.flat (.slice 47)) (H2 a.strip b.strip) (.ob 0 1)).bind fun x12 =>
      (cond (decide ((cc : Int) ≥ ((VS.len x12 : Nat) : Int)))
        ((ldV (.agg [.slice 83, .slice 47]) (H2 a.strip b.strip) (.ob 0 0)).bind fun x13 =>
          ((stV (H2 a.strip b.strip) (.ob 1 0) [.sl 83 x13.1, .sl 47 x13.2.1]).bind fun h14 =>
            (((ldV (.agg [.slice 83, .slice 47]) h14 (.ob 1 0)).bind fun x15 =>
                some (V.agg [.sl 83 x15.1, .sl 47 x15.2.1], h14)))))
        ((ldV (.flat (.slice 47)) (H2 a.strip b.strip) (.ob 0 1)).bind fun x16 =>
          ((ixV 1 x16 cc).bind fun p17 =>
            ((ldV (.flat (.slice 83)) (H2 a.strip b.strip) p17).bind fun x18 =>
              ((ldV (.flat (.slice 47)) (H2 a.strip b.strip) (.ob 0 1)).bind fun x19 =>
                ((cutD (H2 a.strip b.strip) 47 1 x19 none (some cc) none).bind fun z20 =>
                  ((stV (H2 a.strip b.strip) (.ob 1 0) [.sl 83 x18, .sl 47 z20]).bind fun h21 =>
                    (((ldV (.agg [.slice 83, .slice 47]) h21 (.ob 1 0)).bind fun x22 =>
                        some (V.agg [.sl 83 x22.1, .sl 47 x22.2.1], h21))))))))))) = some (V.agg [.sl 83 s, .sl 47 t], H') ∧ IsR s ((ws[c0]?).getD L) ∧ IsW t (ws.take c0) := by
      intro cc hcc
      subst hcc
      rw [ld_b h0, Option.bind_some, hb.strip.len]
      by_cases e : ws.length ≤ c0
      · have hdt : decide ((c0 : Int) ≥ (ws.length : Int)) = true := decide_eq_true (by omega)
        rw [hdt, cond_true, ld_ab h0, Option.bind_some, ret_ab h1, List.getElem?_eq_none e, List.take_of_length_le e]
        exact ⟨_, _, _, rfl, ha.strip, hb.strip⟩
      · have hdt : decide ((c0 : Int) ≥ (ws.length : Int)) = false := decide_eq_false (by omega)
        obtain ⟨w, hw⟩ := get_of (l := ws) (i := c0) (by omega)
        obtain ⟨es, b1, b2⟩ := hb.strip
        obtain ⟨v, v1, v2⟩ := b2.2 c0 w hw
        rw [hdt, cond_false, Option.bind_some, b1.ix v1 1, Option.bind_some]
        rw [show ldV (.flat (.slice 83)) (H2 a.strip b.strip) (.fz [.sl 83 v]) = some v from rfl, Option.bind_some, Option.bind_some]
        obtain ⟨z, z1, z2, _⟩ := b1.cut (lo := 0) (hi := c0) (lo' := none) (hi' := some (c0 : Int)) (mx' := none) (Nat.zero_le _) (by rw [b2.1]; omega) (.inr ⟨rfl, rfl⟩) (.inl rfl) (.inl rfl) (H2 a.strip b.strip) 47 1
        rw [List.drop_zero] at z2
        rw [z1, Option.bind_some, ret_ab h1, hw]
        exact ⟨_, _, _, rfl, v2, ⟨_, z2, b2.cut c0⟩⟩
    by_cases cz : c < 0
    · have hdt : decide (c < 0) = true := decide_eq_true cz
      rw [if_pos cz] at hc
      rw [hdt, cond_true]
      exact both 0 hc
    · have hdt : decide (c < 0) = false := decide_eq_false cz
      rw [if_neg cz] at hc
      rw [hdt, cond_false]
      exact both c hc
  obtain ⟨s, t, H', g1, g2, g3⟩ := h
  have := vF_lone (H := H) (r := .agg [.sl 83 s, .sl 47 t]) (f := 29) (args := [.agg [.sl 83 a, .sl 47 b], .int .i64 c]) rfl (by simp [closedC, ha.closed, hb.closed]; rfl) g1 (by simp [closedT, closedC, g2.closed, g3.closed])
  exact ⟨_, _, this, g2.strip, g3.strip⟩
end Go.Proofs.Ytlkpgimhcnmblaa
