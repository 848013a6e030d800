import Derived.Test.YtaifjlpgggimaaaB13b
set_option linter.unusedVariables false
set_option linter.unusedSimpArgs false
namespace Go.Proofs.Ytaifjlpgggimaaa
open Go.Proofs.Ytaifjlpgggimaaa.Sh Go.Proofs.Ytaifjlpgggimaaa.Sh.V Go.RowKit
/-! ### FrameThere -/
def ne (ls : List (List UInt8)) : List (List UInt8) := ls.filter fun x => decide (x.length ≠ 0)
theorem ne_take {ls : List (List UInt8)} {i : Nat} {x : List UInt8} (h : ls[i]? = some x) : ne (ls.take (i + 1)) = ne (ls.take i) ++ (if x.length = 0 then [] else [x]) := by
  unfold ne
  rw [List.take_add_one, h, List.filter_append]
  congr 1
  by_cases h0 : x.length = 0
  · have : x = [] := List.eq_nil_of_length_eq_zero h0
    subst this
    rfl
  · have : x ≠ [] := fun h => h0 (by rw [h]; rfl)
    simp [this]
theorem ne_mem {ls : List (List UInt8)} {x : List UInt8} (h : x ∈ ne ls) : x ∈ ls ∧ x.length ≠ 0 := by
  unfold ne at h
  rw [List.mem_filter] at h
  exact ⟨h.1, by simpa using h.2⟩
theorem l3 (n : Nat) (hn : 5000 ≤ n) {s : VS} {es : List (List V)} {ls : List (List UInt8)} (hs : IsE s es) (hp : PB es ls) (hc : ∀ x ∈ ls, x.length ≤ 200) (h8 : ls.length ≤ 8) : ∀ (m i : Nat) {H : VH} {s3 s4 : VS} {es4 : List (List V)},
    IsB s3 (frames (ne (ls.take i))) → Ap H 25 s4 es4 → PB es4 (ne (ls.take i)) → i ≤ ls.length → ls.length < i + m → ∃ H', L3_0 (n + 100) m s s3 s4 (i : Int) H = some (.bool true, H') := by
  intro m
  induction m with
  | zero => intros; omega
  | succ m ih =>
    intro i H s3 s4 es4 h3 h4 h5 hi1 hi2
    rw [L3_0_eq, hs.len, hp.len]
    have hnl : (ne (ls.take i)).length ≤ 8 := by
      refine Nat.le_trans (List.length_filter_le _ _) ?_
      rw [List.length_take]; omega
    have hfr := frames_len (l := ne (ls.take i)) (c := 200) (fun x hx => hc x (List.mem_of_mem_take (ne_mem hx).1))
    by_cases hi : i < ls.length
    · rw [decide_eq_true (by omega), cond_true]
      obtain ⟨x, hx⟩ := get_of hi
      obtain ⟨v, hv, hrd⟩ := rdB hs hp hx
      have hxc := hc x (List.mem_of_getElem? hx)
      rw [hrd, hv.len, bs_len]
      by_cases h0 : x.length = 0
      · rw [show (((x.length : Nat) : Int) == 0) = true by rw [h0]; rfl, cond_true, inc_nat (by omega)]
        have e := ne_take hx
        rw [if_pos h0, List.append_nil] at e
        exact ih (i + 1) (by rw [e]; exact h3) h4 (by rw [e]; exact h5) (by omega) (by omega)
      · rw [show (((x.length : Nat) : Int) == 0) = false by rw [beq_eq_false_iff_ne]; omega, cond_false, hrd]
        obtain ⟨s5, g1, g2⟩ := e12 (n + 96) (H := H) hv (by omega)
        rw [callD_sl g1, Option.bind_some]
        obtain ⟨s6, g3, g4⟩ := e11 (n + 99) (H := H) h3 g2 (by rw [textI_len]; omega)
        simp only
        rw [callD_sl g3, Option.bind_some, hrd, if_pos (closed1_B hv)]
        have h5l := h5.len
        obtain ⟨s7, H7, q1, q2, _⟩ := h4.app (x := .fz [[.sl 5 v.strip]] (.ex 1)) (sz := 1) (by_ := 24) (.fz _ _) (by simp only [bound, List.length_singleton]; omega) (by simp only [bound, List.length_singleton]; omega)
        rw [q1, Option.bind_some, inc_nat (by omega)]
        have e := ne_take hx
        rw [if_neg h0] at e
        refine ih (i + 1) ?_ q2 (by rw [e]; exact h5.app (.cons hv.strip .nil)) (by omega) (by omega)
        rw [e]
        have : frames (ne (ls.take i) ++ [x]) = frames (ne (ls.take i)) ++ textI x := by simp [frames]
        rw [this]
        exact g4
    · rw [decide_eq_false (by omega), cond_false]
      have : i = ls.length := by omega
      subst this
      rw [List.take_length] at h3 h5 hfr hnl
      rw [callD_ptr (e13 (n + 99) H), Option.bind_some]
      obtain ⟨s', es', H1, g1, g2, g3, g4, g5⟩ := e15 (n + 94) (by omega) (new_st H) h3 (by simp only [List.length_nil]; omega) (by simp only [List.length_nil]; omega)
      simp only
      rw [callD_sl g1, Option.bind_some]
      have ep : feedS [] (frames (ne ls)) false = (ne ls, [], false) := by
        unfold feedS
        rw [if_neg (by simp), List.nil_append, ← List.append_nil (frames (ne ls)), pull_frames _ _ (fun x hx => ⟨by have := (ne_mem hx).2; omega, by have := hc x (ne_mem hx).1; omega⟩)]
        simp [pull, pullF]
      rw [ep] at g3 g4
      simp only at g3 g4
      simp only
      rw [callD_bool (e14 (n + 98) g2 g3 h4.isE h5 (by omega) (fun x hx => by have := hc x (ne_mem hx).1; omega) (by omega)), Option.bind_some]
      simp only [decide_true, cond_true]
      rw [callD_int (e16 (n + 99) g4), Option.bind_some]
      simp only [List.length_nil]
      rw [show (((0 : Nat) : Int) == 0) = true from rfl, cond_true, callD_bool (e17 (n + 99) g4), Option.bind_some]
      exact ⟨_, rfl⟩
theorem frameThere (n : Nat) (hn : 5000 ≤ n) {s : VS} {es : List (List V)} {ls : List (List UInt8)} (hs : IsE s es) (hp : PB es ls) (hl : ls.length ≤ maxLen) (hln : ls.length < n) (H : VH) : ∃ H', vF P tab (n + 101) 3 [.sl 25 s] H = some (.bool true, H') := by
  rw [vF_body rfl, f3_eq, c9 n H, Option.bind_some]
  simp only [Bool.not_true, cond_false]
  obtain ⟨b, g1, g2⟩ := e10 (n + 99) (H := H) hs hp (s1 := .nil) (bad := []) .nil hl (by omega)
  rw [callD_bool g1, Option.bind_some]
  cases b with
  | false =>
    simp only [Bool.not_false, cond_true]
    rw [c9 n H, Option.bind_some]
    exact ⟨H, rfl⟩
  | true =>
    obtain ⟨h8, _, hc⟩ := g2 rfl
    simp only [Bool.not_true, cond_false]
    exact l3 n hn hs hp hc h8 (n + 100) 0 .nil .nil .nil (by omega) (by omega)
theorem pays_of {v : V} (h : HasA P 22 v) : ∃ (s : VS) (es : List (List V)) (l : List (List UInt8)), v = .sl 25 s ∧ IsE s es ∧ PB es l ∧ l.length ≤ maxLen := by
  obtain ⟨d, s, es, h1, h2, h3, h4⟩ := hasA_sl (e := 25) (by kernel_rfl) h
  have : ∃ l, PB es l := by
    clear h2 h3
    induction es with
    | nil => exact ⟨[], .nil⟩
    | cons y es ih =>
      obtain ⟨l, hl⟩ := ih (fun z hz => h4 z (List.mem_cons_of_mem _ hz))
      obtain ⟨v, x, h5, h6, _⟩ := hasT_bytes (e := 5) (by kernel_rfl) (by kernel_rfl) (h4 y (List.mem_cons_self ..)).1
      rw [h5]
      exact ⟨x :: l, .cons h6 hl⟩
  obtain ⟨l, hl⟩ := this
  exact ⟨s, es, l, h1, h2, hl, by rw [← hl.len]; exact h3⟩
theorem frameThere_law (us : List V) (h : HasAs P [22] us) : ∃ n H', vF P tab n 3 us [] = some (.bool true, H') := by
  match us, h with
  | [u0], ⟨h0, _⟩ =>
    obtain ⟨s, es, l, rfl, h1, h2, h3⟩ := pays_of h0
    exact ⟨_, frameThere (5000 + l.length + 1) (by omega) h1 h2 h3 (by omega) []⟩
/-! ### FramePieces -/
theorem feed_pull (p : List UInt8) {a b : Nat} (h : a ≤ b) : pull (p.take b) = ((pull (p.take a)).1 ++ (feedS (pull (p.take a)).2.1 ((p.take b).drop a) (pull (p.take a)).2.2).1, (feedS (pull (p.take a)).2.1 ((p.take b).drop a) (pull (p.take a)).2.2).2) := by
  have e : p.take b = p.take a ++ (p.take b).drop a := by
    conv => lhs; rw [← List.take_append_drop a (p.take b)]
    rw [List.take_take, Nat.min_eq_left h]
  conv => lhs; rw [e, pull_app _ _ _ (Nat.le_refl _)]
  unfold feedS
  by_cases hb : (pull (p.take a)).2.2 = true
  · rw [if_pos hb, if_pos hb, pull_broken _ _ (Nat.le_refl _) hb]; simp
  · rw [if_neg hb, if_neg hb]
theorem body4 (n m : Nat) (hn : 5000 ≤ n) {s2 s7 : VS} {p : List UInt8} (h7 : IsB s7 p) (hpl : p.length ≤ 2000) {k : Nat} (i : Int) {a b : Nat} (hab : a ≤ b) (hb : b ≤ p.length)
    (next : ∀ {H : VH} {s9 : VS} {es : List (List V)}, RS ST H k (pull (p.take b)).2.1 (pull (p.take b)).2.2 → Ap H 25 s9 es → PB es (pull (p.take b)).1 → (∀ t ∈ toks s9, t ≠ k) → ∃ H', L4_0 (n + 100) m s2 s7 (.ob k 0) s9 (b : Int) (IntKind.wrap .i64 (i + 1)) H = some (.bool true, H'))
    {H : VH} {s9 : VS} {es : List (List V)} (hr : RS ST H k (pull (p.take a)).2.1 (pull (p.take a)).2.2) (ha : Ap H 25 s9 es) (hpb : PB es (pull (p.take a)).1) (ht : ∀ t ∈ toks s9, t ≠ k) :
    ∃ H', ((cutD H 5 1 s7 (some (a : Int)) (some (b : Int)) none).bind fun z5 =>
      ((V.callD (vF P tab (n + 100)) P false (.one (.flat (.slice 25))) 15 [.ptr (.ob k 0), .sl 5 z5] H).bind fun r6 =>
      ((appD true r6.2 1 24 25 s9 r6.1).bind fun r7 =>
      ((cutD r7.2 5 1 s7 none (some (b : Int)) none).bind fun z8 =>
      ((V.callD (vF P tab (n + 100)) P false (.tup [(.flat (.slice 25)), (.flat (.int .i64)), (.flat .bool)]) 19 [.sl 5 z8] r7.2).bind fun r9 =>
      ((V.callD (vF P tab (n + 100)) P false (.one (.flat .bool)) 14 [.sl 25 r7.1, .sl 25 r9.1.1] r9.2).bind fun r10 =>
      (cond (!r10.1)
      (some (V.bool false, r10.2))
      ((V.callD (vF P tab (n + 100)) P false (.one (.flat (.int .i64))) 16 [.ptr (.ob k 0)] r10.2).bind fun r11 =>
      (cond ((r11.1 : Int) != r9.1.2.1)
      (some (V.bool false, r11.2))
      ((V.callD (vF P tab (n + 100)) P false (.one (.flat .bool)) 17 [.ptr (.ob k 0)] r11.2).bind fun r12 =>
      (cond (!(r12.1 == r9.1.2.2.1))
      (some (V.bool false, r12.2))
      (L4_0 (n + 100) m s2 s7 (.ob k 0) r7.1 (b : Int) (IntKind.wrap .i64 (i + 1)) r12.2)))))))))))) = some (.bool true, H') := by
  obtain ⟨z5, g1, g2, _⟩ := h7.cut (lo := a) (hi := b) hab (by rw [bs_len]; omega) (lo' := some (a : Int)) (hi' := some (b : Int)) (mx' := none) (.inl rfl) (.inl rfl) (.inl rfl) H 5 1
  rw [g1, Option.bind_some]
  rw [bs_take, bs_drop] at g2
  have hp1 := pull_left _ (p.take a) (Nat.le_refl _)
  rw [List.length_take] at hp1
  have hlen : ((p.take b).drop a).length ≤ 2000 := by rw [List.length_drop, List.length_take]; omega
  obtain ⟨s', es', H1, q1, q2, q3, q4, q5⟩ := e15 (n + 94) (by omega) hr g2 (by omega) (by omega)
  rw [callD_sl q1, Option.bind_some]
  have ha1 := ha.keep q5 (fun t h1 h2 => ht t h1 (List.mem_singleton.1 h2))
  have hk : k < H1.length := by obtain ⟨s, h1, _⟩ := q4; exact lt_of_ob h1
  have l1 := hpb.len
  have l2 := q3.len
  have hfe := feed_pull p hab
  have hp2 := pull_left _ (p.take b) (Nat.le_refl _)
  rw [List.length_take] at hp2
  rw [hfe] at hp2 next
  simp only [List.length_append] at hp2
  simp only
  obtain ⟨s10, H2, t1, t2, t3, t4, _⟩ := ha1.app (x := s') (sz := 1) (by_ := 24) q2 (by simp only [bound]; omega) (by simp only [bound]; omega)
  rw [t1, Option.bind_some]
  have kt : k ∉ toks s9 := fun h1 => ht k h1 rfl
  have r4 := q4.keep t3 kt
  have pb2 := hpb.app q3
  obtain ⟨z8, u1, u2, _⟩ := h7.cut (lo := 0) (hi := b) (by omega) (by rw [bs_len]; omega) (lo' := none) (hi' := some (b : Int)) (mx' := none) (.inr ⟨rfl, rfl⟩) (.inl rfl) (.inl rfl) H2 5 1
  simp only
  rw [u1, Option.bind_some]
  rw [List.drop_zero, bs_take] at u2
  obtain ⟨s11, es11, v1, v2, v3⟩ := e19 (n + 99) (H := H2) u2 (by rw [List.length_take]; omega) (by rw [List.length_take]; omega)
  rw [hfe] at v1 v3
  rw [callD_some (τ := .tup [(.flat (.slice 25)), (.flat (.int .i64)), (.flat .bool)]) (x := (s11, _, _, ())) _ v1 rfl, Option.bind_some]
  simp only
  rw [callD_bool (e14 (n + 98) t2.isE pb2 v2 v3 (by simp only [List.length_append]; omega) (fun x hx => by
    have := pull_mem _ (p.take b) (Nat.le_refl _) x (by rw [hfe]; exact hx)
    rw [List.length_take] at this; omega) (by simp only [List.length_append]; omega)), Option.bind_some]
  simp only [decide_true, Bool.not_true, cond_false]
  rw [callD_int (e16 (n + 99) r4), Option.bind_some]
  simp only [bne_self_eq_false, cond_false]
  rw [callD_bool (e17 (n + 99) r4), Option.bind_some]
  simp only [BEq.rfl, Bool.not_true, cond_false]
  refine next r4 t2 pb2 (fun t h1 h2 => ?_)
  rcases t4 t h1 with h3 | h3
  · exact ht t h3 h2
  · omega
theorem l4 (n : Nat) (hn : 5000 ≤ n) {s2 s7 : VS} {p cuts : List UInt8} (h2 : IsB s2 cuts) (hcl : cuts.length ≤ 60) (h7 : IsB s7 p) (hpl : p.length ≤ 2000) {k : Nat} : ∀ (m i a : Nat) {H : VH} {s9 : VS} {es : List (List V)}, a ≤ p.length → i ≤ cuts.length + 1 → cuts.length + 1 < i + m →
    RS ST H k (pull (p.take a)).2.1 (pull (p.take a)).2.2 → Ap H 25 s9 es → PB es (pull (p.take a)).1 → (∀ t ∈ toks s9, t ≠ k) → ∃ H', L4_0 (n + 100) m s2 s7 (.ob k 0) s9 (a : Int) (i : Int) H = some (.bool true, H') := by
  intro m
  induction m with
  | zero => intros; omega
  | succ m ih =>
    intro i a H s9 es h3 h4 h5 hr ha hpb ht
    rw [L4_0_eq, h2.len, h7.len, bs_len, bs_len]
    by_cases hi : i ≤ cuts.length
    · rw [decide_eq_true (by omega), cond_true]
      have next : ∀ {b : Nat}, b ≤ p.length → ∀ {H : VH} {s9 : VS} {es : List (List V)}, RS ST H k (pull (p.take b)).2.1 (pull (p.take b)).2.2 → Ap H 25 s9 es → PB es (pull (p.take b)).1 → (∀ t ∈ toks s9, t ≠ k) → ∃ H', L4_0 (n + 100) m s2 s7 (.ob k 0) s9 (b : Int) (IntKind.wrap .i64 ((i : Int) + 1)) H = some (.bool true, H') := by
        intro b hb H s9 es g1 g2 g3 g4
        rw [inc_nat (by omega)]
        exact ih (i + 1) b hb (by omega) (by omega) g1 g2 g3 g4
      by_cases hi2 : i < cuts.length
      · rw [decide_eq_true (by omega), cond_true]
        obtain ⟨c, hc⟩ := get_of hi2
        have hc2 := c.toNat_lt
        rw [h2.rd hc, h2.rd hc, i64_nat (n := c.toNat) (by omega), show ((a : Int) + (c.toNat : Int)) = ((a + c.toNat : Nat) : Int) by omega, i64_nat (n := a + c.toNat) (by omega)]
        by_cases hlt : a + c.toNat < p.length
        · rw [decide_eq_true (by omega), cond_true]
          exact body4 n m hn h7 hpl (i : Int) (by omega) (by omega) (next (b := a + c.toNat) (by omega)) hr ha hpb ht
        · rw [decide_eq_false (by omega), cond_false]
          exact body4 n m hn h7 hpl (i : Int) h3 (Nat.le_refl _) (next (b := p.length) (Nat.le_refl _)) hr ha hpb ht
      · rw [decide_eq_false (by omega), cond_false]
        exact body4 n m hn h7 hpl (i : Int) h3 (Nat.le_refl _) (next (b := p.length) (Nat.le_refl _)) hr ha hpb ht
    · rw [decide_eq_false (by omega), cond_false]
      exact ⟨H, rfl⟩
theorem fills_len {ls : List (List UInt8)} (hc : ∀ x ∈ ls, x.length ≤ 200) (h8 : ls.length ≤ 8) : (frames (ls.map fill)).length ≤ 1616 := by
  have := frames_len (l := ls.map fill) (c := 200) (fun x hx => by
    obtain ⟨y, hy, rfl⟩ := List.mem_map.1 hx
    have := hc y hy
    unfold fill
    split
    · simp
    · exact this)
  rw [List.length_map] at this
  omega
theorem framePieces (n : Nat) (hn : 5000 ≤ n) {s s1 s2 : VS} {es : List (List V)} {ls : List (List UInt8)} {bad cuts : List UInt8} (hs : IsE s es) (hp : PB es ls) (h1 : IsB s1 bad) (h2 : IsB s2 cuts) (hl : ls.length ≤ maxLen) (hln : ls.length < n) (H : VH) :
    ∃ H', vF P tab (n + 101) 4 [.sl 25 s, .sl 5 s1, .sl 5 s2] H = some (.bool true, H') := by
  rw [vF_body rfl, f4_eq, c9 n H, Option.bind_some]
  simp only [Bool.not_true, cond_false]
  obtain ⟨b, g1, g2⟩ := e10 (n + 99) (H := H) hs hp h1 hl (by omega)
  rw [callD_bool g1, Option.bind_some]
  cases b with
  | false =>
    simp only [Bool.not_false, cond_true]
    rw [c9 n H, Option.bind_some]
    exact ⟨H, rfl⟩
  | true =>
    obtain ⟨h8, hb, hc⟩ := g2 rfl
    simp only [Bool.not_true, cond_false]
    rw [h2.len, bs_len]
    by_cases h60 : 60 < cuts.length
    · rw [decide_eq_true (by omega), cond_true, c9 n H, Option.bind_some]
      exact ⟨H, rfl⟩
    rw [decide_eq_false (by omega), cond_false]
    have hfl := fills_len hc h8
    obtain ⟨s7, q1, q2⟩ := e18 (n + 87) (H := H) hs hp h1 hc h8 (by omega)
    rw [callD_sl q1, Option.bind_some, callD_ptr (e13 (n + 99) H), Option.bind_some]
    have e0 : pull (([] : List UInt8)) = ([], [], false) := rfl
    refine l4 n hn h2 (by omega) q2 (by rw [List.length_append]; omega) (n + 100) 0 0 (s9 := .nil) (es := []) (by omega) (by omega) (by omega) ?_ .nil ?_ (fun t h => by cases h)
    · rw [List.take_zero, e0]; exact new_st H
    · rw [List.take_zero, e0]; exact .nil
theorem framePieces_law (us : List V) (h : HasAs P [22, 25, 25] us) : ∃ n H', vF P tab n 4 us [] = some (.bool true, H') := by
  match us, h with
  | [u0, u1, u2], ⟨h0, h1, h2, _⟩ =>
    obtain ⟨s, es, l, rfl, i1, i2, i3⟩ := pays_of h0
    obtain ⟨s1, l1, rfl, j1, _⟩ := hasA_bytes (e := 5) (by kernel_rfl) (by kernel_rfl) h1
    obtain ⟨s2, l2, rfl, k1, _⟩ := hasA_bytes (e := 5) (by kernel_rfl) (by kernel_rfl) h2
    exact ⟨_, framePieces (5000 + l.length + 1) (by omega) i1 i2 j1 k1 i3 (by omega) []⟩
end Go.Proofs.Ytaifjlpgggimaaa
