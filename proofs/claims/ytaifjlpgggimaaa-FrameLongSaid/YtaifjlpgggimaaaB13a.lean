import Derived.Test.YtaifjlpgggimaaaB13p
set_option linter.unusedVariables false
set_option linter.unusedSimpArgs false
namespace Go.Proofs.Ytaifjlpgggimaaa
open Go.Proofs.Ytaifjlpgggimaaa.Sh Go.Proofs.Ytaifjlpgggimaaa.Sh.V Go.RowKit
/-! ### The stream -/
abbrev ST : TypeId := 50 + boxK
theorem e24 (n : Nat) {H : VH} {s : VS} {l : List UInt8} (h : IsB s l) (hl : l.length < 1000000) :
    ∃ s' H', vF P tab (n + 1) 24 [.sl 5 s] H = some (.sl 5 s', H') ∧ Ap H' 5 s' (bs l) ∧ Kp H H' [] ∧ ∀ t ∈ toks s', H.length ≤ t := by
  rw [vF_body rfl, f24_eq]
  cases hn : s.isNil with
  | true =>
    obtain ⟨rfl, h0⟩ := h.isNil hn
    have : l = [] := by cases l with | nil => rfl | cons => cases h0
    subst this
    exact ⟨.nil, H, rfl, .nil, Kp.refl _ _, fun t ht => by cases ht⟩
  | false =>
    rw [cond_false]
    obtain ⟨s', H', g1, g2, g3, g4, _⟩ := (Ap.lit (H := H) (e := 5) []).app (sz := 1) (by_ := 1) h (by rw [bs_len]; simp only [bound, List.length_nil]; omega) (by rw [bs_len]; simp only [bound, List.length_nil]; omega)
    rw [List.length_nil] at g1
    rw [g1, Option.bind_some]
    exact ⟨s', H', rfl, g2, g3, fun t ht => (g4 t ht).elim (fun h => by cases h) id⟩
theorem e28 (n : Nat) {H : VH} {s : VS} {l : List UInt8} (h : IsB s l) (hl : l.length < 1000000) :
    ∃ k H', vF P tab (n + 2) 28 [.sl 5 s] H = some (.ptr (.ob k 0), H') ∧ RS RT H' k l false ∧ H.length ≤ k ∧ Kp H H' [] := by
  obtain ⟨s', H1, g1, g2, g3, g4⟩ := e24 n (H := H) h hl
  rw [vF_body rfl, f28_eq, callD_sl g1, Option.bind_some]
  exact ⟨H1.length, _, rfl, ⟨s', by simp, g2.isE⟩, g3.len, g3.trans (Kp.app _ _) (fun x hx _ => hx) (fun y hy _ => hy)⟩
theorem e23 (n : Nat) {H : VH} {k : Nat} {T : List Nat} {l : List UInt8} (hw : WS H k T l) (hl : l.length < 1000000) :
    ∃ s' H', vF P tab (n + 2) 23 [.ptr (.ob k 0)] H = some (.sl 5 s', H') ∧ IsB s' l ∧ Kp H H' [] := by
  obtain ⟨s, h1, h2, rfl⟩ := hw
  obtain ⟨s', H', g1, g2, g3, g4⟩ := e24 n (H := H) h2.isE hl
  rw [vF_body rfl, f23_eq]
  simp only [VP.isNil, cond_false, nn, atO, Option.bind_some, Nat.zero_add]
  rw [ld_row h1]
  simp only [List.getElem?_cons_zero, Option.bind_some, fd_sl]
  rw [callD_sl g1, Option.bind_some]
  exact ⟨s', H', rfl, g2.isE, g3⟩
theorem b12 (n : Nat) {H : VH} {s : VS} {p : List UInt8} (h : ∀ H', Kp H H' [] → strV H' 5 s = some ⟨p.toArray⟩) (hl : p.length < 900000) :
    ∃ s' H', bodyV P tab (vF P tab (n + 3)) (n + 3) 12 [.sl 5 s] H = some (.sl 5 s', H') ∧ IsB s' (textI p) ∧ Kp H H' [] := by
  rw [f12_eq, h _ (Kp.app _ _), Option.bind_some]
  obtain ⟨H1, T1, g1, g2, g3, g4⟩ := e22 n (WS.new H) p (by simp only [List.length_nil]; omega)
  rw [callD_ptr g1, Option.bind_some]
  obtain ⟨s', H2, q1, q2, q3⟩ := e23 (n + 1) g2 (by rw [List.nil_append, textI_len]; omega)
  simp only
  rw [callD_sl q1, Option.bind_some]
  refine ⟨s', H2, rfl, q2, ((Kp.app H _).trans g3 (fun x hx _ => hx) (fun y hy hl => ?_)).trans q3 (fun x hx _ => hx) (fun y hy _ => hy)⟩
  rw [List.mem_singleton] at hy
  omega
theorem e12 (n : Nat) {H : VH} {s : VS} {p : List UInt8} (h : IsB s p) (hl : p.length < 900000) : ∃ s', vF P tab (n + 4) 12 [.sl 5 s] H = some (.sl 5 s', H) ∧ IsB s' (textI p) := by
  obtain ⟨s', H', g1, g2, _⟩ := b12 n (H := []) (s := s.strip) (fun H' _ => IsB.str h.strip H' 5) hl
  exact ⟨s'.strip, lone_E (H := H) rfl (by simp [closed_sl 5 h]) g1 g2⟩
theorem e13 (n : Nat) (H : VH) : vF P tab (n + 1) 13 [] H = some (.ptr (.ob H.length 0), H ++ [.row ST [.sl 5 .nil, .bool false]]) := by
  rw [vF_body rfl, f13_eq]
theorem new_st (H : VH) : RS ST (H ++ [.row ST [.sl 5 .nil, .bool false]]) H.length [] false := ⟨.nil, by simp, .nil⟩
theorem e16 (n : Nat) {H : VH} {k : Nat} {l : List UInt8} {f : Bool} (h : RS ST H k l f) : vF P tab (n + 1) 16 [.ptr (.ob k 0)] H = some (.int .i64 (l.length : Int), H) := by
  obtain ⟨s, h1, h2⟩ := h
  rw [vF_body rfl, f16_eq]
  simp only [VP.isNil, cond_false, nn, atO, Option.bind_some]
  rw [ld_row h1]
  simp only [Nat.zero_add, List.getElem?_cons_zero, Option.bind_some, fd_sl]
  rw [h2.len, bs_len]
theorem e17 (n : Nat) {H : VH} {k : Nat} {l : List UInt8} {f : Bool} (h : RS ST H k l f) : vF P tab (n + 1) 17 [.ptr (.ob k 0)] H = some (.bool f, H) := by
  obtain ⟨s, h1, h2⟩ := h
  rw [vF_body rfl, f17_eq]
  simp only [VP.isNil, Bool.not_false, cond_true, nn, atO, Option.bind_some]
  rw [ld_row h1]
  rfl
theorem takeS_two {l : List UInt8} (h : 2 ≤ l.length) : numA 0 (takeS 2 (l.take 2) false).1 = hd l := by
  match l, h with
  | a :: b :: r, _ =>
    show (0 * 256 % 18446744073709551616 + a.toNat) * 256 % 18446744073709551616 + b.toNat = a.toNat * 256 + b.toNat
    have := a.toNat_lt
    omega
theorem hd_lt (l : List UInt8) : hd l < 65536 := by
  unfold hd
  have := (l.getD 0 0).toNat_lt
  have := (l.getD 1 0).toNat_lt
  omega
/-- The next payload. -/
def nextS (l : List UInt8) : List UInt8 × Bool × List UInt8 × Bool :=
  if l.length < 2 then ([], false, l, false) else if hd l < 1 ∨ 2048 < hd l then ([], false, [], true)
  else if l.length < 2 + hd l then ([], false, l, false) else ((l.drop 2).take (hd l), true, l.drop (2 + hd l), false)
theorem e25 (n : Nat) (hn : 300 ≤ n) {H : VH} {k : Nat} {l : List UInt8} (h : RS ST H k l false) (hl : l.length < 900000) :
    ∃ s' H', vF P tab (n + 5) 25 [.ptr (.ob k 0)] H = some (.tup [.sl 5 s', .bool (nextS l).2.1], H') ∧ IsB s' (nextS l).1 ∧ RS ST H' k (nextS l).2.2.1 (nextS l).2.2.2 ∧ Kp H H' [k] := by
  obtain ⟨s, h1, h2⟩ := h
  have hk := lt_of_ob h1
  rw [vF_body rfl, f25_eq]
  simp only [nn, atO, Option.bind_some, Nat.zero_add]
  rw [ld_row h1]
  simp only [List.getElem?_cons_zero, Option.bind_some, fd_sl]
  rw [h2.len, bs_len]
  unfold nextS
  by_cases c1 : l.length < 2
  · rw [decide_eq_true (by omega), cond_true, if_pos c1]
    exact ⟨.nil, H, rfl, .nil, ⟨s, h1, h2⟩, Kp.refl _ _⟩
  rw [decide_eq_false (by omega), cond_false, if_neg c1]
  obtain ⟨s1, g1, g2, _⟩ := h2.cut (lo := 0) (hi := 2) (by omega) (by rw [bs_len]; omega) (lo' := none) (hi' := some ((2 : Nat) : Int)) (mx' := none) (.inr ⟨rfl, rfl⟩) (.inl rfl) (.inl rfl) H 5 1
  rw [show ((2 : Nat) : Int) = 2 from rfl] at g1
  rw [g1, Option.bind_some]
  rw [List.drop_zero, bs_take] at g2
  obtain ⟨kr, H1, q1, q2, q3, q4⟩ := e28 (n + 2) (H := H) g2 (by rw [List.length_take]; omega)
  rw [callD_ptr q1, Option.bind_some]
  obtain ⟨H2, q5, q6, q7, q8⟩ := e29 n q2 hn
  simp only
  rw [callD_int q5, Option.bind_some, takeS_two (by omega)]
  simp only
  have k2 : Kp H H2 [] := q4.trans q7 (fun x hx _ => hx) (fun y hy hl => by rw [List.mem_singleton] at hy; omega)
  have h3 := k2.ob h1 (by simp)
  have hd2 := hd_lt l
  by_cases c2 : hd l = 0
  · rw [show (((hd l : Nat) : Int) == 0) = true by rw [c2]; rfl, cond_true, if_pos (by omega)]
    rw [st_row h3 (by simp) rfl, Option.bind_some, st_row (by rw [List.getElem?_set_self (lt_of_ob h3)]) (by simp [putAllV]) rfl, Option.bind_some]
    refine ⟨.nil, _, rfl, .nil, ⟨.nil, by rw [List.getElem?_set_self (by simpa using lt_of_ob h3)]; rfl, .nil⟩, ?_⟩
    exact k2.trans ((Kp.set H2 k _).trans (Kp.set _ k _) (fun x hx _ => hx) (fun y hy _ => hy)) (fun x hx _ => by cases hx) (fun y hy _ => hy)
  rw [show (((hd l : Nat) : Int) == 0) = false by rw [beq_eq_false_iff_ne]; omega, cond_false]
  by_cases c3 : 2048 < hd l
  · have hh : decide (((hd l : Nat) : Int) > 2048) = true := decide_eq_true (by omega)
    rw [hh, cond_true, if_pos (by omega)]
    rw [st_row h3 (by simp) rfl, Option.bind_some, st_row (by rw [List.getElem?_set_self (lt_of_ob h3)]) (by simp [putAllV]) rfl, Option.bind_some]
    refine ⟨.nil, _, rfl, .nil, ⟨.nil, by rw [List.getElem?_set_self (by simpa using lt_of_ob h3)]; rfl, .nil⟩, ?_⟩
    exact k2.trans ((Kp.set H2 k _).trans (Kp.set _ k _) (fun x hx _ => hx) (fun y hy _ => hy)) (fun x hx _ => by cases hx) (fun y hy _ => hy)
  have hh : decide (((hd l : Nat) : Int) > 2048) = false := decide_eq_false (by omega)
  rw [hh, cond_false, if_neg (by omega)]
  rw [ld_row h3]
  simp only [List.getElem?_cons_zero, Option.bind_some, fd_sl]
  rw [h2.len, bs_len, show (2 + ((hd l : Nat) : Int)) = ((2 + hd l : Nat) : Int) by omega, i64_nat (by omega)]
  by_cases c4 : l.length < 2 + hd l
  · rw [decide_eq_true (by omega), cond_true, if_pos c4]
    exact ⟨.nil, H2, rfl, .nil, ⟨s, h3, h2⟩, k2.weak (fun x hx => by cases hx)⟩
  rw [decide_eq_false (by omega), cond_false, if_neg c4]
  obtain ⟨s2, r1, r2, _⟩ := h2.cut (lo := 2) (hi := 2 + hd l) (by omega) (by rw [bs_len]; omega) (lo' := some ((2 : Nat) : Int)) (hi' := some ((2 + hd l : Nat) : Int)) (mx' := none) (.inl rfl) (.inl rfl) (.inl rfl) H2 5 1
  rw [show ((2 : Nat) : Int) = 2 from rfl] at r1
  rw [r1, Option.bind_some]
  rw [bs_take, bs_drop] at r2
  obtain ⟨s3, H3, t1, t2, t3, t4⟩ := e24 (n + 3) (H := H2) r2 (by rw [List.length_drop, List.length_take]; omega)
  rw [callD_sl t1, Option.bind_some]
  have h4 := t3.ob h3 (by simp)
  simp only
  rw [ld_row h4]
  simp only [List.getElem?_cons_zero, Option.bind_some, fd_sl]
  obtain ⟨s4, u1, u2, _⟩ := h2.cut (lo := 2 + hd l) (hi := l.length) (by omega) (by rw [bs_len]; omega) (lo' := some ((2 + hd l : Nat) : Int)) (hi' := none) (mx' := none) (.inl rfl) (.inr ⟨rfl, by rw [bs_len]⟩) (.inl rfl) H3 5 1
  rw [u1, Option.bind_some, st_row h4 (by simp) rfl, Option.bind_some]
  rw [List.take_of_length_le (by rw [bs_len]; exact Nat.le_refl _), bs_drop] at u2
  refine ⟨s3, _, rfl, ?_, ⟨s4, by rw [List.getElem?_set_self (lt_of_ob h4)]; rfl, u2⟩, ?_⟩
  · have e : (l.take (2 + hd l)).drop 2 = (l.drop 2).take (hd l) := by rw [List.drop_take]; congr 1; omega
    rw [← e]
    exact t2.isE
  · exact (k2.trans t3 (fun x hx _ => hx) (fun y hy _ => hy)).trans (Kp.set _ _ _) (fun x hx _ => by cases hx) (fun y hy _ => hy)
theorem closed1_B {v : VS} {l : List UInt8} (h : IsB v l) : List.all [V.sl 5 v] closed1 = true := by
  simp [h.closed 5]
theorem l15 (n : Nat) (hn : 300 ≤ n) {k : Nat} : ∀ (m : Nat) {H : VH} {l : List UInt8} {s5 : VS} {es : List (List V)} {out : List (List UInt8)}, RS ST H k l false → l.length < m → l.length + out.length < 900000 → Ap H 25 s5 es → PB es out → (∀ t ∈ toks s5, t ≠ k) →
    ∃ s' es' H', L15_0 (n + 5) m (.ob k 0) s5 H = some (.sl 25 s', H') ∧ IsE s' es' ∧ PB es' (out ++ (pull l).1) ∧ RS ST H' k (pull l).2.1 (pull l).2.2 ∧ Kp H H' (k :: toks s5) := by
  intro m
  induction m with
  | zero => intros; omega
  | succ m ih =>
    intro H l s5 es out h hm hl ha hp ht
    rw [L15_0_eq]
    obtain ⟨s', H1, g1, g2, g3, g4⟩ := e25 n hn h (by omega)
    simp only [VP.isNil, Bool.not_false, cond_true]
    rw [callD_some (τ := .tup [(.flat (.slice 5)), (.flat .bool)]) (x := (s', (nextS l).2.1, ())) _ g1 rfl, Option.bind_some]
    simp only
    rw [pull_eq]
    unfold nextS at g2 g3 ⊢
    have stop : ∀ {l' : List UInt8} {b : Bool}, RS ST H1 k l' b → ∃ s' es' H', some (V.sl 25 s5, H1) = some (V.sl 25 s', H') ∧ IsE s' es' ∧ PB es' (out ++ []) ∧ RS ST H' k l' b ∧ Kp H H' (k :: toks s5) := by
      intro l' b h
      exact ⟨s5, es, H1, rfl, ha.isE, by rw [List.append_nil]; exact hp, h, g4.weak (fun x hx _ => by rw [List.mem_singleton.1 hx]; exact List.mem_cons_self ..)⟩
    by_cases c1 : l.length < 2
    · rw [if_pos c1] at g2 g3 ⊢
      rw [if_pos c1]
      exact stop g3
    rw [if_neg c1] at g2 g3 ⊢
    rw [if_neg c1]
    by_cases c2 : hd l < 1 ∨ 2048 < hd l
    · rw [if_pos c2] at g2 g3 ⊢
      rw [if_pos c2]
      exact stop g3
    rw [if_neg c2] at g2 g3 ⊢
    rw [if_neg c2]
    by_cases c3 : l.length < 2 + hd l
    · rw [if_pos c3] at g2 g3 ⊢
      rw [if_pos c3]
      exact stop g3
    rw [if_neg c3] at g2 g3 ⊢
    rw [if_neg c3]
    simp only [Bool.not_true, cond_false]
    rw [if_pos (closed1_B g2)]
    have ha1 := ha.keep g4 (fun t h1 h2 => ht t h1 (List.mem_singleton.1 h2))
    have hpl := hp.len
    obtain ⟨s6, H2, q1, q2, q3, q4, _⟩ := ha1.app (x := .fz [[.sl 5 s'.strip]] (.ex 1)) (sz := 1) (by_ := 24) (.fz _ _) (by simp only [bound, List.length_singleton]; omega) (by simp only [bound, List.length_singleton]; omega)
    rw [q1, Option.bind_some]
    have kt : k ∉ toks s5 := fun h1 => ht k h1 rfl
    have g5 := g3.keep q3 kt
    have hp2 : PB (es ++ [[.sl 5 s'.strip]]) (out ++ [(l.drop 2).take (hd l)]) := hp.app (.cons g2.strip .nil)
    have hk : k < H1.length := by obtain ⟨s, h1, _⟩ := g3; exact lt_of_ob h1
    obtain ⟨s7, es7, H7, r1, r2, r3, r4, r5⟩ := ih g5 (by rw [List.length_drop]; omega) (by simp only [List.length_drop, List.length_append, List.length_singleton]; omega) q2 hp2 (fun t h1 h2 => by
      rcases q4 t h1 with h3 | h3
      · exact ht t h3 h2
      · omega)
    refine ⟨s7, es7, H7, r1, r2, by simpa using r3, r4, (g4.trans q3 (Z := k :: toks s5) (fun x hx _ => by rw [List.mem_singleton.1 hx]; exact List.mem_cons_self ..) (fun y hy _ => List.mem_cons_of_mem _ hy)).trans r5 (fun x hx _ => hx) (fun y hy hl => ?_)⟩
    rcases List.mem_cons.1 hy with rfl | hy
    · exact List.mem_cons_self ..
    · rcases q4 y hy with h3 | h3
      · exact List.mem_cons_of_mem _ h3
      · have := g4.len; omega
/-- What a stream tells of bytes that come. -/
def feedS (l q : List UInt8) (b : Bool) : List (List UInt8) × List UInt8 × Bool := if b = true then ([], l, true) else pull (l ++ q)
theorem e15 (n : Nat) (hn : 300 ≤ n) {H : VH} {k : Nat} {l q : List UInt8} {b : Bool} {s : VS} (h : RS ST H k l b) (hs : IsB s q) (hl : l.length + q.length < 800000) (hln : l.length + q.length ≤ n) :
    ∃ s' es' H', vF P tab (n + 6) 15 [.ptr (.ob k 0), .sl 5 s] H = some (.sl 25 s', H') ∧ IsE s' es' ∧ PB es' (feedS l q b).1 ∧ RS ST H' k (feedS l q b).2.1 (feedS l q b).2.2 ∧ Kp H H' [k] := by
  rw [vF_body rfl, f15_eq, callD_bool (e17 (n + 4) h), Option.bind_some]
  unfold feedS
  cases b with
  | true =>
    simp only [cond_true, if_true]
    exact ⟨.nil, [], H, rfl, .nil, .nil, h, Kp.refl _ _⟩
  | false =>
    simp only [cond_false, VP.isNil, Bool.not_false, cond_true, nn, atO, Option.bind_some, Nat.zero_add, Bool.false_eq_true, if_false]
    obtain ⟨s1, h1, h2⟩ := h
    have hk := lt_of_ob h1
    rw [ld_row h1]
    simp only [List.getElem?_cons_zero, Option.bind_some, fd_sl]
    obtain ⟨s2, H1, g1, g2, g3, g4⟩ := e24 (n + 4) (H := H) h2 (by omega)
    rw [callD_sl g1, Option.bind_some]
    obtain ⟨s3, H2, q1, q2, q3, q4, _⟩ := g2.app (sz := 1) (by_ := 1) hs (by rw [bs_len, bs_len]; simp only [bound]; omega) (by rw [bs_len, bs_len]; simp only [bound]; omega)
    simp only
    have h3 := g3.ob h1 (by simp)
    have kt : k ∉ toks s2 := fun h => by have := g4 k h; omega
    have h4 := q3.ob h3 kt
    rw [q1, Option.bind_some, st_row h4 (by simp) rfl, Option.bind_some]
    have k3 : Kp H2 (H2.set k (.row ST (putAllV [.sl 5 s1, .bool false] 0 [.sl 5 s3]))) [k] := Kp.set _ _ _
    have q2' := q2.isE
    rw [← bs_app] at q2'
    obtain ⟨s7, es7, H7, r1, r2, r3, r4, r5⟩ := l15 n hn (k := k) (n + 5) (l := l ++ q) (s5 := .nil) (out := []) ⟨s3, by rw [List.getElem?_set_self (lt_of_ob h4)], q2'⟩ (by rw [List.length_append]; omega) (by simp only [List.length_append, List.length_nil]; omega) .nil .nil (fun t h => by cases h)
    refine ⟨s7, es7, H7, r1, r2, by simpa using r3, r4, ?_⟩
    refine ((g3.trans q3 (Z := [k]) (fun x hx _ => by cases hx) (fun y hy hl => by have := g4 y hy; omega)).trans k3 (fun x hx _ => hx) (fun y hy _ => hy)).trans r5 (fun x hx _ => hx) (fun y hy _ => ?_)
    simpa [toks] using hy
end Go.Proofs.Ytaifjlpgggimaaa
