import Derived.Test.YtaifjlpgggimaaaB13d
set_option linter.unusedVariables false
set_option linter.unusedSimpArgs false
namespace Go.Proofs.Ytaifjlpgggimaaa
open Go.Proofs.Ytaifjlpgggimaaa.Sh Go.Proofs.Ytaifjlpgggimaaa.Sh.V Go.RowKit
/-! ### FrameLong -/
theorem rep_bytes (k : Nat) : repV k [.int .u8 0] = bcs (List.replicate k 0) := by
  induction k with
  | zero => rfl
  | succ k ih => rw [repV, ih, List.replicate_succ', bcs, bcs, List.map_append]; rfl
theorem mk_bytes (H : VH) {k : Nat} (hk : k < 1000000) : V.mkD P false H 5 (k : Int) (k : Int) = some (.hp H.length 0 k, H ++ [.row 5 (bcs (List.replicate k 0))]) := by
  unfold V.mkD
  rw [holdV_eq, show P.bytesOf 5 = 1 by kernel_rfl, if_pos ⟨by omega, by omega, by simp only [bound]; omega, by rw [show IntKind.i64.max = 9223372036854775807 by kernel_rfl]; omega⟩, show V.zeroV P 5 = some [.int .u8 0] by kernel_rfl, Option.bind_some, if_pos (by kernel_rfl), cond_false, Int.toNat_natCast, rep_bytes]
theorem isH_rd {H : VH} {s : VS} {l : List UInt8} (h : IsH H s l) {i : Nat} {b : UInt8} (hb : l[i]? = some b) {β : Type} (f : Int → Option β) : ((ixV 1 s (i : Int)).bind fun p => (ldV (.flat (.int .u8)) H p).bind f) = f (b.toNat : Int) := by
  rcases h with ⟨rfl, rfl⟩ | ⟨j, rfl, hj⟩
  · simp at hb
  · have hlt := (List.getElem?_eq_some_iff.1 hb).1
    simp only [ixV]
    rw [if_pos (by omega), Option.bind_some, ld_row hj, Int.toNat_natCast, Nat.zero_add, Nat.mul_one]
    have : (bcs l)[i]? = some (.int .u8 (b.toNat : Int)) := by unfold bcs; rw [List.getElem?_map, hb]; rfl
    rw [this, Option.bind_some]
    show (V.fdec (.int .u8) (.int .u8 (b.toNat : Int))).bind f = _
    rw [fd_int]
    rfl
theorem isH_str {H : VH} {s : VS} {l : List UInt8} (h : IsH H s l) : strV H 5 s = some ⟨l.toArray⟩ := by
  rcases h with ⟨rfl, rfl⟩ | ⟨j, rfl, hj⟩
  · rfl
  · unfold strV
    simp only
    by_cases h0 : l.length = 0
    · rw [if_pos h0, List.eq_nil_of_length_eq_zero h0]
    · rw [if_neg h0]
      unfold hpCells takeN
      rw [rowV_of hj, Option.bind_some, bcs_len, if_pos (by omega), Option.bind_some, List.drop_zero, List.take_of_length_le (by rw [bcs_len]; exact Nat.le_refl _)]
      have : (bcs l).map (fun v => [v]) = bs l := by unfold bcs bs; rw [List.map_map]; rfl
      rw [this, bytesOf_bs]
      rfl
theorem isH_set {H : VH} {s : VS} {l : List UInt8} (h : IsH H s l) {i : Nat} (hi : i < l.length) (b : UInt8) : ∃ j, s = .hp j 0 l.length ∧ ixV 1 s (i : Int) = some (.ob j i) ∧ ∃ H', stV H (.ob j i) [.int .u8 (b.toNat : Int)] = some H' ∧ IsH H' s (l.set i b) ∧ Kp H H' [j] := by
  rcases h with ⟨rfl, rfl⟩ | ⟨j, rfl, hj⟩
  · simp at hi
  · refine ⟨j, rfl, ?_, _, st_row hj (by rw [bcs_len]; simp only [List.length_singleton]; omega) rfl, .inr ⟨j, by rw [List.length_set], ?_⟩, Kp.set _ _ _⟩
    · simp only [ixV]
      rw [if_pos (by omega), Int.toNat_natCast, Nat.zero_add, Nat.mul_one]
    · rw [List.getElem?_set_self (lt_of_ob hj)]
      simp only [putAllV, bcs, List.map_set]
theorem l21h (n : Nat) {H : VH} {s t : VS} {l : List UInt8} (hs : IsB s l) (ht : IsH H t l) (hb : l.length ≤ maxLen) : ∀ (m i : Nat), i ≤ l.length → l.length < i + m → L21_0 n m s t (i : Int) H = some (.bool true, H) := by
  have hm := maxLen_eq
  intro m
  induction m with
  | zero => intro i h1 h2; omega
  | succ m ih =>
    intro i h1 h2
    rw [L21_0_eq, hs.len, bs_len]
    by_cases hi : i < l.length
    · rw [decide_eq_true (by omega), cond_true]
      obtain ⟨a, ha⟩ := get_of hi
      rw [hs.rd ha, isH_rd ht ha]
      simp only [bne_self_eq_false, cond_false]
      rw [inc_nat (by omega)]
      exact ih (i + 1) (by omega) (by omega)
    · rw [decide_eq_false (by omega), cond_false]
theorem isH_len {H : VH} {s : VS} {l : List UInt8} (h : IsH H s l) : s.len = l.length := by
  rcases h with ⟨rfl, rfl⟩ | ⟨i, rfl, _⟩ <;> rfl
theorem e21h (n : Nat) {H : VH} {s t : VS} {l : List UInt8} (hs : IsB s l) (ht : IsH H t l) (h0 : l ≠ []) (hb : l.length ≤ maxLen) (hn : l.length < n) : vF P tab (n + 1) 21 [.sl 5 s, .sl 5 t] H = some (.bool true, H) := by
  have hc : [V.sl 5 s, V.sl 5 t].all closedC = false := by
    rcases ht with ⟨_, h⟩ | ⟨j, rfl, _⟩
    · exact absurd h h0
    · simp [closedC, closed1, basic]
  rw [vF_open rfl hc, f21_eq, hs.len, bs_len, isH_len ht]
  simp only [bne_self_eq_false, cond_false]
  exact l21h n hs ht hb n 0 (by omega) (by omega)
theorem e12h (n : Nat) {H : VH} {s : VS} {p : List UInt8} (h : IsH H s p) (h0 : p ≠ []) (hl : p.length < 900000) : ∃ s' H', vF P tab (n + 4) 12 [.sl 5 s] H = some (.sl 5 s', H') ∧ IsB s' (textI p) ∧ Kp H H' [] := by
  have hc : [V.sl 5 s].all closedC = false := by
    rcases h with ⟨_, h⟩ | ⟨j, rfl, _⟩
    · exact absurd h h0
    · simp [closedC, closed1, basic]
  rw [vF_open rfl hc]
  exact b12 n (fun H' k => isH_str (h.keep k (by simp))) hl
theorem l6 (n : Nat) (hn : 5000 ≤ n) (b : UInt8) {c : Nat} (hc : 1 ≤ c ∧ c ≤ 2048) {s6 : VS} : ∀ (m i : Nat) {H : VH} {l : List UInt8}, IsH H s6 l → l.length = c → l.take i = List.replicate i b → i ≤ c → c < i + m →
    ∃ H', L6_0 (n + 100) m (b.toNat : Int) (c : Int) s6 (i : Int) H = some (.bool true, H') := by
  intro m
  induction m with
  | zero => intros; omega
  | succ m ih =>
    intro i H l h hl ht h1 h2
    rw [L6_0_eq]
    by_cases hi : i < c
    · rw [decide_eq_true (by omega), cond_true]
      obtain ⟨j, g1, g2, H', g3, g4, g5⟩ := isH_set h (i := i) (by omega) b
      rw [g2, Option.bind_some, g3, Option.bind_some, inc_nat (by omega)]
      refine ih (i + 1) g4 (by rw [List.length_set]; exact hl) ?_ (by omega) (by omega)
      rw [List.take_add_one, List.take_set_of_le (Nat.le_refl _), ht, List.getElem?_set_self (by omega), List.replicate_succ']
      rfl
    · rw [decide_eq_false (by omega), cond_false]
      have : i = c := by omega
      subst this
      have hp : l = List.replicate i b := by rw [← ht, List.take_of_length_le (by omega)]
      have h0 : l ≠ [] := fun h => by rw [h] at hl; simp at hl; omega
      rw [callD_ptr (e13 (n + 99) H), Option.bind_some]
      obtain ⟨k, hk⟩ : ∃ k, k = H.length := ⟨_, rfl⟩
      have hr := new_st H
      have kp0 : Kp H (H ++ [.row ST [.sl 5 .nil, .bool false]]) [] := Kp.app _ _
      have hh := h.keep kp0 (by simp)
      generalize hHH : H ++ [VO.row ST [.sl 5 .nil, .bool false]] = H0 at hr hh kp0
      rw [← hk] at hr ⊢
      have hjk : ∀ j, s6 = .hp j 0 l.length → j ≠ k := by
        intro j hj
        rcases h with ⟨h1, _⟩ | ⟨j', h1, h2⟩
        · rw [h1] at hj; cases hj
        · rw [h1] at hj; injection hj with hj; have := lt_of_ob h2; omega
      simp only
      obtain ⟨sf, H1, q1, q2, q3⟩ := e12h (n + 96) hh h0 (by omega)
      have hfl := textI_len l
      rw [callD_sl q1, Option.bind_some]
      simp only
      rw [q2.len, bs_len, show (((textI l).length : Nat) : Int) - 1 = (((textI l).length - 1 : Nat) : Int) by omega, i64_nat (by omega)]
      have r1 := hr.keep q3 (by simp)
      have hh1 := hh.keep q3 (by simp)
      obtain ⟨z5, u1, u2, _⟩ := q2.cut (lo := 0) (hi := (textI l).length - 1) (by omega) (by rw [bs_len]; omega) (lo' := none) (hi' := some (((textI l).length - 1 : Nat) : Int)) (mx' := none) (.inr ⟨rfl, rfl⟩) (.inl rfl) (.inl rfl) H1 5 1
      rw [u1, Option.bind_some]
      rw [List.drop_zero, bs_take] at u2
      have hkl : ((textI l).take ((textI l).length - 1)).length = (textI l).length - 1 := by rw [List.length_take]; omega
      obtain ⟨s', es', H2, w1, w2, w3, w4, w5⟩ := e15 (n + 94) (by omega) r1 u2 (by simp only [List.length_nil]; omega) (by simp only [List.length_nil]; omega)
      have ep : feedS [] ((textI l).take ((textI l).length - 1)) false = ([], (textI l).take ((textI l).length - 1), false) := by
        unfold feedS
        rw [if_neg (by simp), List.nil_append, pull_part (by omega) (by omega) (by omega)]
      rw [ep] at w3 w4
      simp only at w3 w4
      rw [callD_sl w1, Option.bind_some]
      simp only
      rw [callD_int (e16 (n + 99) w4), Option.bind_some]
      simp only
      obtain ⟨z8, v1, v2, _⟩ := q2.cut (lo := (textI l).length - 1) (hi := (textI l).length) (by omega) (by rw [bs_len]; omega) (lo' := some (((textI l).length - 1 : Nat) : Int)) (hi' := none) (mx' := none) (.inl rfl) (.inr ⟨rfl, by rw [bs_len]⟩) (.inl rfl) H2 5 1
      rw [v1, Option.bind_some]
      rw [List.take_of_length_le (by rw [bs_len]; exact Nat.le_refl _), bs_drop] at v2
      obtain ⟨s2, es2, H3, x1, x2, x3, x4, x5⟩ := e15 (n + 94) (by omega) w4 v2 (by rw [List.length_drop]; omega) (by rw [List.length_drop]; omega)
      have ef : feedS ((textI l).take ((textI l).length - 1)) ((textI l).drop ((textI l).length - 1)) false = ([l], [], false) := by
        unfold feedS
        rw [if_neg (by simp), List.take_append_drop]
        have := pull_text l [] (by omega) (by omega)
        rw [List.append_nil] at this
        rw [this]
        rfl
      rw [ef] at x3 x4
      simp only at x3 x4
      rw [callD_sl x1, Option.bind_some]
      simp only
      rw [w2.len, w3.len, x2.len, x3.len, hkl]
      simp only [List.length_nil, List.length_singleton]
      rw [show (((0 : Nat) : Int) == 0) = true from rfl, cond_true, show (((1 : Nat) : Int) == 1) = true from rfl]
      have e9 : ((((textI l).length - 1 : Nat) : Int) == IntKind.wrap .i64 ((i : Int) + 1)) = true := by
        rw [inc_nat (by omega)]
        simp only [beq_iff_eq]
        omega
      rw [e9, cond_true, cond_true]
      obtain ⟨v, hv, hrd⟩ := rdB x2 x3 (i := 0) rfl
      rw [show ((0 : Nat) : Int) = 0 from rfl] at hrd
      rw [hrd]
      have hh3 := (hh1.keep w5 (fun j hj h => hjk j hj (List.mem_singleton.1 h))).keep x5 (fun j hj h => hjk j hj (List.mem_singleton.1 h))
      rw [callD_bool (e21h (n + 99) hv hh3 h0 (by rw [maxLen_eq]; omega) (by omega)), Option.bind_some]
      exact ⟨_, rfl⟩
theorem frameLong (n : Nat) (hn : 5000 ≤ n) {a : Nat} (ha : a < 65536) (b : UInt8) (H : VH) : ∃ H', vF P tab (n + 101) 6 [.int .u16 (a : Int), .int .u8 (b.toNat : Int)] H = some (.bool true, H') := by
  rw [vF_body rfl, f6_eq, c9 n H, Option.bind_some]
  simp only [Bool.not_true, cond_false]
  rw [show (3 : Int) = ((3 : Nat) : Int) from rfl, remI_nat (by decide), Option.bind_some, i64_nat (n := a % 3) (by omega), show (2048 - ((a % 3 : Nat) : Int)) = ((2048 - a % 3 : Nat) : Int) by omega, i64_nat (by omega), mk_bytes H (by omega), Option.bind_some]
  exact l6 n hn b (c := 2048 - a % 3) (by omega) (n + 100) 0 (l := List.replicate (2048 - a % 3) 0) (.inr ⟨H.length, by simp, by simp⟩) (by simp) (by simp) (by omega) (by omega)
theorem frameLong_law (us : List V) (h : HasAs P [38, 5] us) : ∃ n H', vF P tab n 6 us [] = some (.bool true, H') := by
  match us, h with
  | [u0, u1], ⟨h0, h1, _⟩ =>
    obtain ⟨x, rfl, hx⟩ := hasA_int (k := .u16) (by kernel_rfl) h0
    obtain ⟨y, rfl, hy⟩ := hasA_int (k := .u8) (by kernel_rfl) h1
    obtain ⟨x1, x2⟩ := wf_u16 hx
    obtain ⟨a, rfl⟩ : ∃ a : Nat, x = (a : Int) := ⟨x.toNat, by omega⟩
    rw [u8_wf hy]
    exact ⟨_, frameLong 5000 (by omega) (by omega) _ []⟩
end Go.Proofs.Ytaifjlpgggimaaa
