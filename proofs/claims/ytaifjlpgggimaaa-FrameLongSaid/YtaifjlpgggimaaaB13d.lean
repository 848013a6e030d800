import Derived.Test.YtaifjlpgggimaaaB13c
set_option linter.unusedVariables false
set_option linter.unusedSimpArgs false
namespace Go.Proofs.Ytaifjlpgggimaaa
open Go.Proofs.Ytaifjlpgggimaaa.Sh Go.Proofs.Ytaifjlpgggimaaa.Sh.V Go.RowKit
/-! ### FrameBreaks -/
theorem fill_ok {ls : List (List UInt8)} (hc : ∀ x ∈ ls, x.length ≤ 200) : ∀ x ∈ ls.map fill, 1 ≤ x.length ∧ x.length ≤ 2048 := by
  intro x hx
  obtain ⟨y, hy, rfl⟩ := List.mem_map.1 hx
  have := hc y hy
  unfold fill
  split
  · simp
  · omega
theorem block5 (n : Nat) (hn : 5000 ≤ n) {s s2 : VS} {es : List (List V)} {ls : List (List UInt8)} {more : List UInt8} (hs : IsE s es) (hp : PB es ls) (h2 : IsB s2 more) (hc : ∀ x ∈ ls, x.length ≤ 200) (h8 : ls.length ≤ 8) (hm : more.length ≤ 100) (H : VH) {a : Nat} (ha : a < 65536) (hbad : a = 0 ∨ 2048 < a) :
    ∃ H', ((V.callD (vF P tab (n + 100)) P false (.one (.flat (.slice 5))) 18 [.sl 25 s, .sl 5 (.fz [[.int .u8 (IntKind.wrap .u8 ((a / 256 : Nat) : Int))], [.int .u8 (IntKind.wrap .u8 (a : Int))]] (.ex 2))] H).bind fun r16 =>
      ((V.callD (vF P tab (n + 100)) P false (.one (.flat .ptr)) 13 [] r16.2).bind fun r17 =>
      ((V.callD (vF P tab (n + 100)) P false (.one (.flat (.slice 25))) 15 [.ptr r17.1, .sl 5 r16.1] r17.2).bind fun r18 =>
      (cond ((((VS.len r18.1 : Nat) : Int) : Int) == ((VS.len s : Nat) : Int))
      ((V.callD (vF P tab (n + 100)) P false (.one (.flat .bool)) 17 [.ptr r17.1] r18.2).bind fun r19 =>
      (cond r19.1
      ((V.callD (vF P tab (n + 100)) P false (.one (.flat (.int .i64))) 16 [.ptr r17.1] r19.2).bind fun r20 =>
      (cond ((r20.1 : Int) == 0)
      ((V.callD (vF P tab (n + 100)) P false (.one (.flat (.slice 5))) 20 [.sl 5 (.fz [[.int .u8 1]] (.ex 1))] r20.2).bind fun r21 =>
      ((V.callD (vF P tab (n + 100)) P false (.one (.flat (.slice 5))) 11 [.sl 5 r21.1, .sl 5 s2] r21.2).bind fun r22 =>
      ((V.callD (vF P tab (n + 100)) P false (.one (.flat (.slice 25))) 15 [.ptr r17.1, .sl 5 r22.1] r22.2).bind fun r23 =>
      (cond ((((VS.len r23.1 : Nat) : Int) : Int) == 0)
      ((V.callD (vF P tab (n + 100)) P false (.one (.flat .bool)) 17 [.ptr r17.1] r23.2).bind fun r24 =>
      (some (V.bool r24.1, r24.2)))
      (some (V.bool false, r23.2))))))
      (some (V.bool false, r20.2))))
      (some (V.bool false, r19.2))))
      (some (V.bool false, r18.2)))))) = some (.bool true, H') := by
  have hfl := fills_len hc h8
  obtain ⟨s7, q1, q2⟩ := e18 (n + 87) (H := H) (s1 := .fz [[.int .u8 (IntKind.wrap .u8 ((a / 256 : Nat) : Int))], [.int .u8 (IntKind.wrap .u8 (a : Int))]] (.ex 2)) (bad := [u8 ((a / 256 : Nat) : Int), u8 (a : Int)]) hs hp (by rw [bc_wrap, bc_wrap]; exact .fz _ _) hc h8 (by simp)
  rw [callD_sl q1, Option.bind_some, callD_ptr (e13 (n + 99) H), Option.bind_some]
  simp only
  obtain ⟨s', es', H1, g1, g2, g3, g4, g5⟩ := e15 (n + 94) (by omega) (new_st H) q2 (by simp only [List.length_nil, List.length_append, List.length_cons]; omega) (by simp only [List.length_nil, List.length_append, List.length_cons]; omega)
  have e0 : pull [u8 ((a / 256 : Nat) : Int), u8 (a : Int)] = ([], [], true) := by
    have eh : hd [u8 ((a / 256 : Nat) : Int), u8 (a : Int)] = a := by
      show (u8 ((a / 256 : Nat) : Int)).toNat * 256 + (u8 (a : Int)).toNat = a
      rw [u8_nat, u8_nat]; omega
    rw [pull_eq, eh, if_neg (by simp), if_pos (by omega)]
  have ep : feedS [] (frames (ls.map fill) ++ [u8 ((a / 256 : Nat) : Int), u8 (a : Int)]) false = (ls.map fill, [], true) := by
    unfold feedS
    rw [if_neg (by simp), List.nil_append, pull_frames _ _ (fill_ok hc), e0]
    simp
  rw [ep] at g3 g4
  simp only at g3 g4
  rw [callD_sl g1, Option.bind_some]
  simp only
  rw [g2.len, g3.len, hs.len, hp.len, List.length_map]
  simp only [BEq.rfl, cond_true]
  rw [callD_bool (e17 (n + 99) g4), Option.bind_some]
  simp only [cond_true]
  rw [callD_int (e16 (n + 99) g4), Option.bind_some]
  simp only [List.length_nil]
  rw [show (((0 : Nat) : Int) == 0) = true from rfl, cond_true]
  obtain ⟨s8, t1, t2⟩ := e20 (n + 98) (H := H1) (a := .fz [[.int .u8 1]] (.ex 1)) (la := [1]) (.fz _ _) (by simp)
  rw [callD_sl t1, Option.bind_some]
  simp only
  obtain ⟨s9, t3, t4⟩ := e11 (n + 99) (H := H1) t2 h2 (by rw [textI_len]; simp only [List.length_singleton]; omega)
  rw [callD_sl t3, Option.bind_some]
  simp only
  obtain ⟨s10, es10, H2, u1, u2, u3, u4, u5⟩ := e15 (n + 94) (by omega) g4 t4 (by simp only [List.length_append, textI_len, List.length_nil, List.length_singleton]; omega) (by simp only [List.length_append, textI_len, List.length_nil, List.length_singleton]; omega)
  rw [callD_sl u1, Option.bind_some]
  have ef : ∀ q, feedS [] q true = ([], [], true) := fun q => by unfold feedS; rw [if_pos rfl]
  rw [ef] at u3 u4
  simp only at u3 u4
  simp only
  rw [u2.len, u3.len]
  simp only [List.length_nil]
  rw [show (((0 : Nat) : Int) == 0) = true from rfl, cond_true, callD_bool (e17 (n + 99) u4), Option.bind_some]
  exact ⟨_, rfl⟩
theorem shr16 (a : Nat) : shrI .u16 (a : Int) 8 = some ((a / 256 : Nat) : Int) := by
  have := shrI_nat (k := .u16) (x := a) (s := 8) (by decide)
  rw [show ((8 : Nat) : Int) = 8 from rfl] at this
  rw [this]
theorem frameBreaks (n : Nat) (hn : 5000 ≤ n) {s s2 : VS} {es : List (List V)} {ls : List (List UInt8)} {more : List UInt8} (hs : IsE s es) (hp : PB es ls) (h2 : IsB s2 more) (hl : ls.length ≤ maxLen) (hln : ls.length < n) {a : Nat} (ha : a < 65536) (H : VH) :
    ∃ H', vF P tab (n + 101) 5 [.sl 25 s, .int .u16 (a : Int), .sl 5 s2] H = some (.bool true, H') := by
  rw [vF_body rfl, f5_eq, c9 n H, Option.bind_some]
  simp only [Bool.not_true, cond_false]
  obtain ⟨b, g1, g2⟩ := e10 (n + 99) (H := H) hs hp h2 hl (by omega)
  rw [callD_bool g1, Option.bind_some]
  cases b with
  | false =>
    simp only [Bool.not_false, cond_true]
    rw [c9 n H, Option.bind_some]
    exact ⟨H, rfl⟩
  | true =>
    obtain ⟨h8, hm, hc⟩ := g2 rfl
    simp only [Bool.not_true, cond_false]
    by_cases c1 : 1 ≤ a
    · rw [decide_eq_true (by omega), cond_true]
      by_cases c2 : a ≤ 2048
      · rw [decide_eq_true (by omega), cond_true]
        have := shr16 0
        rw [show ((0 : Nat) : Int) = 0 from rfl] at this
        rw [this, Option.bind_some]
        exact block5 n hn hs hp h2 hc h8 hm H (a := 0) (by omega) (.inl rfl)
      · rw [decide_eq_false (by omega), cond_false, shr16, Option.bind_some]
        exact block5 n hn hs hp h2 hc h8 hm H ha (.inr (by omega))
    · rw [decide_eq_false (by omega), cond_false, shr16, Option.bind_some]
      exact block5 n hn hs hp h2 hc h8 hm H ha (.inl (by omega))
theorem frameBreaks_law (us : List V) (h : HasAs P [22, 38, 25] us) : ∃ n H', vF P tab n 5 us [] = some (.bool true, H') := by
  match us, h with
  | [u0, u1, u2], ⟨h0, h1, h2, _⟩ =>
    obtain ⟨s, es, l, rfl, i1, i2, i3⟩ := pays_of h0
    obtain ⟨x, rfl, hx⟩ := hasA_int (k := .u16) (by kernel_rfl) h1
    obtain ⟨s2, l2, rfl, k1, _⟩ := hasA_bytes (e := 5) (by kernel_rfl) (by kernel_rfl) h2
    obtain ⟨x1, x2⟩ := wf_u16 hx
    obtain ⟨a, rfl⟩ : ∃ a : Nat, x = (a : Int) := ⟨x.toNat, by omega⟩
    exact ⟨_, frameBreaks (5000 + l.length + 1) (by omega) i1 i2 k1 i3 (by omega) (by omega) []⟩
/-! ### FrameHeld -/
theorem pull_part {p : List UInt8} (h1 : 1 ≤ p.length) (h2 : p.length ≤ 2048) {k : Nat} (hk : k < 2 + p.length) : pull ((textI p).take k) = ([], (textI p).take k, false) := by
  rw [pull_eq]
  have hl : ((textI p).take k).length = k := by rw [List.length_take, textI_len]; omega
  rw [hl]
  by_cases c : k < 2
  · rw [if_pos c]
  · rw [if_neg c]
    have hh : hd ((textI p).take k) = p.length := by
      have e := hd_text p [] (by omega)
      rw [List.append_nil] at e
      rw [← e]
      conv => rhs; rw [← List.take_append_drop k (textI p)]
      rw [hd_app _ _ (by omega)]
    rw [hh, if_neg (by omega), if_pos (by omega)]
theorem frameHeld (n : Nat) (hn : 5000 ≤ n) {s : VS} {p : List UInt8} (hs : IsB s p) (hl : p.length ≤ maxLen) {a : Nat} (ha : a < 256) (H : VH) :
    ∃ H', vF P tab (n + 101) 8 [.sl 5 s, .int .u8 (a : Int)] H = some (.bool true, H') := by
  rw [vF_body rfl, f8_eq, c9 n H, Option.bind_some]
  simp only [Bool.not_true, cond_false]
  rw [hs.len, bs_len]
  by_cases c1 : 200 < p.length
  · rw [decide_eq_true (by omega), cond_true, c9 n H, Option.bind_some]
    exact ⟨H, rfl⟩
  rw [decide_eq_false (by omega), cond_false]
  by_cases c2 : p.length = 0
  · rw [show (((p.length : Nat) : Int) == 0) = true by rw [c2]; rfl, cond_true, c9 n H, Option.bind_some]
    exact ⟨H, rfl⟩
  rw [show (((p.length : Nat) : Int) == 0) = false by rw [beq_eq_false_iff_ne]; omega, cond_false]
  obtain ⟨sf, g1, g2⟩ := e20 (n + 98) (H := H) hs (by omega)
  have hfl := textI_len p
  rw [callD_sl g1, Option.bind_some]
  simp only
  rw [g2.len, bs_len, i64_nat (by omega), remI_nat (by omega), Option.bind_some, callD_ptr (e13 (n + 99) H), Option.bind_some]
  have hk : a % (textI p).length < (textI p).length := Nat.mod_lt _ (by omega)
  generalize a % (textI p).length = k at hk
  simp only
  obtain ⟨z8, u1, u2, _⟩ := g2.cut (lo := 0) (hi := k) (by omega) (by rw [bs_len]; omega) (lo' := none) (hi' := some (k : Int)) (mx' := none) (.inr ⟨rfl, rfl⟩) (.inl rfl) (.inl rfl) (H ++ [.row ST [.sl 5 .nil, .bool false]]) 5 1
  rw [u1, Option.bind_some]
  rw [List.drop_zero, bs_take] at u2
  have hkl : ((textI p).take k).length = k := by rw [List.length_take]; omega
  obtain ⟨s', es', H1, q1, q2, q3, q4, q5⟩ := e15 (n + 94) (by omega) (new_st H) u2 (by simp only [List.length_nil]; omega) (by simp only [List.length_nil]; omega)
  have ep : feedS [] ((textI p).take k) false = ([], (textI p).take k, false) := by
    unfold feedS
    rw [if_neg (by simp), List.nil_append, pull_part (by omega) (by omega) (by omega)]
  rw [ep] at q3 q4
  simp only at q3 q4
  rw [callD_sl q1, Option.bind_some]
  simp only
  rw [q2.len, q3.len]
  simp only [List.length_nil]
  rw [show (((0 : Nat) : Int) == 0) = true from rfl, cond_true, callD_int (e16 (n + 99) q4), Option.bind_some]
  simp only
  rw [hkl]
  simp only [BEq.rfl, cond_true]
  rw [callD_bool (e17 (n + 99) q4), Option.bind_some]
  simp only [Bool.not_false, cond_true]
  obtain ⟨z12, v1, v2, _⟩ := g2.cut (lo := k) (hi := (textI p).length) (by omega) (by rw [bs_len]; omega) (lo' := some (k : Int)) (hi' := none) (mx' := none) (.inl rfl) (.inr ⟨rfl, by rw [bs_len]⟩) (.inl rfl) H1 5 1
  rw [v1, Option.bind_some]
  rw [List.take_of_length_le (by rw [bs_len]; exact Nat.le_refl _), bs_drop] at v2
  obtain ⟨s2, es2, H2, w1, w2, w3, w4, w5⟩ := e15 (n + 94) (by omega) q4 v2 (by rw [List.length_drop]; omega) (by rw [List.length_drop]; omega)
  have ef : feedS ((textI p).take k) ((textI p).drop k) false = ([p], [], false) := by
    unfold feedS
    rw [if_neg (by simp), List.take_append_drop]
    have := pull_text p [] (by omega) (by omega)
    rw [List.append_nil] at this
    rw [this]
    rfl
  rw [ef] at w3 w4
  simp only at w3 w4
  rw [callD_sl w1, Option.bind_some]
  simp only
  rw [w2.len, w3.len]
  simp only [List.length_singleton]
  rw [show (((1 : Nat) : Int) == 1) = true from rfl, cond_true, callD_int (e16 (n + 99) w4), Option.bind_some]
  exact ⟨_, rfl⟩
theorem frameHeld_law (us : List V) (h : HasAs P [25, 5] us) : ∃ n H', vF P tab n 8 us [] = some (.bool true, H') := by
  match us, h with
  | [u0, u1], ⟨h0, h1, _⟩ =>
    obtain ⟨s, l, rfl, j1, j2⟩ := hasA_bytes (e := 5) (by kernel_rfl) (by kernel_rfl) h0
    obtain ⟨x, rfl, hx⟩ := hasA_int (k := .u8) (by kernel_rfl) h1
    obtain ⟨x1, x2⟩ := wf_u8 hx
    obtain ⟨a, rfl⟩ : ∃ a : Nat, x = (a : Int) := ⟨x.toNat, by omega⟩
    exact ⟨_, frameHeld 5000 (by omega) j1 j2 (by omega) []⟩
end Go.Proofs.Ytaifjlpgggimaaa
