import Derived.Test.YthodknboobgfpaaB04q
set_option linter.unusedVariables false
set_option linter.unusedSimpArgs false
namespace Go.Proofs.Ythodknboobgfpaa
open Go.Proofs.Ythodknboobgfpaa.Sh Go.Proofs.Ythodknboobgfpaa.Sh.V Go.RowKit
/-! ### What is written over -/
theorem l3_0 (n : Nat) {s6 : VS} {q : List UInt8} (hs : IsB s6 q) (hq : q.length < 900000) (a1 : Int) {k : Nat} {Q : VRes → Prop} (hnext : ∀ {H : VH} {T : List Nat}, WS H k T q → Q ((V.callD (vF P tab (n + 60)) P false (.one (.flat (.slice 5))) 13 [.ptr (.ob k 0)] H).bind fun r4 => L3_1 (n + 60) (n + 60) a1 s6 k r4.1 0 r4.2)) :
    ∀ (m i : Nat) {H : VH} {T : List Nat}, WS H k T (q.take i) → i ≤ q.length → q.length < i + m → Q (L3_0 (n + 60) m a1 s6 k (i : Int) H) := by
  intro m
  induction m with
  | zero => intros; omega
  | succ m ih =>
    intro i H T hw h1 h2
    rw [L3_0_eq, hs.len, bs_len]
    by_cases hi : i < q.length
    · rw [decide_eq_true (by omega), cond_true]
      obtain ⟨b, hb⟩ := get_of hi
      rw [hs.rd hb]
      obtain ⟨H7, T7, g1, g2, g3, g4⟩ := e12 (n + 58) hw (b.toNat : Int) (by rw [List.length_take]; omega)
      rw [wrap_u8, u8_self] at g1
      rw [callD_ptr g1, Option.bind_some, inc_nat (by omega)]
      refine ih (i + 1) (T := T7) ?_ (by omega) (by omega)
      rw [List.take_add_one, hb]
      rw [u8_self] at g2
      exact g2
    · rw [decide_eq_false (by omega), cond_false]
      have : i = q.length := by omega
      subst this
      rw [List.take_length] at hw
      exact hnext hw
/-- Some bytes, written. -/
def IsW (H : VH) (s : VS) (c : Nat) : Prop := ∃ l : List UInt8, l.length = c ∧ IsH H s l
theorem isH_set {H : VH} {s : VS} {l : List UInt8} (h : IsH H s l) {i : Nat} (hi : i < l.length) (b : UInt8) : ∃ j, s = .hp j 0 l.length ∧ ixV 1 s (i : Int) = some (.ob j i) ∧ ∃ H', stV H (.ob j i) [.int .u8 (b.toNat : Int)] = some H' ∧ IsH H' s (l.set i b) ∧ Kp H H' [j] := by
  rcases h with ⟨rfl, rfl⟩ | ⟨j, rfl, hj⟩
  · simp at hi
  · refine ⟨j, rfl, ?_, _, st_row hj (by rw [bcs_len]; simp only [List.length_singleton]; omega) rfl, .inr ⟨j, by rw [List.length_set], ?_⟩, Kp.set _ _ _⟩
    · simp only [ixV]
      rw [if_pos (by omega), Int.toNat_natCast, Nat.zero_add, Nat.mul_one]
    · rw [List.getElem?_set_self (lt_of_ob hj)]
      simp only [putAllV, bcs, List.map_set]
theorem l3_1 (n : Nat) {s6 s9 : VS} {c : Nat} (hc : c < 900000) (b : UInt8) {k j : Nat} {Q : VRes → Prop} (hs9 : s9.len = c) (hj : ∀ x, s9 = .hp x 0 c → x = j) {l : List UInt8} {T : List Nat} (hjk : j ≠ k) (hjT : j ∉ T) (hnext : ∀ {H : VH}, WS H k T l → Q ((V.callD (vF P tab (n + 60)) P false (.one (.flat (.slice 5))) 13 [.ptr (.ob k 0)] H).bind fun r3 =>
      (V.callD (vF P tab (n + 60)) P false (.one (.flat .ptr)) 14 [.sl 5 r3.1] r3.2).bind fun r4 => L3_2 (n + 60) (n + 60) (b.toNat : Int) s6 r3.1 r4.1 0 r4.2)) :
    ∀ (m i : Nat) {H : VH}, WS H k T l → IsW H s9 c → i ≤ c → c < i + m → Q (L3_1 (n + 60) m (b.toNat : Int) s6 k s9 (i : Int) H) := by
  intro m
  induction m with
  | zero => intros; omega
  | succ m ih =>
    intro i H hw hx h1 h2
    rw [L3_1_eq, hs9]
    by_cases hi : i < c
    · rw [decide_eq_true (by omega), cond_true]
      obtain ⟨y, hy, hh⟩ := hx
      obtain ⟨x, g1, g2, H', g3, g4, g5⟩ := isH_set hh (i := i) (by omega) b
      rw [hy] at g1
      have := hj x g1; subst this
      rw [g2, Option.bind_some, g3, Option.bind_some, inc_nat (by omega)]
      refine ih (i + 1) (hw.keep g5 (by simpa using fun h => hjk h.symm) (fun t ht h => hjT (by rw [List.mem_singleton] at h; rw [← h]; exact ht))) ⟨_, by rw [List.length_set]; exact hy, g4⟩ (by omega) (by omega)
    · rw [decide_eq_false (by omega), cond_false]
      exact hnext hw
theorem l3_2 (n : Nat) {s6 s11 : VS} {c : Nat} (hc : c < 900000) (b : UInt8) {k j : Nat} {Q : VRes → Prop} (hs9 : s11.len = c) (hj : ∀ x, s11 = .hp x 0 c → x = j) {l : List UInt8} (hjk : j ≠ k) (hnext : ∀ {H : VH}, RS RT H k l false → Q (L3_3 (n + 60) (n + 60) s6 (.ob k 0) 0 H)) :
    ∀ (m i : Nat) {H : VH}, RS RT H k l false → IsW H s11 c → i ≤ c → c < i + m → Q (L3_2 (n + 60) m (b.toNat : Int) s6 s11 (.ob k 0) (i : Int) H) := by
  intro m
  induction m with
  | zero => intros; omega
  | succ m ih =>
    intro i H hw hx h1 h2
    rw [L3_2_eq, hs9]
    by_cases hi : i < c
    · rw [decide_eq_true (by omega), cond_true]
      obtain ⟨y, hy, hh⟩ := hx
      obtain ⟨x, g1, g2, H', g3, g4, g5⟩ := isH_set hh (i := i) (by omega) b
      rw [hy] at g1
      have := hj x g1; subst this
      rw [g2, Option.bind_some, g3, Option.bind_some, inc_nat (by omega)]
      exact ih (i + 1) (hw.keep g5 (by simpa using fun h => hjk h.symm)) ⟨_, by rw [List.length_set]; exact hy, g4⟩ (by omega) (by omega)
    · rw [decide_eq_false (by omega), cond_false]
      exact hnext hw
theorem l3_3 (n : Nat) (hn : 300 ≤ n) {s6 : VS} {q : List UInt8} (hs : IsB s6 q) (hq : q.length < 900000) {k : Nat} :
    ∀ (m i : Nat) {H : VH}, RS RT H k (q.drop i) false → i ≤ q.length → q.length < i + m → ∃ H', L3_3 (n + 60) m s6 (.ob k 0) (i : Int) H = some (.bool true, H') := by
  intro m
  induction m with
  | zero => intros; omega
  | succ m ih =>
    intro i H hr h1 h2
    rw [L3_3_eq, hs.len, bs_len]
    by_cases hi : i < q.length
    · rw [decide_eq_true (by omega), cond_true]
      obtain ⟨b, hb⟩ := get_of hi
      have hd : q.drop i = [b] ++ q.drop (i + 1) := by
        rw [List.drop_eq_getElem_cons hi]; rw [List.getElem?_eq_getElem hi] at hb; injection hb with hb; rw [hb]; rfl
      rw [hd] at hr
      obtain ⟨H7, g1, g2, g3, g4⟩ := e15 (n + 56) hr (by omega)
      rw [takeS_app [b] _ (c := 1) rfl] at g1 g2
      rw [hs.ix (y := bc b) (by simp [bs, hb]) 1, Option.bind_some, show ldV (.flat (.int .u8)) H (.fz (bc b)) = some (b.toNat : Int) from rfl, Option.bind_some, callD_int g1, Option.bind_some]
      simp only
      rw [show V.stays H7 (heldOf (.fz (bc b)) [.int .u8] [.int .u8 (b.toNat : Int)] ++ []) = true from rfl, cond_true]
      have : ((numA 0 [b] : Nat) : Int) = (b.toNat : Int) := by simp [numA]
      rw [this]
      simp only [bne_self_eq_false, cond_false]
      rw [inc_nat (by omega)]
      exact ih (i + 1) g2 (by omega) (by omega)
    · rw [decide_eq_false (by omega), cond_false]
      rw [List.drop_eq_nil_of_le (by omega)] at hr
      rw [callD_int (e16 (n + 58) hr), Option.bind_some]
      exact ⟨H, rfl⟩
theorem isH_len {H : VH} {s : VS} {l : List UInt8} (h : IsH H s l) : s.len = l.length := by
  rcases h with ⟨rfl, rfl⟩ | ⟨i, rfl, _⟩ <;> rfl
theorem wireOwn (n : Nat) (hn : 100000 ≤ n) {s : VS} {l : List It} (hs : IsE s (ics l)) (hok : ∀ x ∈ l, x.ok) (hl : l.length ≤ maxLen) (hl2 : l.length < n) (b : UInt8) (H : VH) : ∃ H', vF P tab (n + 61) 3 [.sl 58 s, .int .u8 (b.toNat : Int)] H = some (.bool true, H') := by
  rw [vF_body rfl, f3_eq, c9 n H, Option.bind_some]
  simp only [Bool.not_true, cond_false]
  obtain ⟨b', g1, g2⟩ := e10 (n + 59) (by omega) (H := H) hs hok hl (by omega)
  rw [callD_bool g1, Option.bind_some]
  cases b' with
  | false =>
    simp only [Bool.not_false, cond_true]
    rw [c9 n H, Option.bind_some]
    exact ⟨H, rfl⟩
  | true =>
    obtain ⟨g3, g4⟩ := g2 rfl
    simp only [Bool.not_true, cond_false]
    obtain ⟨s1, s2, q1, q2, q3⟩ := e11 (n + 29) (by omega) (H := H) hs hok g4 g3
    have he := encs_len g4
    rw [callD_some (τ := .tup [(.flat (.slice 5)), (.flat (.slice 5))]) (x := (s1, s2, ())) _ q1 rfl, Option.bind_some]
    simp only
    refine l3_0 n q3 (by omega) (b.toNat : Int) (Q := fun r => ∃ H', r = some (.bool true, H')) (fun {H1} {T} hw => ?_) (n + 60) 0 (WS.new H) (by omega) (by omega)
    obtain ⟨s9, H2, r1, r2, r3, r4⟩ := e13 (n + 58) hw (by omega)
    rw [callD_sl r1, Option.bind_some]
    have hw2 := hw.keep r4 (by simp) (by simp)
    have hk : H.length < H1.length := by obtain ⟨s, h, _⟩ := hw; exact lt_of_ob h
    have hT : ∀ t ∈ T, t < H1.length := fun t ht => by obtain ⟨g, h⟩ := hw.tok ht; exact lt_of_ob h
    obtain ⟨j, hj1, hj2⟩ : ∃ j, (∀ x, s9 = .hp x 0 (encs l).length → x = j) ∧ H1.length ≤ j := by
      rcases r2 with ⟨rfl, _⟩ | ⟨j, rfl, _⟩
      · exact ⟨H1.length, fun x hx => (by cases hx), Nat.le_refl _⟩
      · exact ⟨j, fun x hx => by injection hx with hx; exact hx.symm, r3 j rfl⟩
    refine l3_1 n (s6 := s2) (Q := fun r => ∃ H', r = some (.bool true, H')) (c := (encs l).length) (by omega) b (k := H.length) (j := j) (T := T) (l := encs l) (isH_len r2) hj1 (by omega) (fun h => by have := hT j h; omega) (fun {H3} hw3 => ?_) (n + 60) 0 hw2 ⟨_, rfl, r2⟩ (by omega) (by omega)
    obtain ⟨s11, H4, p1, p2, p3, p4⟩ := e13 (n + 58) hw3 (by omega)
    rw [callD_sl p1, Option.bind_some]
    simp only
    obtain ⟨k, H5, t1, t2, t3, t4, t5⟩ := e14 (n + 58) (Rd.ofH p2) (by omega)
    rw [callD_ptr t1, Option.bind_some]
    obtain ⟨j', hj1', hj2'⟩ : ∃ j, (∀ x, s11 = .hp x 0 (encs l).length → x = j) ∧ j ≠ k := by
      rcases p2 with ⟨rfl, _⟩ | ⟨j, rfl, h⟩
      · exact ⟨k + 1, fun x hx => (by cases hx), by omega⟩
      · exact ⟨j, fun x hx => (by injection hx with hx; exact hx.symm), (by have := lt_of_ob h; omega)⟩
    refine l3_2 n (s6 := s2) (Q := fun r => ∃ H', r = some (.bool true, H')) (c := (encs l).length) (by omega) b (k := k) (j := j') (l := encs l) (isH_len p2) hj1' hj2' (fun {H6} h6 => ?_) (n + 60) 0 t2 ⟨_, rfl, p2.keep t4 (by simp)⟩ (by omega) (by omega)
    exact l3_3 n (by omega) q3 (by omega) (n + 60) 0 h6 (by omega) (by omega)
theorem wireOwn_law (us : List V) (h : HasAs P [22, 5] us) : ∃ n H', vF P tab n 3 us [] = some (.bool true, H') := by
  match us, h with
  | [u0, u1], ⟨h0, h1, _⟩ =>
    obtain ⟨s, l, rfl, g1, g2, g3⟩ := items_of h0
    obtain ⟨x, rfl, hx⟩ := hasA_int (k := .u8) (by kernel_rfl) h1
    rw [u8_wf hx]
    exact ⟨_, wireOwn (100000 + l.length + 1) (by omega) g1 g2 g3 (by omega) _ []⟩
end Go.Proofs.Ythodknboobgfpaa
