import Derived.Test.YthodknboobgfpaaB04n
set_option linter.unusedVariables false
set_option linter.unusedSimpArgs false
namespace Go.Proofs.Ythodknboobgfpaa
open Go.Proofs.Ythodknboobgfpaa.Sh Go.Proofs.Ythodknboobgfpaa.Sh.V Go.RowKit
/-! ### The document's bytes -/
theorem l31 (n : Nat) {H : VH} {s t : VS} {l r : List UInt8} (hs : IsB s l) (ht : IsB t r) (hl : l.length = r.length) (hb : l.length ≤ maxLen) : ∀ (m i : Nat), i ≤ l.length → l.length < i + m → L31_0 n m s t (i : Int) H = some (.bool (decide (l.drop i = r.drop i)), H) := by
  have hm := maxLen_eq
  intro m
  induction m with
  | zero => intro i h1 h2; omega
  | succ m ih =>
    intro i h1 h2
    rw [L31_0_eq, hs.len, bs_len]
    by_cases hi : i < l.length
    · rw [decide_eq_true (by omega), cond_true]
      obtain ⟨a, ha⟩ := get_of hi
      obtain ⟨b, hb⟩ := get_of (l := r) (i := i) (by omega)
      rw [hs.rd ha, ht.rd hb]
      have e1 : l.drop i = a :: l.drop (i + 1) := by rw [List.drop_eq_getElem_cons hi]; rw [List.getElem?_eq_getElem hi] at ha; injection ha with ha; rw [ha]
      have e2 : r.drop i = b :: r.drop (i + 1) := by
        have hi2 : i < r.length := by omega
        rw [List.drop_eq_getElem_cons hi2]; rw [List.getElem?_eq_getElem hi2] at hb; injection hb with hb; rw [hb]
      by_cases hab : a = b
      · subst hab
        simp only [bne_self_eq_false, cond_false]
        rw [inc_nat (by omega), ih (i + 1) (by omega) (by omega), e1, e2]
        simp
      · have : (((a.toNat : Int)) != (b.toNat : Int)) = true := by
          simp only [bne_iff_ne, ne_eq]
          intro h
          exact hab (UInt8.toNat_inj.1 (by omega))
        rw [this, cond_true, e1, e2, decide_eq_false (by intro h; injection h with h; exact hab h)]
    · rw [decide_eq_false (by omega), cond_false, List.drop_eq_nil_of_le (by omega), List.drop_eq_nil_of_le (by omega)]
      simp
theorem e31 (n : Nat) {H : VH} {s t : VS} {l r : List UInt8} (hs : IsB s l) (ht : IsB t r) (hb : l.length ≤ maxLen) (hn : l.length < n) : vF P tab (n + 1) 31 [.sl 5 s, .sl 5 t] H = some (.bool (decide (l = r)), H) := by
  refine vF_lone (r := .bool (decide (l = r))) (H1 := []) rfl (by simp [closed_sl 5 hs, closed_sl 5 ht]) ?_ rfl
  show bodyV P tab (vF P tab n) n 31 [.sl 5 s.strip, .sl 5 t.strip] [] = _
  rw [f31_eq, hs.strip.len, ht.strip.len, bs_len, bs_len]
  by_cases h : l.length = r.length
  · rw [h]
    simp only [bne_self_eq_false, cond_false]
    have := l31 n (H := []) hs.strip ht.strip h hb n 0 (by omega) (by omega)
    simpa using this
  · have h1 : (((l.length : Nat) : Int) != ((r.length : Nat) : Int)) = true := by simp only [bne_iff_ne, ne_eq]; omega
    rw [h1, cond_true, decide_eq_false (by intro h2; exact h (by rw [h2]))]
theorem e34 (n : Nat) (x : Int) (H : VH) : vF P tab (n + 1) 34 [.int .i64 x] H = some (.sl 5 (.fz (bs (numI x)) (.ex 2)), H) := by
  have h : bodyV P tab (vF P tab n) n 34 ([.int .i64 x].map stripC) [] = some (.sl 5 (.fz (bs (numI x)) (.ex 2)), []) := by
    show bodyV P tab (vF P tab n) n 34 [.int .i64 x] [] = _
    rw [f34_eq, IntKind.wrap_u64]
    obtain ⟨y, hy⟩ : ∃ y : Nat, x % 18446744073709551616 = (y : Int) := ⟨(x % 18446744073709551616).toNat, by omega⟩
    rw [hy, show (65536 : Int) = ((65536 : Nat) : Int) from rfl, remI_nat (by decide), Option.bind_some, show (256 : Int) = ((256 : Nat) : Int) from rfl, quoI_nat (by decide) (by rw [wrap_u64_nat]; omega), Option.bind_some, remI_nat (by decide), Option.bind_some, bc_wrap, bc_wrap]
    have e1 : u8 ((y % 65536 / 256 : Nat) : Int) = u8 (x / 256) := by unfold u8; congr 1; omega
    have e2 : u8 ((y % 65536 % 256 : Nat) : Int) = u8 x := by unfold u8; congr 1; omega
    rw [e1, e2]
    rfl
  exact (lone_E (H := H) rfl rfl h (.fz _ _)).1
theorem e28 (n : Nat) (s : List UInt8) (hl : s.length < 1000000) (H : VH) : ∃ s', vF P tab (n + 2) 28 [.str ⟨s.toArray⟩] H = some (.sl 5 s', H) ∧ IsB s' (textI s) := by
  obtain ⟨s2, H1, g1, g2, _⟩ := (Ap.lit (H := []) (e := 5) (bs (numI (s.length : Int)))).app (x := .fz (bytesE ⟨s.toArray⟩) .no) (sz := 1) (by_ := 1) (IsE.fz (bytesE ⟨s.toArray⟩) .no) (by rw [bytesE_of, bs_len, bs_len]; simp only [bound, numI, List.length_cons, List.length_nil]; omega) (by rw [bytesE_of, bs_len, bs_len]; simp only [bound, numI, List.length_cons, List.length_nil]; omega)
  have h : bodyV P tab (vF P tab (n + 1)) (n + 1) 28 ([.str ⟨s.toArray⟩].map stripC) [] = some (.sl 5 s2, H1) := by
    show bodyV P tab (vF P tab (n + 1)) (n + 1) 28 [.str ⟨s.toArray⟩] [] = _
    rw [f28_eq, size_of, callD_sl (e34 n _ []), Option.bind_some]
    exact (congrArg (fun r => r.bind fun r2 => some (V.sl 5 r2.1, r2.2)) g1)
  refine ⟨s2.strip, lone_E (H := H) rfl rfl h ?_⟩
  rw [textI, bs_app]
  exact g2.isE
theorem l35 (n : Nat) (x : Nat) (_hx : x < 18446744073709551616) : ∀ (m i : Nat) {H : VH} {s : VS}, Ap H 5 s (bs (wideN x i)) → i ≤ 8 → 8 < i + m → ∃ s' H', L35_0 n m (x : Int) s (i : Int) H = some (.sl 5 s', H') ∧ IsB s' (wideI x) := by
  intro m
  induction m with
  | zero => intros; omega
  | succ m ih =>
    intro i H s h1 h2 h3
    rw [L35_0_eq]
    by_cases hi : i < 8
    · rw [decide_eq_true (by omega), cond_true]
      have e1 : IntKind.wrap .i64 (56 - IntKind.wrap .i64 (8 * (i : Int))) = ((56 - 8 * i : Nat) : Int) := by rw [i64_in (x := 8 * (i : Int)) (by omega), i64_in (by omega)]; omega
      rw [e1, shrI_nat (by show 56 - 8 * i ≤ 64; omega), Option.bind_some, bc_wrap]
      obtain ⟨s2, H2, g1, g2, _⟩ := h1.app (x := .fz [bc (u8 ((x / 2 ^ (56 - 8 * i) : Nat) : Int))] (.ex 1)) (sz := 1) (by_ := 1) (IsE.fz _ _) (by rw [bs_len, wideN_len]; simp only [bound, List.length_singleton]; omega) (by rw [bs_len, wideN_len]; simp only [bound, List.length_singleton]; omega)
      rw [g1, Option.bind_some, inc_nat (by omega)]
      refine ih (i + 1) ?_ (by omega) (by omega)
      rw [wideN_succ, bs_app, ← u8_ofNat]
      exact g2
    · rw [decide_eq_false (by omega), cond_false]
      have : i = 8 := by omega
      subst this
      exact ⟨s, H, rfl, h1.isE⟩
theorem e35 (n : Nat) (x : Nat) (hx : x < 18446744073709551616) (H : VH) : ∃ s', vF P tab (n + 20) 35 [.int .u64 (x : Int)] H = some (.sl 5 s', H) ∧ IsB s' (wideI x) := by
  obtain ⟨s', H', g1, g2⟩ := l35 (n + 19) x hx (n + 19) 0 (H := []) (s := .nil) .nil (by omega) (by omega)
  have h : bodyV P tab (vF P tab (n + 19)) (n + 19) 35 ([.int .u64 (x : Int)].map stripC) [] = some (.sl 5 s', H') := by
    show bodyV P tab (vF P tab (n + 19)) (n + 19) 35 [.int .u64 (x : Int)] [] = _
    rw [f35_eq]
    exact g1
  exact ⟨s'.strip, lone_E (H := H) rfl rfl h g2⟩
theorem l36 (n : Nat) {s : VS} {ls : List (List UInt8)} (hs : IsE s (ss ls)) (hl : szs ls < 1000000) (hln : ls.length < 1000000) : ∀ (m i : Nat) {H : VH} {s3 : VS}, Ap H 5 s3 (bs (u8 (ls.length : Int) :: ((ls.take i).map textI).flatten)) → i ≤ ls.length → ls.length < i + m →
    ∃ s' H', L36_0 (n + 2) m s s3 (i : Int) H = some (.sl 5 s', H') ∧ IsB s' (textsI ls) := by
  intro m
  induction m with
  | zero => intros; omega
  | succ m ih =>
    intro i H s3 h1 h2 h3
    rw [L36_0_eq, hs.len, ss_len]
    by_cases hi : i < ls.length
    · rw [decide_eq_true (by omega), cond_true]
      obtain ⟨x, hx⟩ := get_of hi
      rw [rdS hs hx]
      have e0 : ((ls.take (i + 1)).map textI).flatten = ((ls.take i).map textI).flatten ++ textI x := by
        rw [List.take_add_one, hx]; simp
      have h6 := szs_take ls (i + 1)
      rw [e0, List.length_append] at h6
      have h7 := textI_len x
      obtain ⟨sx, k1, k2⟩ := e28 n x (by omega) H
      rw [callD_sl k1, Option.bind_some]
      obtain ⟨s2, H2, g1, g2, _⟩ := h1.app (x := sx) (sz := 1) (by_ := 1) k2 (by rw [bs_len, bs_len]; simp only [bound, List.length_cons]; omega) (by rw [bs_len, bs_len]; simp only [bound, List.length_cons]; omega)
      simp only
      rw [g1, Option.bind_some, inc_nat (by omega)]
      refine ih (i + 1) ?_ (by omega) (by omega)
      rw [e0, ← List.cons_append, bs_app]
      exact g2
    · rw [decide_eq_false (by omega), cond_false]
      have : i = ls.length := by omega
      subst this
      rw [List.take_length] at h1
      exact ⟨s3, H, rfl, h1.isE⟩
theorem e36 (n : Nat) {s : VS} {ls : List (List UInt8)} (hs : IsE s (ss ls)) (hl : szs ls < 900000) (hn : ls.length < 1000000) (hn2 : ls.length < n) (H : VH) : ∃ s', vF P tab (n + 3) 36 [.sl 9 s] H = some (.sl 5 s', H) ∧ IsB s' (textsI ls) := by
  obtain ⟨s', H', g1, g2⟩ := l36 n hs.strip (by omega) hn (n + 2) 0 (H := []) (s3 := .fz [[.int .u8 (IntKind.wrap .u8 (ls.length : Int))]] (.ex 1)) (by rw [bc_wrap]; exact .lit _) (by omega) (by omega)
  have h : bodyV P tab (vF P tab (n + 2)) (n + 2) 36 ([.sl 9 s].map stripC) [] = some (.sl 5 s', H') := by
    show bodyV P tab (vF P tab (n + 2)) (n + 2) 36 [.sl 9 s.strip] [] = _
    rw [f36_eq, hs.strip.len, ss_len]
    exact g1
  exact ⟨s'.strip, lone_E (H := H) rfl (by simp [closed_sl 9 hs]) h g2⟩
end Go.Proofs.Ythodknboobgfpaa
