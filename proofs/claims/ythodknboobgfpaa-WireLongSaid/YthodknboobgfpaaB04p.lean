import Derived.Test.YthodknboobgfpaaB04o
set_option linter.unusedVariables false
set_option linter.unusedSimpArgs false
namespace Go.Proofs.Ythodknboobgfpaa
open Go.Proofs.Ythodknboobgfpaa.Sh Go.Proofs.Ythodknboobgfpaa.Sh.V Go.RowKit
/-! ### What is laid -/
structure It where
  k : Nat
  n : Nat
  s : List UInt8
  l : List (List UInt8)
  v : VS
def It.ok (x : It) : Prop := IsE x.v (ss x.l) ∧ x.k < 256 ∧ x.n < 18446744073709551616
def It.cells (x : It) : List V := [.int .u8 (x.k : Int), .int .u64 (x.n : Int), .str ⟨x.s.toArray⟩, .sl 9 x.v]
def It.small (x : It) : Prop := x.s.length ≤ 300 ∧ x.l.length ≤ 20 ∧ ∀ y ∈ x.l, y.length ≤ 60
def ics (l : List It) : List (List V) := l.map It.cells
theorem ics_len (l : List It) : (ics l).length = l.length := by simp [ics]
def It.enc (x : It) : List UInt8 :=
  if x.k % 5 = 0 then [u8 (x.n : Int)] else if x.k % 5 = 1 then numI (IntKind.wrap .i64 (x.n : Int)) else if x.k % 5 = 2 then wideI x.n else if x.k % 5 = 3 then textI x.s else textsI x.l
def encs (l : List It) : List UInt8 := (l.map It.enc).flatten
theorem szs_le {l : List (List UInt8)} (h : ∀ y ∈ l, y.length ≤ 60) : szs l ≤ 62 * l.length := by
  unfold szs
  induction l with
  | nil => simp
  | cons a l ih =>
    have h1 := h a (List.mem_cons_self ..)
    have h2 := ih (fun y hy => h y (List.mem_cons_of_mem _ hy))
    simp only [List.map_cons, List.flatten_cons, List.length_append, textI_len, List.length_cons]
    omega
theorem enc_len {x : It} (h : x.small) : x.enc.length ≤ 1300 := by
  obtain ⟨h1, h2, h3⟩ := h
  have h4 := szs_le h3
  have h5 := textI_len x.s
  unfold szs at h4
  unfold It.enc
  split
  · simp
  · split
    · simp [numI]
    · split
      · simp [wideI, wideN]
      · split
        · omega
        · simp only [textsI, List.length_cons]; omega
theorem encs_len {l : List It} (h : ∀ x ∈ l, x.small) : (encs l).length ≤ 1300 * l.length := by
  unfold encs
  induction l with
  | nil => simp
  | cons a l ih =>
    have h1 := enc_len (h a (List.mem_cons_self ..))
    have h2 := ih (fun y hy => h y (List.mem_cons_of_mem _ hy))
    simp only [List.map_cons, List.flatten_cons, List.length_append, List.length_cons]
    omega
theorem encs_take {l : List It} {i : Nat} {x : It} (h : l[i]? = some x) : encs (l.take (i + 1)) = encs (l.take i) ++ x.enc := by
  unfold encs
  rw [List.take_add_one, h]
  simp
theorem ix_it {s : VS} {l : List It} (h : IsE s (ics l)) {i : Nat} {x : It} (hx : l[i]? = some x) (sz : Nat) : ixV sz s (i : Int) = some (.fz x.cells) := h.ix (by simp [ics, hx]) sz
theorem ld_it2 (H : VH) (x : It) {β : Type} (f : ByteArray → Option β) : ((atO (.fz x.cells) 2).bind fun p2 => (ldV (.flat .str) H p2).bind f) = f ⟨x.s.toArray⟩ := rfl
theorem ld_it3 (H : VH) (x : It) {β : Type} (f : VS → Option β) : ((atO (.fz x.cells) 3).bind fun p2 => (ldV (.flat (.slice 9)) H p2).bind f) = f x.v := rfl
theorem l10_1 (n m0 : Nat) {H : VH} {s : VS} {l : List It} (hs : IsE s (ics l)) {i : Nat} {x : It} (hx : l[i]? = some x) (hv : IsE x.v (ss x.l)) (h20 : x.l.length ≤ 20) {Q : Bool → Prop}
    (hnext : (∀ y ∈ x.l, y.length ≤ 60) → ∃ b, L10_0 n m0 s (IntKind.wrap .i64 ((i : Int) + 1)) H = some (.bool b, H) ∧ Q b) (hno : Q false) : ∀ (m j : Nat), j ≤ x.l.length → x.l.length < j + m → (∀ (k : Nat) y, k < j → x.l[k]? = some y → y.length ≤ 60) →
    ∃ b, L10_1 n m0 m s (i : Int) (j : Int) H = some (.bool b, H) ∧ Q b := by
  intro m
  induction m with
  | zero => intros; omega
  | succ m ih =>
    intro j h1 h2 h3
    rw [L10_1_eq, ix_it hs hx, Option.bind_some, ld_it3, hv.len, ss_len]
    by_cases hj : j < x.l.length
    · rw [decide_eq_true (by omega), cond_true, Option.bind_some, ld_it3]
      obtain ⟨y, hy⟩ := get_of hj
      rw [rdS hv hy, size_of]
      by_cases h60 : 60 < y.length
      · rw [decide_eq_true (by omega), cond_true]
        exact ⟨false, rfl, hno⟩
      · rw [decide_eq_false (by omega), cond_false, inc_nat (by omega)]
        refine ih (j + 1) (by omega) (by omega) (fun k z hk hz => ?_)
        rcases Nat.lt_or_ge k j with h4 | h4
        · exact h3 k z h4 hz
        · have : k = j := by omega
          subst this
          rw [hy] at hz; injection hz with hz; subst hz; omega
    · rw [decide_eq_false (by omega), cond_false]
      refine hnext (fun y hy => ?_)
      obtain ⟨k, hk⟩ := List.getElem?_of_mem hy
      exact h3 k y (by have := (List.getElem?_eq_some_iff.1 hk).1; omega) hk
theorem l10_0 (n : Nat) (hn : 30 ≤ n) {H : VH} {s : VS} {l : List It} (hs : IsE s (ics l)) (hok : ∀ x ∈ l, x.ok) (hl : l.length ≤ maxLen) : ∀ (m i : Nat), i ≤ l.length → l.length < i + m → (∀ (k : Nat) x, k < i → l[k]? = some x → x.small) →
    ∃ b, L10_0 n m s (i : Int) H = some (.bool b, H) ∧ (b = true → l.length ≤ 30 ∧ ∀ x ∈ l, x.small) := by
  have hm := maxLen_eq
  intro m
  induction m with
  | zero => intros; omega
  | succ m ih =>
    intro i h1 h2 h3
    rw [L10_0_eq, hs.len, ics_len]
    by_cases hi : i < l.length
    · rw [decide_eq_true (by omega), cond_true]
      obtain ⟨x, hx⟩ := get_of hi
      obtain ⟨k1, k2, k3⟩ := hok x (List.mem_of_getElem? hx)
      rw [ix_it hs hx, Option.bind_some, ld_it2, size_of]
      by_cases h300 : 300 < x.s.length
      · rw [decide_eq_true (by omega), cond_true]
        exact ⟨false, rfl, fun h => by cases h⟩
      · rw [decide_eq_false (by omega), cond_false, Option.bind_some, ld_it3, k1.len, ss_len]
        by_cases h20 : 20 < x.l.length
        · rw [decide_eq_true (by omega), cond_true]
          exact ⟨false, rfl, fun h => by cases h⟩
        · rw [decide_eq_false (by omega), cond_false]
          refine l10_1 n m hs hx k1 (by omega) (fun h60 => ?_) (fun h => by cases h) n 0 (by omega) (by omega) (fun k y hk => by omega)
          rw [inc_nat (by omega)]
          refine ih (i + 1) (by omega) (by omega) (fun k z hk hz => ?_)
          rcases Nat.lt_or_ge k i with h4 | h4
          · exact h3 k z h4 hz
          · have : k = i := by omega
            subst this
            rw [hx] at hz; injection hz with hz; subst hz
            exact ⟨by omega, by omega, h60⟩
    · rw [decide_eq_false (by omega), cond_false]
      refine ⟨_, rfl, fun h => ⟨by have := of_decide_eq_true h; omega, fun x hx => ?_⟩⟩
      obtain ⟨k, hk⟩ := List.getElem?_of_mem hx
      exact h3 k x (by have := (List.getElem?_eq_some_iff.1 hk).1; omega) hk
theorem e10 (n : Nat) (hn : 30 ≤ n) {H : VH} {s : VS} {l : List It} (hs : IsE s (ics l)) (hok : ∀ x ∈ l, x.ok) (hl : l.length ≤ maxLen) (hn2 : l.length < n) :
    ∃ b, vF P tab (n + 1) 10 [.sl 58 s] H = some (.bool b, H) ∧ (b = true → l.length ≤ 30 ∧ ∀ x ∈ l, x.small) := by
  obtain ⟨b, h1, h2⟩ := l10_0 n hn (H := []) hs.strip hok hl n 0 (by omega) (by omega) (fun k x hk => by omega)
  refine ⟨b, vF_lone (r := .bool b) (H1 := []) rfl (by simp [closed_sl 58 hs]) ?_ rfl, h2⟩
  show bodyV P tab (vF P tab n) n 10 [.sl 58 s.strip] [] = _
  rw [f10_eq]
  exact h1
/-- Both ways, at some place. -/
def LayAt (H : VH) (k : Nat) (s : VS) (a : List UInt8) : Prop := ∃ T, WS H k T a ∧ Ap H 5 s (bs a) ∧ ∀ t ∈ toks s, t ≠ k ∧ t ∉ T
theorem LayAt.step {H3 : VH} {k : Nat} {s5 : VS} {a p : List UInt8} {T : List Nat} (_hw : WS H3 k T a) (hap : Ap H3 5 s5 (bs a)) (hd : ∀ t ∈ toks s5, t ≠ k ∧ t ∉ T) {H7 : VH} {T7 : List Nat} (g2 : WS H7 k T7 (a ++ p)) (g3 : Kp H3 H7 (k :: T)) (g4 : ∀ t ∈ T7, t ∈ T ∨ H3.length ≤ t)
    {x : VS} (hx : IsB x p) (hb : a.length + p.length < 1000000) : ∃ s9 H9, appD true H7 1 1 5 s5 x = some (s9, H9) ∧ LayAt H9 k s9 (a ++ p) := by
  have hap7 : Ap H7 5 s5 (bs a) := hap.keep g3 (fun t ht hx => by
    rcases List.mem_cons.1 hx with h1 | h1
    · exact (hd t ht).1 h1
    · exact (hd t ht).2 h1)
  obtain ⟨s9, H9, q1, q2, q3, q4, _⟩ := hap7.app (sz := 1) (by_ := 1) hx (by rw [bs_len, bs_len]; simp only [bound]; omega) (by rw [bs_len, bs_len]; simp only [bound]; omega)
  refine ⟨s9, H9, q1, T7, g2.keep q3 (fun h => (hd k h).1 rfl) (fun t ht h => ?_), by rw [bs_app]; exact q2, fun t ht => ?_⟩
  · rcases g4 t ht with h1 | h1
    · exact (hd t h).2 h1
    · obtain ⟨g, hg⟩ := hap.tok_at h
      have := lt_of_ob hg; omega
  · rcases q4 t ht with h1 | h1
    · refine ⟨(hd t h1).1, fun h2 => ?_⟩
      rcases g4 t h2 with h3 | h3
      · exact (hd t h1).2 h3
      · obtain ⟨g, hg⟩ := hap.tok_at h1
        have := lt_of_ob hg; omega
    · refine ⟨?_, fun h2 => ?_⟩
      · obtain ⟨s, h3, _⟩ := g2
        have := lt_of_ob h3; omega
      · obtain ⟨g, hg⟩ := g2.tok h2
        have := lt_of_ob hg; omega
abbrev BT : TypeId := 58 + boxK
/-- An item in the object i. -/
theorem it_new (H : VH) (x : It) (c0 : List V) (h0 : c0.length = 4) : ∃ H3, stV (H ++ [.row BT c0]) (.ob H.length 0) x.cells = some H3 ∧ H3[H.length]? = some (.row BT x.cells) ∧ Kp H H3 [] ∧ H3.length = H.length + 1 := by
  have h1 : (H ++ [VO.row BT c0])[H.length]? = some (.row BT c0) := by simp
  refine ⟨_, st_row h1 (by rw [h0]; exact Nat.le_refl _) rfl, ?_, ?_, by simp⟩
  · rw [List.getElem?_set_self (lt_of_ob h1)]
    have : putAllV c0 0 x.cells = x.cells := by
      match c0, h0 with
      | [a, b, c, d], _ => rfl
    rw [this]
  · exact (Kp.app H _).trans (Kp.set _ _ _) (fun x hx => by cases hx) (fun y hy hl => by rw [List.mem_singleton] at hy; omega)
theorem ld_agg (H : VH) (x : It) : ldV (.agg [.int .u8, .int .u64, .str, .slice 9]) H (.fz x.cells) = some ((x.k : Int), (x.n : Int), ⟨x.s.toArray⟩, x.v, ()) := rfl
theorem ld0 {H : VH} {i : Nat} {x : It} (h : H[i]? = some (.row BT x.cells)) : ldV (.flat (.int .u8)) H (.ob i 0) = some (x.k : Int) := by rw [ld_row h]; rfl
theorem ld1 {H : VH} {i : Nat} {x : It} (h : H[i]? = some (.row BT x.cells)) : ldV (.flat (.int .u64)) H (.ob i 1) = some (x.n : Int) := by rw [ld_row h]; rfl
theorem ld2 {H : VH} {i : Nat} {x : It} (h : H[i]? = some (.row BT x.cells)) : ldV (.flat .str) H (.ob i 2) = some ⟨x.s.toArray⟩ := by rw [ld_row h]; rfl
theorem ld3 {H : VH} {i : Nat} {x : It} (h : H[i]? = some (.row BT x.cells)) : ldV (.flat (.slice 9)) H (.ob i 3) = some x.v := by rw [ld_row h]; rfl
theorem l11 (n : Nat) (hn : 300 ≤ n) {s : VS} {l : List It} (hs : IsE s (ics l)) (hok : ∀ x ∈ l, x.ok) (hsm : ∀ x ∈ l, x.small) (h30 : l.length ≤ 30) {k : Nat} : ∀ (m i : Nat) {H : VH} {s5 : VS}, LayAt H k s5 (encs (l.take i)) → i ≤ l.length → l.length < i + m →
    ∃ s1 s2 H', L11_0 (n + 30) m s k s5 (i : Int) H = some (.tup [.sl 5 s1, .sl 5 s2], H') ∧ IsB s1 (encs l) ∧ IsB s2 (encs l) := by
  intro m
  induction m with
  | zero => intros; omega
  | succ m ih =>
    intro i H s5 hL h1 h2
    rw [L11_0_eq, hs.len, ics_len]
    have hlen := encs_len (l := l.take i) (fun x hx => hsm x (List.mem_of_mem_take hx))
    rw [List.length_take] at hlen
    by_cases hi : i < l.length
    · rw [decide_eq_true (by omega), cond_true]
      obtain ⟨x, hx⟩ := get_of hi
      have hxm := List.mem_of_getElem? hx
      obtain ⟨k1, k2, k3⟩ := hok x hxm
      obtain ⟨j1, j2, j3⟩ := hsm x hxm
      have j4 := szs_le j3
      have j5 := enc_len (hsm x hxm)
      obtain ⟨H3, q1, q2, q3, q4⟩ := it_new H x [.int .u8 0, .int .u64 0, .str ⟨#[]⟩, .sl 9 .nil] rfl
      rw [ix_it hs hx, Option.bind_some, ld_agg, Option.bind_some]
      simp only
      rw [show [V.int .u8 (x.k : Int), .int .u64 (x.n : Int), .str ⟨x.s.toArray⟩, .sl 9 x.v] = x.cells from rfl, q1, Option.bind_some, ld0 q2, Option.bind_some, show (5 : Int) = ((5 : Nat) : Int) from rfl, remI_nat (by decide), Option.bind_some]
      obtain ⟨T, w0, a0, d0⟩ := hL
      have kk : k < H.length := by obtain ⟨s, h, _⟩ := w0; exact lt_of_ob h
      have tt : ∀ t ∈ T, t < H.length := fun t ht => by obtain ⟨g, h⟩ := w0.tok ht; exact lt_of_ob h
      have w1 := w0.keep q3 (by simp) (by simp)
      have a1 := a0.keep q3 (by simp)
      have stay : ∀ {H7 : VH}, Kp H3 H7 (k :: T) → H7[H.length]? = some (.row BT x.cells) := fun kp => kp.ob q2 (fun h => by
        rcases List.mem_cons.1 h with h | h
        · omega
        · have := tt _ h; omega)
      have next : ∀ {s9 : VS} {H9 : VH}, LayAt H9 k s9 (encs (l.take i) ++ x.enc) → ∃ s1 s2 H', L11_0 (n + 30) m s k s9 (IntKind.wrap .i64 ((i : Int) + 1)) H9 = some (.tup [.sl 5 s1, .sl 5 s2], H') ∧ IsB s1 (encs l) ∧ IsB s2 (encs l) := by
        intro s9 H9 h9
        rw [inc_nat (by omega)]
        exact ih (i + 1) (by rw [encs_take hx]; exact h9) (by omega) (by omega)
      by_cases c0 : x.k % 5 = 0
      · have he : x.enc = [u8 (x.n : Int)] := by unfold It.enc; rw [if_pos c0]
        rw [he] at next j5
        rw [show (((x.k % 5 : Nat) : Int) == 0) = true by rw [c0]; rfl, cond_true, ld1 q2, Option.bind_some]
        obtain ⟨H7, T7, g1, g2, g3, g4⟩ := e12 (n + 28) w1 (x.n : Int) (by omega)
        rw [callD_ptr g1, Option.bind_some]
        simp only
        rw [ld1 (stay g3), Option.bind_some]
        obtain ⟨s9, H9, r1, r2⟩ := LayAt.step w1 a1 d0 g2 g3 g4 (x := .fz [[.int .u8 (IntKind.wrap .u8 (x.n : Int))]] (.ex 1)) (by rw [bc_wrap]; exact .fz _ _) (by omega)
        rw [r1, Option.bind_some]
        exact next r2
      rw [show (((x.k % 5 : Nat) : Int) == 0) = false by rw [beq_eq_false_iff_ne]; omega, cond_false]
      by_cases c1 : x.k % 5 = 1
      · have he : x.enc = numI (IntKind.wrap .i64 (x.n : Int)) := by unfold It.enc; rw [if_neg c0, if_pos c1]
        rw [he] at next j5
        rw [show (((x.k % 5 : Nat) : Int) == 1) = true by rw [c1]; rfl, cond_true, ld1 q2, Option.bind_some]
        obtain ⟨H7, T7, g1, g2, g3, g4⟩ := e32 (n + 28) w1 (IntKind.wrap .i64 (x.n : Int)) (by omega)
        rw [callD_ptr g1, Option.bind_some]
        simp only
        rw [ld1 (stay g3), Option.bind_some, callD_sl (e34 (n + 29) _ H7), Option.bind_some]
        obtain ⟨s9, H9, r1, r2⟩ := LayAt.step w1 a1 d0 g2 g3 g4 (x := .fz (bs (numI (IntKind.wrap .i64 (x.n : Int)))) (.ex 2)) (.fz _ _) (by omega)
        simp only
        rw [r1, Option.bind_some]
        exact next r2
      rw [show (((x.k % 5 : Nat) : Int) == 1) = false by rw [beq_eq_false_iff_ne]; omega, cond_false]
      by_cases c2 : x.k % 5 = 2
      · have he : x.enc = wideI x.n := by unfold It.enc; rw [if_neg c0, if_neg c1, if_pos c2]
        rw [he] at next j5
        rw [show (((x.k % 5 : Nat) : Int) == 2) = true by rw [c2]; rfl, cond_true, ld1 q2, Option.bind_some]
        obtain ⟨H7, T7, g1, g2, g3, g4⟩ := e33 (n + 10) w1 x.n (by omega)
        rw [callD_ptr g1, Option.bind_some]
        simp only
        obtain ⟨sx, f1, f2⟩ := e35 (n + 10) x.n k3 H7
        rw [ld1 (stay g3), Option.bind_some, callD_sl f1, Option.bind_some]
        obtain ⟨s9, H9, r1, r2⟩ := LayAt.step w1 a1 d0 g2 g3 g4 f2 (by omega)
        simp only
        rw [r1, Option.bind_some]
        exact next r2
      rw [show (((x.k % 5 : Nat) : Int) == 2) = false by rw [beq_eq_false_iff_ne]; omega, cond_false]
      by_cases c3 : x.k % 5 = 3
      · have he : x.enc = textI x.s := by unfold It.enc; rw [if_neg c0, if_neg c1, if_neg c2, if_pos c3]
        rw [he] at next j5
        rw [show (((x.k % 5 : Nat) : Int) == 3) = true by rw [c3]; rfl, cond_true, ld2 q2, Option.bind_some]
        obtain ⟨H7, T7, g1, g2, g3, g4⟩ := e29 (n + 27) w1 x.s (by omega)
        rw [callD_ptr g1, Option.bind_some]
        simp only
        obtain ⟨sx, f1, f2⟩ := e28 (n + 28) x.s (by omega) H7
        rw [ld2 (stay g3), Option.bind_some, callD_sl f1, Option.bind_some]
        obtain ⟨s9, H9, r1, r2⟩ := LayAt.step w1 a1 d0 g2 g3 g4 f2 (by omega)
        simp only
        rw [r1, Option.bind_some]
        exact next r2
      · have he : x.enc = textsI x.l := by unfold It.enc; rw [if_neg c0, if_neg c1, if_neg c2, if_neg c3]
        rw [he] at next j5
        rw [show (((x.k % 5 : Nat) : Int) == 3) = false by rw [beq_eq_false_iff_ne]; omega, cond_false, ld3 q2, Option.bind_some]
        obtain ⟨H7, T7, g1, g2, g3, g4⟩ := e30 (n + 26) w1 k1 (by omega) (by omega)
        rw [callD_ptr g1, Option.bind_some]
        simp only
        obtain ⟨sx, f1, f2⟩ := e36 (n + 27) k1 (by omega) (by omega) (by omega) H7
        rw [ld3 (stay g3), Option.bind_some, callD_sl f1, Option.bind_some]
        obtain ⟨s9, H9, r1, r2⟩ := LayAt.step w1 a1 d0 g2 g3 g4 f2 (by omega)
        simp only
        rw [r1, Option.bind_some]
        exact next r2
    · rw [decide_eq_false (by omega), cond_false]
      have : i = l.length := by omega
      subst this
      rw [List.take_length] at hL hlen
      obtain ⟨T, w0, a0, d0⟩ := hL
      obtain ⟨s', H1, g1, g2, g3, g4⟩ := e13 (n + 28) w0 (by omega)
      obtain ⟨s2, H2, g5, g6, X, g7, g8⟩ := callD_frz g1 g2
      rw [g5, Option.bind_some]
      exact ⟨s2, s5, H2, rfl, g6, a0.isE⟩
theorem e11 (n : Nat) (hn : 300 ≤ n) {H : VH} {s : VS} {l : List It} (hs : IsE s (ics l)) (hok : ∀ x ∈ l, x.ok) (hsm : ∀ x ∈ l, x.small) (h30 : l.length ≤ 30) :
    ∃ s1 s2, vF P tab (n + 31) 11 [.sl 58 s] H = some (.tup [.sl 5 s1, .sl 5 s2], H) ∧ IsB s1 (encs l) ∧ IsB s2 (encs l) := by
  obtain ⟨s1, s2, H', h1, h2, h3⟩ := l11 n hn hs.strip hok hsm h30 (k := 0) (n + 30) 0 (H := [] ++ [.row WT [.sl 5 .nil]]) (s5 := .nil) ⟨[], WS.new [], .nil, fun t ht => by cases ht⟩ (by omega) (by omega)
  refine ⟨s1.strip, s2.strip, ?_, h2.strip, h3.strip⟩
  have h : bodyV P tab (vF P tab (n + 30)) (n + 30) 11 ([.sl 58 s].map stripC) [] = some (.tup [.sl 5 s1, .sl 5 s2], H') := by
    show bodyV P tab (vF P tab (n + 30)) (n + 30) 11 [.sl 58 s.strip] [] = _
    rw [f11_eq]
    exact h1
  have := vF_lone (H := H) (f := 11) rfl (by simp [closed_sl 58 hs]) h (by
    show (closedC (.sl 5 s1) && (closedC (.sl 5 s2) && true)) = true
    rw [closed_sl 5 h2, closed_sl 5 h3]; rfl)
  exact this
end Go.Proofs.Ythodknboobgfpaa
