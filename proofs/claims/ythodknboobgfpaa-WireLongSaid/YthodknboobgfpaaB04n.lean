import Derived.Test.YthodknboobgfpaaB04g
import Derived.Test.YthodknboobgfpaaVb
set_option linter.unusedVariables false
set_option linter.unusedSimpArgs false
namespace Go.Proofs.Ythodknboobgfpaa
open Go.Proofs.Ythodknboobgfpaa.Sh Go.Proofs.Ythodknboobgfpaa.Sh.V Go.RowKit
/-! ### The writer -/
abbrev WT : TypeId := 30 + boxK
/-- A writer in the object k: what has been laid, and the token by which more is. -/
def WS (H : VH) (k : Nat) (T : List Nat) (l : List UInt8) : Prop := ∃ s, H[k]? = some (.row WT [.sl 5 s]) ∧ Ap H 5 s (bs l) ∧ toks s = T
theorem WS.keep {H H' : VH} {X : List Nat} {k : Nat} {T : List Nat} {l : List UInt8} (h : WS H k T l) (kp : Kp H H' X) (hx : k ∉ X) (hT : ∀ t ∈ T, t ∉ X) : WS H' k T l := by
  obtain ⟨s, h1, h2, rfl⟩ := h
  exact ⟨s, kp.ob h1 hx, h2.keep kp hT, rfl⟩
theorem WS.tok {H : VH} {k : Nat} {T : List Nat} {l : List UInt8} (h : WS H k T l) {t : Nat} (ht : t ∈ T) : ∃ g, H[t]? = some (.tok 5 g) := by
  obtain ⟨s, _, h2, rfl⟩ := h; exact h2.tok_at ht
theorem WS.new (H : VH) : WS (H ++ [.row WT [.sl 5 .nil]]) H.length [] [] := ⟨.nil, by simp, .nil, rfl⟩
theorem e37 (n : Nat) {H : VH} {k : Nat} {T : List Nat} {l p : List UInt8} {s1 : VS} (hw : WS H k T l) (hp : IsB s1 p) (hl : l.length + p.length < 10000000) :
    ∃ H' T', vF P tab (n + 1) 37 [.ptr (.ob k 0), .sl 5 s1] H = some (.ptr (.ob k 0), H') ∧ WS H' k T' (l ++ p) ∧ Kp H H' (k :: T) ∧ (∀ t ∈ T', t ∈ T ∨ H.length ≤ t) := by
  obtain ⟨s, h1, h2, rfl⟩ := hw
  have hk := lt_of_ob h1
  rw [vF_body rfl, f37_eq]
  simp only [VP.isNil, Bool.not_false, cond_true, nn, atO, Option.bind_some, Nat.zero_add]
  rw [ld_row h1]
  simp only [List.getElem?_cons_zero, Option.bind_some, fd_sl]
  obtain ⟨s', H1, g1, g2, g3, g4, _⟩ := h2.app (sz := 1) (by_ := 1) hp (by rw [bs_len, bs_len]; simp only [bound]; omega) (by rw [bs_len, bs_len]; simp only [bound]; omega)
  have hkt : k ∉ toks s := fun h => by obtain ⟨g, hg⟩ := h2.tok_at h; rw [h1] at hg; cases hg
  have hk1 := g3.ob h1 hkt
  rw [g1, Option.bind_some, st_row hk1 (by simp) rfl, Option.bind_some]
  have kp : Kp H1 (H1.set k (.row WT (putAllV [.sl 5 s] 0 [.sl 5 s']))) [k] := Kp.set _ _ _
  refine ⟨_, toks s', rfl, ⟨s', by rw [List.getElem?_set_self (lt_of_ob hk1)]; rfl, ?_, rfl⟩, g3.trans kp (fun x hx _ => List.mem_cons_of_mem _ hx) (fun y hy _ => by rw [List.mem_singleton.1 hy]; exact List.mem_cons_self ..), g4⟩
  rw [bs_app]
  refine g2.keep kp (fun t ht hx => ?_)
  rw [List.mem_singleton.1 hx] at ht
  obtain ⟨g, hg⟩ := g2.tok_at ht
  rw [hk1] at hg; cases hg
/-- What a step of a writer does. -/
def Lays (H : VH) (k : Nat) (T : List Nat) (l p : List UInt8) (r : VRes) : Prop :=
  ∃ H' T', r = some (.ptr (.ob k 0), H') ∧ WS H' k T' (l ++ p) ∧ Kp H H' (k :: T) ∧ (∀ t ∈ T', t ∈ T ∨ H.length ≤ t)
theorem kp_next {H H1 H2 : VH} {k : Nat} {T T1 : List Nat} (a : Kp H H1 (k :: T)) (b : Kp H1 H2 (k :: T1)) (h : ∀ t ∈ T1, t ∈ T ∨ H.length ≤ t) : Kp H H2 (k :: T) :=
  a.trans b (fun x hx _ => hx) (fun y hy hl => by
    rcases List.mem_cons.1 hy with rfl | hy
    · exact List.mem_cons_self ..
    · rcases h y hy with h1 | h1
      · exact List.mem_cons_of_mem _ h1
      · omega)
theorem tk_next {H H1 : VH} {T T1 T2 : List Nat} {X : List Nat} (a : Kp H H1 X) (h : ∀ t ∈ T1, t ∈ T ∨ H.length ≤ t) (h2 : ∀ t ∈ T2, t ∈ T1 ∨ H1.length ≤ t) : ∀ t ∈ T2, t ∈ T ∨ H.length ≤ t := by
  intro t ht
  have := a.len
  rcases h2 t ht with h3 | h3
  · exact h t h3
  · exact .inr (by omega)
theorem e12 (n : Nat) {H : VH} {k : Nat} {T : List Nat} {l : List UInt8} (hw : WS H k T l) (x : Int) (hl : l.length < 1000000) : Lays H k T l [u8 x] (vF P tab (n + 2) 12 [.ptr (.ob k 0), .int .u8 (IntKind.wrap .u8 x)] H) := by
  obtain ⟨H', T', g1, g2, g3, g4⟩ := e37 n (p := [u8 x]) (s1 := .fz [[.int .u8 (IntKind.wrap .u8 x)]] (.ex 1)) hw (by rw [bc_wrap]; exact .fz _ _) (by simp only [List.length_singleton]; omega)
  rw [vF_body rfl, f12_eq, callD_ptr g1, Option.bind_some]
  exact ⟨H', T', rfl, g2, g3, g4⟩
def numI (x : Int) : List UInt8 := [u8 (x / 256), u8 x]
theorem shr8 (x : Int) : shrI .i64 x 8 = some (x / 256) := by
  unfold shrI
  rw [if_neg (by omega)]
  show some (x.fdiv (2 ^ 8)) = _
  rw [Int.fdiv_eq_ediv_of_nonneg _ (by decide)]
  rfl
theorem e32 (n : Nat) {H : VH} {k : Nat} {T : List Nat} {l : List UInt8} (hw : WS H k T l) (x : Int) (hl : l.length < 1000000) : Lays H k T l (numI x) (vF P tab (n + 2) 32 [.ptr (.ob k 0), .int .i64 x] H) := by
  obtain ⟨H', T', g1, g2, g3, g4⟩ := e37 n (p := numI x) (s1 := .fz [[.int .u8 (IntKind.wrap .u8 (x / 256))], [.int .u8 (IntKind.wrap .u8 x)]] (.ex 2)) hw (by rw [bc_wrap, bc_wrap]; exact .fz _ _) (by simp only [numI, List.length_cons, List.length_nil]; omega)
  rw [vF_body rfl, f32_eq, shr8, Option.bind_some, callD_ptr g1, Option.bind_some]
  exact ⟨H', T', rfl, g2, g3, g4⟩
def wideN (x : Nat) (i : Nat) : List UInt8 := (List.range i).map fun j => UInt8.ofNat (x / 2 ^ (56 - 8 * j) % 256)
def wideI (x : Nat) : List UInt8 := wideN x 8
theorem wideN_succ (x i : Nat) : wideN x (i + 1) = wideN x i ++ [UInt8.ofNat (x / 2 ^ (56 - 8 * i) % 256)] := by simp [wideN, List.range_succ]
theorem wideN_len (x i : Nat) : (wideN x i).length = i := by simp [wideN]
theorem u8_ofNat (n : Nat) : u8 (n : Int) = UInt8.ofNat (n % 256) := by
  unfold u8
  congr 1
theorem l33 (n : Nat) {H0 : VH} {k : Nat} {T0 : List Nat} {l : List UInt8} (x : Nat) (hl : l.length < 1000000) : ∀ (m i : Nat) {H : VH} {T : List Nat}, WS H k T (l ++ wideN x i) → Kp H0 H (k :: T0) → (∀ t ∈ T, t ∈ T0 ∨ H0.length ≤ t) → i ≤ 8 → 8 < i + m →
    Lays H0 k T0 l (wideI x) (L33_0 (n + 1) m (.ob k 0) (x : Int) (56 - 8 * (i : Int)) H) := by
  intro m
  induction m with
  | zero => intro i H T h1 h2 h3 h4 h5; omega
  | succ m ih =>
    intro i H T h1 h2 h3 h4 h5
    rw [L33_0_eq]
    by_cases hi : i < 8
    · rw [decide_eq_true (by omega), cond_true]
      have e1 : (56 - 8 * (i : Int)) = ((56 - 8 * i : Nat) : Int) := by omega
      rw [e1, shrI_nat (by show 56 - 8 * i ≤ 64; omega), Option.bind_some]
      obtain ⟨H', T', g1, g2, g3, g4⟩ := e37 n (p := [u8 ((x / 2 ^ (56 - 8 * i) : Nat) : Int)]) (s1 := .fz [[.int .u8 (IntKind.wrap .u8 ((x / 2 ^ (56 - 8 * i) : Nat) : Int))]] (.ex 1)) h1 (by rw [bc_wrap]; exact .fz _ _) (by
        simp only [List.length_append, wideN_len, List.length_singleton]; omega)
      rw [callD_ptr g1, Option.bind_some]
      have e2 : IntKind.wrap .i64 (((56 - 8 * i : Nat) : Int) - 8) = 56 - 8 * ((i + 1 : Nat) : Int) := by rw [i64_in (by omega)]; omega
      simp only
      rw [e2]
      refine ih (i + 1) (T := T') ?_ (kp_next h2 g3 h3) (tk_next h2 h3 g4) (by omega) (by omega)
      rw [wideN_succ, ← u8_ofNat, ← List.append_assoc]
      exact g2
    · rw [decide_eq_false (by omega), cond_false]
      have : i = 8 := by omega
      subst this
      exact ⟨H, T, rfl, h1, h2, h3⟩
theorem e33 (n : Nat) {H : VH} {k : Nat} {T : List Nat} {l : List UInt8} (hw : WS H k T l) (x : Nat) (hl : l.length < 1000000) : Lays H k T l (wideI x) (vF P tab (n + 20) 33 [.ptr (.ob k 0), .int .u64 (x : Int)] H) := by
  rw [vF_body rfl, f33_eq]
  exact l33 (n + 18) x hl (n + 19) 0 (T := T) (by simpa [wideN] using hw) (Kp.refl _ _) (fun t ht => .inl ht) (by omega) (by omega)
def textI (s : List UInt8) : List UInt8 := numI (s.length : Int) ++ s
theorem textI_len (s : List UInt8) : (textI s).length = 2 + s.length := by simp [textI, numI]; omega
theorem e29 (n : Nat) {H : VH} {k : Nat} {T : List Nat} {l : List UInt8} (hw : WS H k T l) (s : List UInt8) (hl : l.length + s.length < 1000000) : Lays H k T l (textI s) (vF P tab (n + 3) 29 [.ptr (.ob k 0), .str ⟨s.toArray⟩] H) := by
  obtain ⟨H1, T1, g1, g2, g3, g4⟩ := e32 n hw (s.length : Int) (by omega)
  rw [vF_body rfl, f29_eq, size_of, callD_ptr g1, Option.bind_some]
  obtain ⟨H2, T2, q1, q2, q3, q4⟩ := e37 (n + 1) (p := s) (s1 := .fz (bytesE ⟨s.toArray⟩) .no) g2 (by rw [bytesE_of]; exact .fz _ _) (by simp only [List.length_append, numI, List.length_cons, List.length_nil]; omega)
  simp only
  rw [callD_ptr q1, Option.bind_some]
  refine ⟨H2, T2, rfl, ?_, kp_next g3 q3 g4, tk_next g3 g4 q4⟩
  rw [textI, ← List.append_assoc]
  exact q2
def textsI (ls : List (List UInt8)) : List UInt8 := u8 (ls.length : Int) :: (ls.map textI).flatten
def szs (ls : List (List UInt8)) : Nat := ((ls.map textI).flatten).length
theorem szs_take (ls : List (List UInt8)) (i : Nat) : (((ls.take i).map textI).flatten).length ≤ szs ls := by
  conv => rhs; rw [szs, ← List.take_append_drop i ls]
  simp only [List.map_append, List.flatten_append, List.length_append]
  omega
theorem l30 (n : Nat) {H0 : VH} {k : Nat} {T0 : List Nat} {l : List UInt8} {s : VS} {ls : List (List UInt8)} (hs : IsE s (ss ls)) (hl : l.length + szs ls < 1000000) (hln : ls.length < 1000000) : ∀ (m i : Nat) {H : VH} {T : List Nat}, WS H k T (l ++ ((ls.take i).map textI).flatten) → Kp H0 H (k :: T0) → (∀ t ∈ T, t ∈ T0 ∨ H0.length ≤ t) → i ≤ ls.length → ls.length < i + m →
    Lays H0 k T0 l (ls.map textI).flatten (L30_0 (n + 3) m (.ob k 0) s (ls.length : Int) (i : Int) H) := by
  intro m
  induction m with
  | zero => intro i H T h1 h2 h3 h4 h5; omega
  | succ m ih =>
    intro i H T h1 h2 h3 h4 h5
    rw [L30_0_eq]
    by_cases hi : i < ls.length
    · rw [decide_eq_true (by omega), cond_true]
      obtain ⟨x, hx⟩ : ∃ b, ls[i]? = some b := ⟨_, List.getElem?_eq_getElem hi⟩
      rw [rdS hs hx]
      have e0 : ((ls.take (i + 1)).map textI).flatten = ((ls.take i).map textI).flatten ++ textI x := by
        rw [List.take_add_one, hx]; simp
      have h6 := szs_take ls (i + 1)
      rw [e0, List.length_append, textI_len] at h6
      obtain ⟨H', T', g1, g2, g3, g4⟩ := e29 n h1 x (by simp only [List.length_append]; omega)
      rw [callD_ptr g1, Option.bind_some]
      have e3 : IntKind.wrap .i64 ((i : Int) + 1) = ((i + 1 : Nat) : Int) := by rw [i64_in (by omega)]; rfl
      simp only
      rw [e3]
      refine ih (i + 1) (T := T') ?_ (kp_next h2 g3 h3) (tk_next h2 h3 g4) (by omega) (by omega)
      rw [e0, ← List.append_assoc]
      exact g2
    · rw [decide_eq_false (by omega), cond_false]
      have : i = ls.length := by omega
      subst this
      rw [List.take_length] at h1
      exact ⟨H, T, rfl, h1, h2, h3⟩
theorem e30 (n : Nat) {H : VH} {k : Nat} {T : List Nat} {l : List UInt8} (hw : WS H k T l) {s : VS} {ls : List (List UInt8)} (hs : IsE s (ss ls)) (hl : l.length + szs ls < 900000) (hn : ls.length < n) : Lays H k T l (textsI ls) (vF P tab (n + 4) 30 [.ptr (.ob k 0), .sl 9 s] H) := by
  have hsz : ls.length ≤ szs ls := by
    unfold szs
    clear hs hl hn
    induction ls with
    | nil => simp
    | cons a ls ih => simp only [List.map_cons, List.flatten_cons, List.length_append, textI_len, List.length_cons]; omega
  obtain ⟨H1, T1, g1, g2, g3, g4⟩ := e12 (n + 1) hw (ls.length : Int) (by omega)
  rw [vF_body rfl, f30_eq, hs.len, ss_len, callD_ptr g1, Option.bind_some]
  obtain ⟨H2, T2, q1, q2, q3, q4⟩ := l30 n (H0 := H1) (k := k) (T0 := T1) (l := l ++ [u8 (ls.length : Int)]) hs (by simp only [List.length_append, List.length_singleton]; omega) (by omega) (n + 3) 0 (T := T1) (by simpa using g2) (Kp.refl _ _) (fun t ht => .inl ht) (by omega) (by omega)
  refine ⟨H2, T2, q1, ?_, kp_next g3 q3 g4, tk_next g3 g4 q4⟩
  rw [textsI]
  rw [List.append_assoc] at q2
  exact q2
theorem e13 (n : Nat) {H : VH} {k : Nat} {T : List Nat} {l : List UInt8} (hw : WS H k T l) (hl : l.length < 1000000) :
    ∃ s' H', vF P tab (n + 2) 13 [.ptr (.ob k 0)] H = some (.sl 5 s', H') ∧ IsH H' s' l ∧ (∀ i, s' = .hp i 0 l.length → H.length ≤ i) ∧ Kp H H' [] := by
  obtain ⟨s, h1, h2, rfl⟩ := hw
  obtain ⟨s', H', g1, g2, g3, g4⟩ := e38 n (Rd.ofB H h2.isE) hl
  rw [vF_body rfl, f13_eq]
  simp only [VP.isNil, cond_false, nn, atO, Option.bind_some, Nat.zero_add]
  rw [ld_row h1]
  simp only [List.getElem?_cons_zero, Option.bind_some, fd_sl]
  rw [callD_sl g1, Option.bind_some]
  exact ⟨s', H', rfl, g2, g3, g4⟩
end Go.Proofs.Ythodknboobgfpaa
