import Derived.Test.YtfneikjincmhpaaB18f
set_option maxRecDepth 100000
set_option linter.unusedVariables false
set_option linter.unusedSimpArgs false
namespace Go.Proofs.Ytfneikjincmhpaa
open Go.Proofs.Ytfneikjincmhpaa.Sh Go.Proofs.Ytfneikjincmhpaa.Sh.V Go.RowKit
/-! ### Bytes that may lie in an object; replies -/
theorem all2 {a b : VS} (h : [V.sl 5 a, V.sl 5 b].all closedC = true) : closedC (.sl 5 a) = true ∧ closedC (.sl 5 b) = true := by
  simpa using h
theorem j13 (n : Nat) {H : VH} {a b : VS} {la lb : List UInt8} (ha : Rd H a la) (hb : Rd H b lb) (hl : la.length + lb.length < 10000000) : ∃ s' H', vF P tab (n + 1) 13 [.sl 5 a, .sl 5 b] H = some (.sl 5 s', H') ∧ IsB s' (la ++ lb) ∧ Kp H H' [] := by
  cases hc : [V.sl 5 a, V.sl 5 b].all closedC with
  | true =>
    obtain ⟨h1, h2⟩ := all2 hc
    obtain ⟨s', g1, g2⟩ := e13 n (H := H) (ha.isB h1) (hb.isB h2) hl
    exact ⟨s', H, g1, g2, Kp.refl _ _⟩
  | false =>
    rw [vF_open rfl hc, f13_eq]
    obtain ⟨s1, H1, g1, g2, g3, g4⟩ := (Aq.nil (H := H) (e := 5)).app (x := a) (news := bs la) (sz := 1) (by_ := 1) (by rw [ha.len, bs_len]) (ha.es (Kp.refl H []) (fun x hx => by cases hx)) (by rw [bs_len]; simp only [bound, List.length_nil]; omega) (by rw [bs_len]; simp only [bound, List.length_nil]; omega)
    rw [g1, Option.bind_some]
    have kp1 : Kp H H1 [] := g3
    obtain ⟨s2, H2, g5, g6, g7, g8⟩ := g2.app (x := b) (news := bs lb) (sz := 1) (by_ := 1) (by rw [hb.len, bs_len]) (hb.es kp1 (fun x hx => by cases hx)) (by rw [List.nil_append, bs_len, bs_len]; simp only [bound]; omega) (by rw [List.nil_append, bs_len, bs_len]; simp only [bound]; omega)
    rw [g5, Option.bind_some]
    refine ⟨s2, H2, rfl, ?_, kp1.trans g7 (fun x hx _ => hx) (fun y hy hlt => ?_)⟩
    · show IsE s2 (bs (la ++ lb))
      rw [bs_app]; exact g6.isE
    · rcases g4 y hy with h | h
      · cases h
      · omega
theorem fr14 (n : Nat) {H : VH} {a : VS} {la : List UInt8} (ha : Rd H a la) (hl : la.length < 1000000) : ∃ s' H', vF P tab (n + 2) 14 [.sl 5 a] H = some (.sl 5 s', H') ∧ IsB s' (textI la) ∧ Kp H H' [] := by
  cases hc : [V.sl 5 a].all closedC with
  | true =>
    obtain ⟨s', g1, g2⟩ := e14 n (H := H) (ha.isB (by simpa using hc)) hl
    exact ⟨s', H, g1, g2, Kp.refl _ _⟩
  | false =>
    rw [vF_open rfl hc, f14_eq]
    obtain ⟨s', H', g1, g2, g3⟩ := j13 n (H := H) (a := .fz [[.int .u8 (IntKind.wrap .u8 ((la.length / 256 : Nat) : Int))], [.int .u8 (IntKind.wrap .u8 ((la.length % 256 : Nat) : Int))]] (.ex 2)) (la := [u8 ((la.length / 256 : Nat) : Int), u8 ((la.length % 256 : Nat) : Int)]) (Rd.ofB H (by rw [bc_wrap, bc_wrap]; exact .fz _ _)) ha (by simp only [List.length_cons, List.length_nil]; omega)
    rw [ha.len, show (256 : Int) = ((256 : Nat) : Int) from rfl, quoI_nat (by decide) (by rw [i64_nat (by omega)]), Option.bind_some, remI_nat (by decide), Option.bind_some, callD_sl g1, Option.bind_some]
    rw [u8_mod] at g2
    exact ⟨s', H', rfl, g2, g3⟩
def hello : List UInt8 := [104, 101, 108, 108, 111]
/-- A literal in a new object. -/
theorem new_rd (H : VH) (l : List UInt8) : Rd (H ++ [.row 5 (bcs l)]) (.hp H.length 0 l.length) l ∧ Kp H (H ++ [.row 5 (bcs l)]) [] :=
  ⟨Rd.ofH (.inr ⟨H.length, rfl, by simp⟩), Kp.app _ _⟩
/-- A reply's bytes. -/
def encR (a c : Int) : List UInt8 := [u8 a, 0] ++ numI c ++ [0, 0, 0, 0, 0, 0, 0, 0, 0, 0, 0]
theorem encR_len (a c : Int) : (encR a c).length = 15 := rfl
abbrev Rp (a c : Int) : V := .agg [.int .i64 a, .bool false, .int .i64 c, .flt .f64 0, .sl 5 .nil, .sl 9 .nil]
def z11 : List (List V) := [[.int .u8 0], [.int .u8 0], [.int .u8 0], [.int .u8 0], [.int .u8 0], [.int .u8 0], [.int .u8 0], [.int .u8 0], [.int .u8 0], [.int .u8 0], [.int .u8 0]]
theorem r15 (n : Nat) (a c : Int) (H : VH) : vF P tab (n + 60) 15 [Rp a c] H = some (.sl 5 (.fz ([[.int .u8 (IntKind.wrap .u8 a)], [.int .u8 0], [.int .u8 (IntKind.wrap .u8 ((quoI .u64 ((remI (IntKind.wrap .u64 c) 65536).getD 0) 256).getD 0))], [.int .u8 (IntKind.wrap .u8 ((remI ((remI (IntKind.wrap .u64 c) 65536).getD 0) 256).getD 0))]] ++ z11) .no), H) := by kernel_rfl
theorem fd_flt (k : FloatKind) (x : Nat) : V.fdec (.flt k) (.flt k x) = some x := if_pos rfl
theorem heldStr_nil (H : VH) : heldStr H .nil = [] := rfl
theorem c60 (n : Nat) (H : VH) : V.callD (vF P tab (n + 60)) P false (.one (.flat (.int .u64))) 60 [.flt .f64 0] H = some (0, H) := callD_int (by kernel_rfl : vF P tab (n + 60) 60 [.flt .f64 0] H = some (.int .u64 0, H))
abbrev RR (a c : Int) : VO := .row (36 + boxK) [.int .i64 a, .bool false, .int .i64 c, .flt .f64 0, .sl 5 .nil, .sl 9 .nil]
theorem b49 (n : Nat) (a c : Int) : ∃ s H', bodyV P tab (vF P tab (n + 79)) (n + 79) 49 [Rp a c] [] = some (.sl 5 s, H') ∧ IsB s (encR a c) := by
  rw [f49_eq]
  obtain ⟨H1, hH1⟩ : ∃ H1 : VH, H1 = List.append (α := VO) ([] ++ [RR a c]) [.row (95 + boxK) [.sl 5 .nil]] := ⟨_, rfl⟩
  rw [← hH1, show ldV (.flat .bool) ([] ++ [RR a c]) (.ob (List.length ([] : VH)) 1) = some false from rfl, Option.bind_some, cond_false, show List.length ([] ++ [RR a c] : VH) = 1 from rfl]
  have h0 : H1[0]? = some (RR a c) := by rw [hH1]; rfl
  have hw : WS H1 1 [] [] := ⟨.nil, by rw [hH1]; rfl, .nil, rfl⟩
  have hlen : H1.length = 2 := by rw [hH1]; rfl
  clear hH1
  simp only [List.length_nil]
  rw [ld_row h0, ld_row h0, ld_row h0, ld_row h0]
  simp only [List.getElem?_cons_succ, List.getElem?_cons_zero, Option.bind_some, fd_int, fd_sl, fd_flt]
  rw [show strV H1 5 .nil = some ⟨#[]⟩ from rfl, Option.bind_some, ld_row h0]
  simp only [List.getElem?_cons_succ, List.getElem?_cons_zero, Option.bind_some, fd_sl, heldStr_nil]
  have st : ∀ {H' : VH}, H'[0]? = some (RR a c) → ∀ (L : Held), (∀ x ∈ L, x = (.ob 0 5, .slice 9, .sl 9 .nil) ∨ x = (.ob 0 4, .slice 5, .sl 5 .nil) ∨ x = (.ob 0 3, .flt .f64, .flt .f64 0) ∨ x = (.ob 0 2, .int .i64, .int .i64 c) ∨ x = (.ob 0 0, .int .i64, .int .i64 a)) → V.stays H' L = true := by
    intro H' h L
    induction L with
    | nil => intro _; rfl
    | cons x L ih =>
      intro hL
      obtain ⟨p, τ, v⟩ := x
      rw [stays_cons, ih (fun y hy => hL y (List.mem_cons_of_mem _ hy)), Bool.and_true]
      rcases hL _ (List.mem_cons_self ..) with h1 | h1 | h1 | h1 | h1 <;> (
        injection h1 with h1 h2
        injection h2 with h2 h3
        subst h1 h2 h3
        rw [ld_row h]
        simp only [List.getElem?_cons_succ, List.getElem?_cons_zero, Option.bind_some, fd_int, fd_sl, fd_flt, V.fenc, same_self])
  have keep : ∀ {H2 H3 : VH} {T : List Nat}, H2[0]? = some (RR a c) → Kp H2 H3 (1 :: T) → (∀ t ∈ T, 2 ≤ t) → H3[0]? = some (RR a c) := fun h kp ht => kp.ob h (fun hm => by
    rcases List.mem_cons.1 hm with h1 | h1
    · cases h1
    · have := ht _ h1; omega)
  have tn : ∀ {H2 : VH} {T T2 : List Nat}, 2 ≤ H2.length → (∀ t ∈ T, 2 ≤ t) → (∀ t ∈ T2, t ∈ T ∨ H2.length ≤ t) → ∀ t ∈ T2, 2 ≤ t := fun h2 h h3 t ht => by
    rcases h3 t ht with h4 | h4
    · exact h t h4
    · omega
  have lit : ∀ (n : Nat) {H : VH} {T : List Nat} {l : List UInt8}, WS H 1 T l → l.length < 1000000 → Lays H 1 T l [0] (vF P tab (n + 2) 57 [.ptr (.ob 1 0), .int .u8 0] H) := fun n H T l h hl => e57 n h 0 hl
  obtain ⟨H2, T2, a1, a2, a3, a4⟩ := e57 (n + 77) hw a (by simp)
  have r2 := keep h0 a3 (by simp)
  have t2 := tn (by omega) (by simp) a4
  rw [callD_ptr a1, Option.bind_some]
  simp only
  rw [st r2 _ (by simp [hj]), cond_true]
  obtain ⟨H3, T3, b1, b2, b3, b4⟩ := lit (n + 77) a2 (by simp)
  have r3 := keep r2 b3 t2
  have l2 := a3.len
  have t3 := tn (by omega) t2 b4
  rw [callD_ptr b1, Option.bind_some]
  simp only
  rw [st r3 _ (by simp [hj]), cond_true]
  obtain ⟨H4, T4, c1, c2, c3, c4⟩ := e58 (n + 77) b2 c (by simp)
  have r4 := keep r3 c3 t3
  have l3 := b3.len
  have t4 := tn (by omega) t3 c4
  rw [callD_ptr c1, Option.bind_some]
  simp only
  rw [st r4 _ (by simp [hj]), cond_true, c60 (n + 19), Option.bind_some]
  simp only
  rw [st r4 _ (by simp [hj]), cond_true]
  obtain ⟨H5, T5, d1, d2, d3, d4⟩ := e59 (n + 59) c2 0 (by simp [numI])
  rw [show ((0 : Nat) : Int) = 0 from rfl] at d1
  have r5 := keep r4 d3 t4
  have l4 := c3.len
  have t5 := tn (by omega) t4 d4
  rw [callD_ptr d1, Option.bind_some]
  simp only
  rw [st r5 _ (by simp [hj]), cond_true]
  obtain ⟨H6, T6, f1, f2, f3, f4⟩ := e55 (n + 76) d2 [] (by simp [numI, wideI, wideN])
  rw [show (⟨([] : List UInt8).toArray⟩ : ByteArray) = ⟨#[]⟩ from rfl] at f1
  have r6 := keep r5 f3 t5
  have l5 := d3.len
  have t6 := tn (by omega) t5 f4
  rw [callD_ptr f1, Option.bind_some]
  simp only
  rw [st r6 _ (by simp [hj]), cond_true]
  obtain ⟨H7, T7, g1, g2, g3, g4⟩ := e61 (n + 75) f2 (s := .nil) (ls := []) .nil (by simp [numI, wideI, wideN, textI, szs]) (by simp)
  have r7 := keep r6 g3 t6
  rw [callD_ptr g1, Option.bind_some]
  simp only
  rw [st r7 _ (by simp [hj]), cond_true]
  obtain ⟨s8, H8, k1, k2, k3⟩ := e56 (n + 77) g2 (by simp [numI, wideI, wideN, textI, textsI])
  rw [callD_sl k1, Option.bind_some]
  simp only
  rw [st (k3.ob r7 (by simp)) _ (by simp [hj]), cond_true]
  refine ⟨s8, H8, rfl, ?_⟩
  have e : ([] ++ [u8 a] ++ [0] ++ numI c ++ wideI 0 ++ textI [] ++ textsI [] : List UInt8) = encR a c := by
    have w0 : wideI 0 = [0, 0, 0, 0, 0, 0, 0, 0] := by decide
    rw [w0]
    rfl
  rw [e] at k2
  exact k2
theorem e49 (n : Nat) (a c : Int) (H : VH) : ∃ s, vF P tab (n + 80) 49 [Rp a c] H = some (.sl 5 s, H) ∧ IsB s (encR a c) := by
  obtain ⟨s, H', h1, h2⟩ := b49 n a c
  exact ⟨s.strip, lone_E (H := H) rfl rfl h1 h2⟩
theorem e15r (n : Nat) (a c : Int) (H : VH) : ∃ s, vF P tab (n + 60) 15 [Rp a c] H = some (.sl 5 s, H) ∧ IsB s (encR a c) := by
  refine ⟨_, r15 n a c H, ?_⟩
  obtain ⟨y, hy⟩ : ∃ y : Nat, c % 18446744073709551616 = (y : Int) := ⟨(c % 18446744073709551616).toNat, by omega⟩
  rw [IntKind.wrap_u64, hy, show (65536 : Int) = ((65536 : Nat) : Int) from rfl, remI_nat (by decide), Option.getD_some, show (256 : Int) = ((256 : Nat) : Int) from rfl, quoI_nat (by decide) (by rw [wrap_u64_nat]; omega), Option.getD_some, remI_nat (by decide), Option.getD_some, bc_wrap, bc_wrap, bc_wrap]
  have e1 : u8 ((y % 65536 / 256 : Nat) : Int) = u8 (c / 256) := by unfold u8; congr 1; omega
  have e2 : u8 ((y % 65536 % 256 : Nat) : Int) = u8 c := by unfold u8; congr 1; omega
  rw [e1, e2]
  exact .fz _ _
/-! ### The program's session -/
abbrev SS : TypeId := 72 + boxK
def Ses (H : VH) (k ks : Nat) (T : List Nat) (st : Nat) (l : List UInt8) (b : Bool) (queue : List (List UInt8)) (out : List UInt8) : Prop :=
  ∃ qs os qes, H[k]? = some (.row SS [.int .u8 (st : Int), .ptr (.ob ks 0), .sl 22 qs, .sl 5 os]) ∧ RS ST H ks l b ∧ Aq H 22 qs qes ∧ PB qes queue ∧ Aq H 5 os (bs out) ∧ T = toks qs ++ toks os ∧ ∀ t ∈ toks qs, t ∉ toks os
theorem Ses.keep {H H' : VH} {X : List Nat} {k ks : Nat} {T : List Nat} {st : Nat} {l : List UInt8} {b : Bool} {queue : List (List UInt8)} {out : List UInt8} (h : Ses H k ks T st l b queue out) (kp : Kp H H' X) (hk : k ∉ X) (hks : ks ∉ X) (hT : ∀ t ∈ T, t ∉ X) : Ses H' k ks T st l b queue out := by
  obtain ⟨qs, os, qes, h1, h2, h3, h4, h5, rfl, h6⟩ := h
  exact ⟨qs, os, qes, kp.ob h1 hk, h2.keep kp hks, h3.keep kp (fun t ht => hT t (List.mem_append_left _ ht)), h4, h5.keep kp (fun t ht => hT t (List.mem_append_right _ ht)), rfl, h6⟩
theorem Ses.lt {H : VH} {k ks : Nat} {T : List Nat} {st : Nat} {l : List UInt8} {b : Bool} {queue : List (List UInt8)} {out : List UInt8} (h : Ses H k ks T st l b queue out) : k < H.length ∧ ks < H.length ∧ k ≠ ks ∧ (∀ t ∈ T, t < H.length ∧ t ≠ k ∧ t ≠ ks) := by
  obtain ⟨qs, os, qes, h1, ⟨s, h2, _⟩, h3, h4, h5, rfl, h6⟩ := h
  refine ⟨lt_of_ob h1, lt_of_ob h2, fun he => ?_, fun t ht => ?_⟩
  · subst he; rw [h1] at h2; injection h2 with h2; injection h2 with _ h2; simp at h2
  · have : ∃ e g, H[t]? = some (.tok e g) := by
      rcases List.mem_append.1 ht with ht | ht
      · obtain ⟨g, hg⟩ := h3.tok_at ht; exact ⟨_, g, hg⟩
      · obtain ⟨g, hg⟩ := h5.tok_at ht; exact ⟨_, g, hg⟩
    obtain ⟨e, g, hg⟩ := this
    exact ⟨lt_of_ob hg, (fun he => by subst he; rw [h1] at hg; cases hg), fun he => by subst he; rw [h2] at hg; cases hg⟩
/-- Tokens are old ones or new ones. -/
def TN (H : VH) (T T' : List Nat) : Prop := ∀ t ∈ T', t ∈ T ∨ H.length ≤ t
theorem TN.refl (H : VH) (T : List Nat) : TN H T T := fun t h => .inl h
theorem TN.trans {H H1 : VH} {X T T1 T2 : List Nat} (a : TN H T T1) (kp : Kp H H1 X) (b : TN H1 T1 T2) : TN H T T2 := fun t ht => by
  have := kp.len
  rcases b t ht with h | h
  · exact a t h
  · exact .inr (by omega)
theorem TN.sub {H : VH} {T T' : List Nat} (h : ∀ t ∈ T', t ∈ T) : TN H T T' := fun t ht => .inl (h t ht)
theorem kp_ses {H H1 H2 : VH} {k ks : Nat} {T T1 : List Nat} (a : Kp H H1 (k :: ks :: T)) (b : Kp H1 H2 (k :: ks :: T1)) (h : TN H T T1) : Kp H H2 (k :: ks :: T) :=
  a.trans b (fun x hx _ => hx) (fun y hy hl => by
    rcases List.mem_cons.1 hy with rfl | hy
    · exact List.mem_cons_self ..
    rcases List.mem_cons.1 hy with rfl | hy
    · exact List.mem_cons_of_mem _ (List.mem_cons_self ..)
    · rcases h y hy with h1 | h1
      · exact List.mem_cons_of_mem _ (List.mem_cons_of_mem _ h1)
      · omega)
theorem kp_nil {H H1 : VH} (a : Kp H H1 []) (X : List Nat) : Kp H H1 X := a.weak (fun x hx => by cases hx)
theorem e11s (n : Nat) (H : VH) : ∃ H', vF P tab (n + 2) 11 [] H = some (.ptr (.ob (H.length + 1) 0), H') ∧ Ses H' (H.length + 1) H.length [] 0 [] false [] [] ∧ Kp H H' [] := by
  rw [vF_body rfl, f11_eq, callD_ptr (e32 n H), Option.bind_some]
  have hl : (H ++ [VO.row ST [.sl 5 .nil, .bool false]]).length = H.length + 1 := by simp
  simp only [hl]
  refine ⟨_, rfl, ⟨.nil, .nil, [], ?_, ?_, .nil, .nil, .nil, rfl, fun t h => by cases h⟩, ?_⟩
  · rw [List.getElem?_append_right (by rw [hl]; exact Nat.le_refl _), hl, Nat.sub_self]; rfl
  · exact (new_st H).keep (Kp.app _ _) (by simp)
  · exact (Kp.app H _).trans (Kp.app _ _) (fun x hx _ => hx) (fun y hy _ => hy)
section
variable {H : VH} {k ks : Nat} {T : List Nat} {st : Nat} {l : List UInt8} {b : Bool} {queue : List (List UInt8)} {out : List UInt8}
theorem e16s (n : Nat) (h : Ses H k ks T st l b queue out) : vF P tab (n + 1) 16 [.ptr (.ob k 0)] H = some (.int .u8 (st : Int), H) := by
  obtain ⟨qs, os, qes, h1, _⟩ := h
  rw [vF_body rfl, f16_eq]
  simp only [VP.isNil, cond_false, nn, atO, Option.bind_some]
  rw [ld_row h1]
  rfl
theorem e20s (n : Nat) (h : Ses H k ks T st l b queue out) : vF P tab (n + 1) 20 [.ptr (.ob k 0)] H = some (.int .i64 (queue.length : Int), H) := by
  obtain ⟨qs, os, qes, h1, h2, h3, h4, _⟩ := h
  rw [vF_body rfl, f20_eq]
  simp only [VP.isNil, cond_false, nn, atO, Option.bind_some]
  rw [ld_row h1]
  simp only [Nat.zero_add, List.getElem?_cons_succ, List.getElem?_cons_zero, Option.bind_some, fd_sl]
  rw [h3.isE.len, h4.len]
theorem e18s (n : Nat) (h : Ses H k ks T st l b queue out) : ∃ s' H' T', vF P tab (n + 1) 18 [.ptr (.ob k 0)] H = some (.sl 5 s', H') ∧ IsB s' out ∧ Ses H' k ks T' st l b queue [] ∧ Kp H H' (k :: ks :: T) ∧ TN H T T' := by
  have hlt := h.lt
  obtain ⟨qs, os, qes, h1, h2, h3, h4, h5, rfl, h6⟩ := h
  rw [vF_body rfl, f18_eq]
  simp only [VP.isNil, cond_false, nn, atO, Option.bind_some]
  rw [ld_row h1]
  simp only [Nat.zero_add, List.getElem?_cons_succ, List.getElem?_cons_zero, Option.bind_some, fd_sl]
  rw [st_row h1 (by simp) rfl, Option.bind_some]
  have kp : Kp H (H.set k (.row SS (putAllV [.int .u8 (st : Int), .ptr (.ob ks 0), .sl 22 qs, .sl 5 os] 3 [.sl 5 .nil]))) [k] := Kp.set _ _ _
  refine ⟨os, _, toks qs, rfl, h5.isE, ⟨qs, .nil, qes, by rw [List.getElem?_set_self (lt_of_ob h1)]; rfl, h2.keep kp (by simpa using fun he => hlt.2.2.1 he.symm), h3.keep kp (fun t ht h => ?_), h4, .nil, by simp [toks], fun t _ h => by cases h⟩, kp.weak (fun x hx _ => by rw [List.mem_singleton.1 hx]; exact List.mem_cons_self ..), TN.sub (fun t ht => List.mem_append_left _ ht)⟩
  rw [List.mem_singleton] at h
  exact (hlt.2.2.2 t (List.mem_append_left _ ht)).2.1 h
theorem e27s (n : Nat) (h : Ses H k ks T st l b queue out) : ∃ H' T', vF P tab (n + 1) 27 [.ptr (.ob k 0)] H = some (.tup [], H') ∧ Ses H' k ks T' 3 l b [] out ∧ Kp H H' (k :: ks :: T) ∧ TN H T T' := by
  have hlt := h.lt
  obtain ⟨qs, os, qes, h1, h2, h3, h4, h5, rfl, h6⟩ := h
  rw [vF_body rfl, f27_eq]
  simp only [VP.isNil, Bool.not_false, cond_true, nn, atO, Option.bind_some, Nat.zero_add]
  rw [st_row h1 (by simp) rfl, Option.bind_some, st_row (by rw [List.getElem?_set_self (lt_of_ob h1)]) (by simp [putAllV]) rfl, Option.bind_some]
  have kp : Kp H ((H.set k (.row SS (putAllV [.int .u8 (st : Int), .ptr (.ob ks 0), .sl 22 qs, .sl 5 os] 0 [.int .u8 3]))).set k (.row SS (putAllV (putAllV [.int .u8 (st : Int), .ptr (.ob ks 0), .sl 22 qs, .sl 5 os] 0 [.int .u8 3]) 2 [.sl 22 .nil]))) [k] := (Kp.set H k _).trans (Kp.set _ k _) (fun x hx _ => hx) (fun y hy _ => hy)
  refine ⟨_, toks os, rfl, ⟨.nil, os, [], by rw [List.getElem?_set_self (by simpa using lt_of_ob h1)]; rfl, h2.keep kp (by simpa using fun he => hlt.2.2.1 he.symm), .nil, .nil, h5.keep kp (fun t ht h => ?_), rfl, fun t h => by cases h⟩, kp.weak (fun x hx _ => by rw [List.mem_singleton.1 hx]; exact List.mem_cons_self ..), TN.sub (fun t ht => List.mem_append_right _ ht)⟩
  rw [List.mem_singleton] at h
  exact (hlt.2.2.2 t (List.mem_append_right _ ht)).2.1 h
/-- The first that waits. -/
theorem e21s (n : Nat) (h : Ses H k ks T st l b queue out) : ∃ s' H' T', vF P tab (n + 2) 21 [.ptr (.ob k 0)] H = some (.tup [.sl 5 s', .bool (decide (queue ≠ []))], H') ∧ IsB s' (queue.headD []) ∧ Ses H' k ks T' st l b queue.tail out ∧ Kp H H' (k :: ks :: T) ∧ TN H T T' := by
  have hlt := h.lt
  rw [vF_body rfl, f21_eq, callD_int (e20s n h), Option.bind_some]
  cases queue with
  | nil =>
    rw [show ((([] : List (List UInt8)).length : Int) == 0) = true from rfl, cond_true]
    exact ⟨.nil, H, T, rfl, .nil, h, Kp.refl _ _, TN.refl _ _⟩
  | cons x queue =>
    obtain ⟨qs, os, qes, h1, h2, h3, h4, h5, rfl, h6⟩ := h
    rw [show (((x :: queue).length : Int) == 0) = false by rw [beq_eq_false_iff_ne]; simp only [List.length_cons]; omega, cond_false]
    simp only [nn, atO, Option.bind_some]
    rw [ld_row h1]
    simp only [Nat.zero_add, List.getElem?_cons_succ, List.getElem?_cons_zero, Option.bind_some, fd_sl]
    cases h4 with
    | cons hv hp =>
      rename_i v es
      rw [show (0 : Int) = ((0 : Nat) : Int) from rfl, h3.isE.ix (i := 0) rfl 1, Option.bind_some, show ldV (.flat (.slice 5)) H (.fz [.sl 5 v]) = some v from fd_sl 5 v, Option.bind_some]
      obtain ⟨qs', g1, g2, g3⟩ := h3.tail (sz := 1)
      rw [g1, Option.bind_some, st_row h1 (by simp) rfl, Option.bind_some]
      have kp : Kp H (H.set k (.row SS (putAllV [.int .u8 (st : Int), .ptr (.ob ks 0), .sl 22 qs, .sl 5 os] 2 [.sl 22 qs']))) [k] := Kp.set _ _ _
      have nk : ∀ t ∈ toks qs ++ toks os, t ∉ [k] := fun t ht h => (hlt.2.2.2 t ht).2.1 (List.mem_singleton.1 h)
      exact ⟨v, _, toks qs' ++ toks os, rfl, hv, ⟨qs', os, es, by rw [List.getElem?_set_self (lt_of_ob h1)]; rfl, h2.keep kp (by simpa using fun he => hlt.2.2.1 he.symm), g2.keep kp (fun t ht => nk t (List.mem_append_left _ (g3 t ht))), hp, h5.keep kp (fun t ht => nk t (List.mem_append_right _ ht)), rfl, fun t ht => h6 t (g3 t ht)⟩, kp.weak (fun x hx _ => by rw [List.mem_singleton.1 hx]; exact List.mem_cons_self ..), TN.sub (fun t ht => by
        rcases List.mem_append.1 ht with ht | ht
        · exact List.mem_append_left _ (g3 t ht)
        · exact List.mem_append_right _ ht)⟩
/-- What a reply adds. -/
def ans (a c : Int) : List UInt8 := textI (encR a c)
theorem ans_len (a c : Int) : (ans a c).length = 17 := rfl
theorem e29s (n : Nat) (a c : Int) (h : Ses H k ks T st l b queue out) (hl : out.length < 1000000) :
    ∃ H' T', vF P tab (n + 82) 29 [.ptr (.ob k 0), Rp a c] H = some (.tup [], H') ∧ Ses H' k ks T' st l b queue (if st = 3 then out else out ++ ans a c) ∧ Kp H H' (k :: ks :: T) ∧ TN H T T' := by
  have hlt := h.lt
  have kp0 : Kp H (H ++ [.row (36 + boxK) [.int .i64 a, .bool false, .int .i64 c, .flt .f64 0, .sl 5 .nil, .sl 9 .nil]]) [] := Kp.app _ _
  have h0 := h.keep kp0 (by simp) (by simp) (by simp)
  have hR : (H ++ [VO.row (36 + boxK) [.int .i64 a, .bool false, .int .i64 c, .flt .f64 0, .sl 5 .nil, .sl 9 .nil]])[H.length]? = some (.row (36 + boxK) [.int .i64 a, .bool false, .int .i64 c, .flt .f64 0, .sl 5 .nil, .sl 9 .nil]) := by simp
  rw [vF_body rfl, f29_eq]
  generalize hH0 : H ++ [VO.row (36 + boxK) [.int .i64 a, .bool false, .int .i64 c, .flt .f64 0, .sl 5 .nil, .sl 9 .nil]] = H0 at kp0 h0 hR
  rw [callD_int (e16s (n + 80) h0), Option.bind_some]
  by_cases hst : st = 3
  · rw [if_pos hst, show (((st : Nat) : Int) != 3) = false by rw [hst]; rfl, cond_false]
    exact ⟨H0, T, rfl, h0, kp_nil kp0 _, TN.refl _ _⟩
  · rw [if_neg hst, show (((st : Nat) : Int) != 3) = true by simp only [bne_iff_ne, ne_eq]; omega, cond_true]
    obtain ⟨qs, os, qes, h1, h2, h3, h4, h5, rfl, h6⟩ := h0
    simp only [nn, atO, Option.bind_some, Nat.zero_add]
    rw [ld_row h1]
    simp only [List.getElem?_cons_succ, List.getElem?_cons_zero, Option.bind_some, fd_sl]
    have hld : ldV (.agg [.int .i64, .bool, .int .i64, .flt .f64, .slice 5, .slice 9]) H0 (.ob H.length 0) = some (a, false, c, 0, .nil, .nil, ()) := by
      simp only [ldV, rowV_of hR, Option.bind_some]
      rfl
    rw [hld, Option.bind_some]
    have hst3 : ldV (.flat (.slice 5)) H0 (.ob k 3) = some os := by
      rw [ld_row h1]
      simp only [List.getElem?_cons_succ, List.getElem?_cons_zero, Option.bind_some, fd_sl]
    have stay : V.stays H0 (hj (heldOf (.ob k 3) [.slice 5] [.sl 5 os]) []) = true := stays_sl hst3
    obtain ⟨s1, g1, g2⟩ := e49 (n + 1) a c H0
    obtain ⟨s2, g3, g4⟩ := e48 (n + 77) (H := H0) g2 (by rw [encR_len]; omega)
    simp only [stay, cond_true]
    rw [callD_sl g1, Option.bind_some]
    simp only [stay, cond_true]
    rw [callD_sl g3, Option.bind_some]
    simp only [stay, cond_true]
    obtain ⟨s3, H1, q1, q2, q3, q4⟩ := h5.appE (sz := 1) (by_ := 1) (x := s2) g4 (by rw [bs_len, bs_len]; have := ans_len a c; unfold ans at this; simp only [bound]; omega) (by rw [bs_len, bs_len]; have := ans_len a c; unfold ans at this; simp only [bound]; omega)
    have hlt0 := (show Ses H0 k ks (toks qs ++ toks os) st l b queue out from ⟨qs, os, qes, h1, h2, h3, h4, h5, rfl, h6⟩).lt
    have hk1 := q3.ob h1 (fun ht => (hlt0.2.2.2 k (List.mem_append_right _ ht)).2.1 rfl)
    rw [q1, Option.bind_some]
    simp only
    rw [st_row hk1 (by simp) rfl, Option.bind_some]
    have kp : Kp H1 (H1.set k (.row SS (putAllV [.int .u8 (st : Int), .ptr (.ob ks 0), .sl 22 qs, .sl 5 os] 3 [.sl 5 s3]))) [k] := Kp.set _ _ _
    have hks : ks ∉ toks os := fun ht => (hlt0.2.2.2 ks (List.mem_append_right _ ht)).2.2 rfl
    have hlen := q3.len
    refine ⟨_, toks qs ++ toks s3, rfl, ⟨qs, s3, qes, by rw [List.getElem?_set_self (lt_of_ob hk1)]; rfl, (h2.keep q3 hks).keep kp (by simpa using fun he => hlt.2.2.1 he.symm), (h3.keep q3 h6).keep kp (fun t ht hm => (hlt0.2.2.2 t (List.mem_append_left _ ht)).2.1 (List.mem_singleton.1 hm)), h4, ?_, rfl, fun t ht hm => ?_⟩, ?_, fun t ht => ?_⟩
    · have q2' := q2.keep kp (fun t ht hm => by
        rw [List.mem_singleton] at hm
        obtain ⟨g, hg⟩ := q2.tok_at ht
        rw [hm, hk1] at hg; cases hg)
      rw [← bs_app] at q2'
      exact q2'
    · rcases q4 t hm with h7 | h7
      · exact h6 t ht h7
      · have := (hlt0.2.2.2 t (List.mem_append_left _ ht)).1; omega
    · refine (kp_nil kp0 (k :: ks :: (toks qs ++ toks os))).trans (q3.trans kp (Z := k :: ks :: (toks qs ++ toks os)) (fun x hx _ => List.mem_cons_of_mem _ (List.mem_cons_of_mem _ (List.mem_append_right _ hx))) (fun y hy _ => by rw [List.mem_singleton.1 hy]; exact List.mem_cons_self ..)) (fun x hx _ => hx) (fun y hy _ => hy)
    · rcases List.mem_append.1 ht with h7 | h7
      · exact .inl (List.mem_append_left _ h7)
      · rcases q4 t h7 with h8 | h8
        · exact .inl (List.mem_append_right _ h8)
        · exact .inr (by have := kp0.len; omega)
end
end Go.Proofs.Ytfneikjincmhpaa
