import Derived.Test.YtaifjlpgggimaaaEq
set_option linter.unusedVariables false
set_option linter.unusedSimpArgs false
namespace Go.Proofs.Ytaifjlpgggimaaa
open Go.Proofs.Ytaifjlpgggimaaa.Sh Go.Proofs.Ytaifjlpgggimaaa.Sh.V Go.RowKit
theorem tabOK : VOK P tab := mkV_ok (by kernel_rfl) (by kernel_rfl) (by
  intro f hf
  have : (reach.all fun f => okCode P noteOf f) = true := by kernel_rfl
  exact List.all_eq_true.1 this f hf) (fun f hf => by cases hf)
/-! ### Bytes as numbers -/
def numA (x : Nat) (l : List UInt8) : Nat := l.foldl (fun x b => x * 256 % 18446744073709551616 + b.toNat) x
theorem numA_lt {x : Nat} (hx : x < 18446744073709551616) (l : List UInt8) : numA x l < 18446744073709551616 := by
  induction l generalizing x with
  | nil => exact hx
  | cons b l ih =>
    have := b.toNat_lt
    exact ih (x := x * 256 % 18446744073709551616 + b.toNat) (by omega)
theorem numA_snoc (x : Nat) (l : List UInt8) (b : UInt8) : numA x (l ++ [b]) = numA x l * 256 % 18446744073709551616 + b.toNat := by
  simp [numA, List.foldl_append]
theorem numA_take {l : List UInt8} {i : Nat} {b : UInt8} (h : l[i]? = some b) : numA 0 (l.take (i + 1)) = numA 0 (l.take i) * 256 % 18446744073709551616 + b.toNat := by
  obtain ⟨hlt, he⟩ := List.getElem?_eq_some_iff.1 h
  rw [List.take_succ_eq_append_getElem hlt, numA_snoc, he]
/-! ### The reader -/
abbrev RT : TypeId := 58 + boxK
/-- A reader in the object k: what isn't read, has it failed? -/
def RS (T : TypeId) (H : VH) (k : Nat) (l : List UInt8) (f : Bool) : Prop := ∃ s, H[k]? = some (.row T [.sl 5 s, .bool f]) ∧ IsB s l
theorem RS.keep {T : TypeId} {H H' : VH} {X : List Nat} {k : Nat} {l : List UInt8} {f : Bool} (h : RS T H k l f) (kp : Kp H H' X) (hx : k ∉ X) : RS T H' k l f := by
  obtain ⟨s, h1, h2⟩ := h; exact ⟨s, kp.ob h1 hx, h2⟩
theorem e33 (n : Nat) {H : VH} {k : Nat} {l : List UInt8} {f : Bool} (h : RS RT H k l f) : ∃ H', vF P tab (n + 1) 33 [.ptr (.ob k 0)] H = some (.tup [], H') ∧ RS RT H' k [] true ∧ Kp H H' [k] ∧ H'.length = H.length := by
  obtain ⟨s, h1, h2⟩ := h
  have hk := lt_of_ob h1
  rw [vF_body rfl, f33_eq]
  simp only [nn, atO, Option.bind_some, Nat.zero_add]
  rw [st_row h1 (by simp) rfl, Option.bind_some]
  rw [st_row (by rw [List.getElem?_set_self hk]) (by simp [putAllV]) rfl, Option.bind_some]
  refine ⟨_, rfl, ⟨.nil, ?_, .nil⟩, ?_, by simp⟩
  · rw [List.getElem?_set_self (by simpa using hk)]; rfl
  · exact (Kp.set H k _).trans (Kp.set _ k _) (fun x hx _ => hx) (fun y hy _ => hy)
theorem e32 (n : Nat) {H : VH} {k : Nat} {l : List UInt8} {f : Bool} (h : RS RT H k l f) : vF P tab (n + 1) 32 [.ptr (.ob k 0)] H = some (.bool (!f), H) := by
  obtain ⟨s, h1, h2⟩ := h
  rw [vF_body rfl, f32_eq]
  simp only [VP.isNil, Bool.not_false, cond_true, nn, atO, Option.bind_some]
  rw [ld_row h1]
  rfl
theorem c32 (n : Nat) {H : VH} {k : Nat} {l : List UInt8} {f : Bool} (h : RS RT H k l f) : callD (vF P tab (n + 1)) P false (.one (.flat .bool)) 32 [.ptr (.ob k 0)] H = some (!f, H) := callD_some _ (e32 n h) rfl
/-- What is left when so many bytes are taken; the bytes. -/
def takeS (n : Nat) (l : List UInt8) (f : Bool) : List UInt8 × List UInt8 × Bool :=
  if f = true then ([], l, true) else if l.length < n then ([], [], true) else (l.take n, l.drop n, false)
theorem e31 (n : Nat) {H : VH} {k : Nat} {l : List UInt8} {f : Bool} (h : RS RT H k l f) {c : Nat} (hc : c < 1000000) :
    ∃ s' H', vF P tab (n + 2) 31 [.ptr (.ob k 0), .int .i64 (c : Int)] H = some (.sl 5 s', H') ∧ IsB s' (takeS c l f).1 ∧ RS RT H' k (takeS c l f).2.1 (takeS c l f).2.2 ∧ Kp H H' [k] ∧ H'.length = H.length := by
  rw [vF_body rfl, f31_eq, c32 n h, Option.bind_some]
  unfold takeS
  cases f with
  | true =>
    simp only [Bool.not_true, Bool.not_false, cond_true, if_true]
    exact ⟨.nil, H, rfl, .nil, h, Kp.refl _ _, rfl⟩
  | false =>
    obtain ⟨s, h1, h2⟩ := h
    have hk := lt_of_ob h1
    simp only [Bool.not_true, Bool.not_false, cond_false, nn, atO, Option.bind_some, Nat.zero_add, Bool.false_eq_true, if_false]
    rw [ld_row h1]
    simp only [List.getElem?_cons_zero, Option.bind_some, fd_sl]
    rw [h2.len, bs_len]
    by_cases hl : l.length < c
    · rw [decide_eq_true (by omega), cond_true, if_pos hl]
      obtain ⟨H', g1, g2, g3, g4⟩ := e33 n ⟨s, h1, h2⟩
      rw [callD_some (τ := .tup []) (x := ()) _ g1 rfl, Option.bind_some]
      exact ⟨.nil, H', rfl, .nil, g2, g3, g4⟩
    · rw [decide_eq_false (by omega), cond_false, if_neg hl]
      obtain ⟨s1, g1, g2, _⟩ := h2.cut (lo := 0) (hi := c) (Nat.zero_le _) (by rw [bs_len]; omega) (lo' := none) (hi' := some (c : Int)) (mx' := some (c : Int)) (.inr ⟨rfl, rfl⟩) (.inl rfl) (.inr ⟨rfl, rfl⟩) H 5 1
      obtain ⟨s2, g3, g4, _⟩ := h2.cut (lo := c) (hi := l.length) (by omega) (by rw [bs_len]; omega) (lo' := some (c : Int)) (hi' := none) (mx' := none) (.inl rfl) (.inr ⟨rfl, by rw [bs_len]⟩) (.inl rfl) H 5 1
      rw [g1, Option.bind_some, g3, Option.bind_some, st_row h1 (by simp) rfl, Option.bind_some]
      rw [List.drop_zero, bs_take] at g2
      rw [List.take_of_length_le (by rw [bs_len]; exact Nat.le_refl _), bs_drop] at g4
      exact ⟨s1, _, rfl, g2, ⟨s2, by rw [List.getElem?_set_self hk]; rfl, g4⟩, Kp.set _ _ _, by simp⟩
theorem l30 (n : Nat) {H : VH} {s : VS} {l : List UInt8} (hs : IsB s l) (hl : l.length < 1000000) : ∀ (m i : Nat), i ≤ l.length → l.length < i + m → L30_0 n m (numA 0 (l.take i) : Int) s (l.length : Int) (i : Int) H = some (.int .u64 (numA 0 l : Int), H) := by
  intro m
  induction m with
  | zero => intro i h1 h2; omega
  | succ m ih =>
    intro i h1 h2
    rw [L30_0_eq]
    by_cases hi : i < l.length
    · rw [decide_eq_true (by omega), cond_true]
      obtain ⟨b, hb⟩ : ∃ b, l[i]? = some b := ⟨_, List.getElem?_eq_getElem hi⟩
      rw [hs.rd hb]
      have hx := numA_lt (x := 0) (by decide) (l.take i)
      have hb2 := b.toNat_lt
      have h3 := shlI_u64 (x := numA 0 (l.take i)) (k := 8) (by omega)
      rw [show ((8 : Nat) : Int) = 8 from rfl] at h3
      rw [h3, Option.bind_some, wrap_u64_nat (by omega), bitI_or (by omega) (by omega)]
      have e : numA 0 (l.take i) * 2 ^ 8 % 18446744073709551616 = (numA 0 (l.take i) % 72057594037927936) * 2 ^ 8 := by omega
      rw [e, or_add (by simpa using hb2)]
      have e2 : (numA 0 (l.take i) % 72057594037927936) * 2 ^ 8 + b.toNat = numA 0 (l.take (i + 1)) := by rw [numA_take hb]; omega
      have e3 : IntKind.wrap .i64 ((i : Int) + 1) = ((i + 1 : Nat) : Int) := by rw [i64_in (by omega)]; rfl
      rw [e2, e3]
      exact ih (i + 1) (by omega) (by omega)
    · rw [decide_eq_false (by omega), cond_false]
      have : i = l.length := by omega
      subst this
      rw [List.take_length]
theorem e30 (n : Nat) {H : VH} {k : Nat} {l : List UInt8} {f : Bool} (h : RS RT H k l f) {c : Nat} (hc : c < 1000000) (hn : c ≤ n) :
    ∃ H', vF P tab (n + 3) 30 [.ptr (.ob k 0), .int .i64 (c : Int)] H = some (.int .u64 (numA 0 (takeS c l f).1 : Int), H') ∧ RS RT H' k (takeS c l f).2.1 (takeS c l f).2.2 ∧ Kp H H' [k] ∧ H'.length = H.length := by
  obtain ⟨s', H', g1, g2, g3⟩ := e31 n h hc
  have hlen : (takeS c l f).1.length ≤ c := by
    unfold takeS
    split
    · simp
    · split
      · simp
      · simp only [List.length_take]; omega
  rw [vF_body rfl, f30_eq, callD_some (τ := .one (.flat (.slice 5))) (x := s') _ g1 rfl, Option.bind_some]
  simp only
  rw [g2.len, bs_len]
  exact ⟨H', l30 (n + 2) g2 (by omega) (n + 2) 0 (by omega) (by omega), g3⟩
theorem takeS_len (c : Nat) (l : List UInt8) (f : Bool) : (takeS c l f).1.length ≤ c := by
  unfold takeS
  split
  · simp
  · split
    · simp
    · simp only [List.length_take]; omega
theorem numA1 {l : List UInt8} (h : l.length ≤ 1) : numA 0 l < 256 := by
  match l, h with
  | [], _ => decide
  | [b], _ => have := b.toNat_lt; simpa [numA] using this
theorem numA2 {l : List UInt8} (h : l.length ≤ 2) : numA 0 l < 65536 := by
  match l, h with
  | [], _ => decide
  | [b], _ => have := b.toNat_lt; simp [numA]; omega
  | [a, b], _ => have := b.toNat_lt; have := a.toNat_lt; simp [numA]; omega
theorem e29 (n : Nat) {H : VH} {k : Nat} {l : List UInt8} {f : Bool} (h : RS RT H k l f) (hn : 300 ≤ n) :
    ∃ H', vF P tab (n + 4) 29 [.ptr (.ob k 0)] H = some (.int .i64 (numA 0 (takeS 2 l f).1 : Int), H') ∧ RS RT H' k (takeS 2 l f).2.1 (takeS 2 l f).2.2 ∧ Kp H H' [k] ∧ H'.length = H.length := by
  obtain ⟨H', g1, g2⟩ := e30 n h (c := 2) (by omega) (by omega)
  rw [show ((2 : Nat) : Int) = 2 from rfl] at g1
  have := numA2 (takeS_len 2 l f)
  rw [vF_body rfl, f29_eq, callD_int g1, Option.bind_some]
  simp only
  rw [i64_nat (by omega)]
  exact ⟨H', rfl, g2⟩
/-- A text. -/
def textS (l : List UInt8) (f : Bool) : List UInt8 × List UInt8 × Bool :=
  takeS (numA 0 (takeS 2 l f).1) (takeS 2 l f).2.1 (takeS 2 l f).2.2
/-- Texts as elements. -/
def ss (ls : List (List UInt8)) : List (List V) := ls.map fun l => [.str ⟨l.toArray⟩]
theorem ss_len (ls : List (List UInt8)) : (ss ls).length = ls.length := by simp [ss]
/-- So many texts; none, if there aren't so many. -/
def textsL : Nat → List UInt8 → Bool → List (List UInt8) → List (List UInt8) × List UInt8 × Bool
  | 0, l, f, acc => (if f = true then [] else acc, l, f)
  | n + 1, l, f, acc => if f = true then ([], l, true) else if (textS l f).2.2 = true then ([], (textS l f).2.1, true) else textsL n (textS l f).2.1 false (acc ++ [(textS l f).1])
theorem textS_fail (l : List UInt8) : textS l true = ([], l, true) := by simp [textS, takeS]
/-- As many texts as it says, but not more than so many. -/
def textsS (most : Nat) (l : List UInt8) (f : Bool) : List (List UInt8) × List UInt8 × Bool :=
  if most < numA 0 (takeS 1 l f).1 ∧ (takeS 1 l f).2.2 = false then textsL (numA 0 (takeS 1 l f).1) [] true []
  else textsL (numA 0 (takeS 1 l f).1) (takeS 1 l f).2.1 (takeS 1 l f).2.2 []
def bcs (l : List UInt8) : List V := l.map fun b => .int .u8 (b.toNat : Int)
@[simp] theorem bcs_len (l : List UInt8) : (bcs l).length = l.length := by simp [bcs]
theorem bs_flat (l : List UInt8) : (bs l).flatten = bcs l := by
  induction l with
  | nil => rfl
  | cons b l ih => show bc b ++ (bs l).flatten = _; rw [ih]; rfl
theorem chunk_bcs (l : List UInt8) : chunk 1 l.length (bcs l) = bs l := by
  induction l with
  | nil => rfl
  | cons b l ih => show (bcs (b :: l)).take 1 :: chunk 1 l.length ((bcs (b :: l)).drop 1) = _; rw [show (bcs (b :: l)).drop 1 = bcs l from rfl, ih]; rfl
theorem strip_bcs (l : List UInt8) : (bcs l).map strip1 = bcs l := by
  induction l with
  | nil => rfl
  | cons b l ih => show strip1 _ :: (bcs l).map strip1 = _; rw [ih]; rfl
theorem closed_bcs (l : List UInt8) : (bcs l).all closed1 = true := by
  induction l with
  | nil => rfl
  | cons b l ih => show (closed1 _ && (bcs l).all closed1) = _; rw [ih]; rfl
theorem hp_bcs {H : VH} {i : Nat} {l : List UInt8} (h : H[i]? = some (.row 5 (bcs l))) : hpEs H 5 1 i 0 l.length = some (bs l) := by
  unfold hpEs
  rw [h]
  simp only [List.drop_zero, Nat.zero_add, Nat.mul_one, bcs_len, true_and, Nat.le_refl]
  rw [List.take_of_length_le (by simp), closed_bcs, if_pos rfl, strip_bcs, chunk_bcs]
/-- Bytes in an object that may be written. -/
def IsH (H : VH) (s : VS) (l : List UInt8) : Prop := (s = .nil ∧ l = []) ∨ ∃ i, s = .hp i 0 l.length ∧ H[i]? = some (.row 5 (bcs l))
/-- Bytes that can be read, as long as nothing is written. -/
structure Rd (H : VH) (s : VS) (l : List UInt8) : Prop where
  len : s.len = l.length
  isNil : s.isNil = true → l = []
  es : ∀ {H' : VH} {X : List Nat}, Kp H H' X → (∀ x ∈ X, H.length ≤ x) → slEs H' 5 1 s = some (bs l)
theorem Rd.ofB (H : VH) {s : VS} {l : List UInt8} (h : IsB s l) : Rd H s l :=
  ⟨by rw [h.len, bs_len], fun hn => (by have := (h.isNil hn).2; cases l with | nil => rfl | cons => cases this), fun _ _ => h.es _ _ _⟩
theorem Rd.ofH {H : VH} {s : VS} {l : List UInt8} (h : IsH H s l) : Rd H s l := by
  rcases h with ⟨rfl, rfl⟩ | ⟨i, rfl, hi⟩
  · exact ⟨rfl, fun _ => rfl, fun _ _ => rfl⟩
  · refine ⟨rfl, fun h => (by cases h), fun k hx => ?_⟩
    have := lt_of_ob hi
    exact hp_bcs (k.ob hi (fun h => by have := hx _ h; omega))
theorem IsH.keep {H H' : VH} {X : List Nat} {s : VS} {l : List UInt8} (h : IsH H s l) (k : Kp H H' X) (hx : ∀ i, s = .hp i 0 l.length → i ∉ X) : IsH H' s l := by
  rcases h with ⟨rfl, rfl⟩ | ⟨i, rfl, hi⟩
  · exact .inl ⟨rfl, rfl⟩
  · exact .inr ⟨i, rfl, k.ob hi (hx i rfl)⟩
theorem cells5 : P.cellsOf 5 = 1 := by kernel_rfl
/-- A call whose result stays from now on. -/
theorem callD_frz {call : FuncId → List V → VH → VRes} {f : FuncId} {args : List V} {H H' : VH} {s : VS} {l : List UInt8} (hc : call f args H = some (.sl 5 s, H')) (h : IsH H' s l) :
    ∃ s' H'', callD call P true (.one (.flat (.slice 5))) f args H = some (s', H'') ∧ IsB s' l ∧ (∃ X, Kp H' H'' X ∧ ∀ x ∈ X, s = .hp x 0 l.length) := by
  unfold V.callD
  rw [hc, Option.bind_some]
  rcases h with ⟨rfl, rfl⟩ | ⟨i, rfl, hi⟩
  · refine ⟨.nil, H', ?_, .nil, [], Kp.refl _ _, fun x hx => (by cases hx)⟩
    show ((V.fdec (.slice 5) (.sl 5 .nil)).map fun x => (x, H')) = _
    rw [fd_sl]; rfl
  · refine ⟨.fz (bs l) .no, H'.set i .dead, ?_, .fz _ _, [i], Kp.set _ _ _, fun x hx => by rw [List.mem_singleton] at hx; rw [hx]⟩
    have : V.freeze P true (.sl 5 (.hp i 0 l.length)) H' = some (.sl 5 (.fz (bs l) .no), H'.set i .dead) := by
      show ((hpEs H' 5 (P.cellsOf 5) i 0 l.length).map fun es => (V.sl 5 (.fz es .no), H'.set i .dead)) = _
      rw [cells5, hp_bcs hi]; rfl
    rw [this, Option.bind_some]
    show ((V.fdec (.slice 5) (.sl 5 (.fz (bs l) .no))).map fun x => (x, H'.set i .dead)) = _
    rw [fd_sl]; rfl
theorem rdS {s : VS} {ls : List (List UInt8)} (h : IsE s (ss ls)) {i : Nat} {l : List UInt8} (hb : ls[i]? = some l) (H : VH) {β : Type} (f : ByteArray → Option β) : ((ixV 1 s (i : Int)).bind fun p => (ldV (.flat .str) H p).bind f) = f ⟨l.toArray⟩ := by
  rw [h.ix (y := [.str ⟨l.toArray⟩]) (by simp [ss, hb]) 1, Option.bind_some]
  rfl
theorem closed_sl (e : TypeId) {s : VS} {es : List (List V)} (hs : IsE s es) : closedC (.sl e s) = true := by
  cases hs <;> rfl
theorem stays_nil (H : VH) : V.stays H [] = true := rfl
/-! ### The writer -/
abbrev WT : TypeId := 46 + boxK
/-- A writer in the object k: what has been laid, and the token by which more is. -/
def WS (H : VH) (k : Nat) (T : List Nat) (l : List UInt8) : Prop := ∃ s, H[k]? = some (.row WT [.sl 5 s]) ∧ Ap H 5 s (bs l) ∧ toks s = T
theorem WS.keep {H H' : VH} {X : List Nat} {k : Nat} {T : List Nat} {l : List UInt8} (h : WS H k T l) (kp : Kp H H' X) (hx : k ∉ X) (hT : ∀ t ∈ T, t ∉ X) : WS H' k T l := by
  obtain ⟨s, h1, h2, rfl⟩ := h
  exact ⟨s, kp.ob h1 hx, h2.keep kp hT, rfl⟩
theorem WS.tok {H : VH} {k : Nat} {T : List Nat} {l : List UInt8} (h : WS H k T l) {t : Nat} (ht : t ∈ T) : ∃ g, H[t]? = some (.tok 5 g) := by
  obtain ⟨s, _, h2, rfl⟩ := h; exact h2.tok_at ht
theorem WS.new (H : VH) : WS (H ++ [.row WT [.sl 5 .nil]]) H.length [] [] := ⟨.nil, by simp, .nil, rfl⟩
theorem e27 (n : Nat) {H : VH} {k : Nat} {T : List Nat} {l p : List UInt8} {s1 : VS} (hw : WS H k T l) (hp : IsB s1 p) (hl : l.length + p.length < 10000000) :
    ∃ H' T', vF P tab (n + 1) 27 [.ptr (.ob k 0), .sl 5 s1] H = some (.ptr (.ob k 0), H') ∧ WS H' k T' (l ++ p) ∧ Kp H H' (k :: T) ∧ (∀ t ∈ T', t ∈ T ∨ H.length ≤ t) := by
  obtain ⟨s, h1, h2, rfl⟩ := hw
  have hk := lt_of_ob h1
  rw [vF_body rfl, f27_eq]
  simp only [VP.isNil, Bool.not_false, cond_true, nn, atO, Option.bind_some, Nat.zero_add]
  rw [ld_row h1]
  simp only [List.getElem?_cons_zero, Option.bind_some, fd_sl]
  obtain ⟨s', H1, g1, g2, g3, g4, _⟩ := h2.app (sz := 1) (by_ := 1) hp (by rw [bs_len, bs_len]; simp only [bound]; omega) (by rw [bs_len, bs_len]; simp only [bound]; omega)
  have hkt : k ∉ toks s := fun h => by obtain ⟨g, hg⟩ := h2.tok_at h; rw [h1] at hg; cases hg
  have hk1 := g3.ob h1 hkt
  rw [g1, Option.bind_some, st_row hk1 (by simp) rfl, Option.bind_some]
  have kp : Kp H1 (H1.set k (.row WT (putAllV [.sl 5 s] 0 [.sl 5 s']))) [k] := Kp.set _ _ _
  refine ⟨_, toks s', rfl, ⟨s', by rw [List.getElem?_set_self (lt_of_ob hk1)]; rfl, ?_, rfl⟩, g3.trans kp (fun x hx _ => List.mem_cons_of_mem _ hx) (fun y hy _ => by rw [List.mem_singleton.1 hy]; exact List.mem_cons_self ..), g4⟩
  rw [bs_app]
  refine g2.keep kp (fun t ht hx => ?_)
  rw [List.mem_singleton.1 hx] at ht
  obtain ⟨g, hg⟩ := g2.tok_at ht
  rw [hk1] at hg; cases hg
/-- What a step of a writer does. -/
def Lays (H : VH) (k : Nat) (T : List Nat) (l p : List UInt8) (r : VRes) : Prop :=
  ∃ H' T', r = some (.ptr (.ob k 0), H') ∧ WS H' k T' (l ++ p) ∧ Kp H H' (k :: T) ∧ (∀ t ∈ T', t ∈ T ∨ H.length ≤ t)
theorem kp_next {H H1 H2 : VH} {k : Nat} {T T1 : List Nat} (a : Kp H H1 (k :: T)) (b : Kp H1 H2 (k :: T1)) (h : ∀ t ∈ T1, t ∈ T ∨ H.length ≤ t) : Kp H H2 (k :: T) :=
  a.trans b (fun x hx _ => hx) (fun y hy hl => by
    rcases List.mem_cons.1 hy with rfl | hy
    · exact List.mem_cons_self ..
    · rcases h y hy with h1 | h1
      · exact List.mem_cons_of_mem _ h1
      · omega)
theorem tk_next {H H1 : VH} {T T1 T2 : List Nat} {X : List Nat} (a : Kp H H1 X) (h : ∀ t ∈ T1, t ∈ T ∨ H.length ≤ t) (h2 : ∀ t ∈ T2, t ∈ T1 ∨ H1.length ≤ t) : ∀ t ∈ T2, t ∈ T ∨ H.length ≤ t := by
  intro t ht
  have := a.len
  rcases h2 t ht with h3 | h3
  · exact h t h3
  · exact .inr (by omega)
def numI (x : Int) : List UInt8 := [u8 (x / 256), u8 x]
theorem shr8 (x : Int) : shrI .i64 x 8 = some (x / 256) := by
  unfold shrI
  rw [if_neg (by omega)]
  show some (x.fdiv (2 ^ 8)) = _
  rw [Int.fdiv_eq_ediv_of_nonneg _ (by decide)]
  rfl
theorem e26 (n : Nat) {H : VH} {k : Nat} {T : List Nat} {l : List UInt8} (hw : WS H k T l) (x : Int) (hl : l.length < 1000000) : Lays H k T l (numI x) (vF P tab (n + 2) 26 [.ptr (.ob k 0), .int .i64 x] H) := by
  obtain ⟨H', T', g1, g2, g3, g4⟩ := e27 n (p := numI x) (s1 := .fz [[.int .u8 (IntKind.wrap .u8 (x / 256))], [.int .u8 (IntKind.wrap .u8 x)]] (.ex 2)) hw (by rw [bc_wrap, bc_wrap]; exact .fz _ _) (by simp only [numI, List.length_cons, List.length_nil]; omega)
  rw [vF_body rfl, f26_eq, shr8, Option.bind_some, callD_ptr g1, Option.bind_some]
  exact ⟨H', T', rfl, g2, g3, g4⟩
def wideN (x : Nat) (i : Nat) : List UInt8 := (List.range i).map fun j => UInt8.ofNat (x / 2 ^ (56 - 8 * j) % 256)
def wideI (x : Nat) : List UInt8 := wideN x 8
theorem wideN_succ (x i : Nat) : wideN x (i + 1) = wideN x i ++ [UInt8.ofNat (x / 2 ^ (56 - 8 * i) % 256)] := by simp [wideN, List.range_succ]
theorem wideN_len (x i : Nat) : (wideN x i).length = i := by simp [wideN]
theorem u8_ofNat (n : Nat) : u8 (n : Int) = UInt8.ofNat (n % 256) := by
  unfold u8
  congr 1
def textI (s : List UInt8) : List UInt8 := numI (s.length : Int) ++ s
theorem textI_len (s : List UInt8) : (textI s).length = 2 + s.length := by simp [textI, numI]; omega
theorem e22 (n : Nat) {H : VH} {k : Nat} {T : List Nat} {l : List UInt8} (hw : WS H k T l) (s : List UInt8) (hl : l.length + s.length < 1000000) : Lays H k T l (textI s) (vF P tab (n + 3) 22 [.ptr (.ob k 0), .str ⟨s.toArray⟩] H) := by
  obtain ⟨H1, T1, g1, g2, g3, g4⟩ := e26 n hw (s.length : Int) (by omega)
  rw [vF_body rfl, f22_eq, size_of, callD_ptr g1, Option.bind_some]
  obtain ⟨H2, T2, q1, q2, q3, q4⟩ := e27 (n + 1) (p := s) (s1 := .fz (bytesE ⟨s.toArray⟩) .no) g2 (by rw [bytesE_of]; exact .fz _ _) (by simp only [List.length_append, numI, List.length_cons, List.length_nil]; omega)
  simp only
  rw [callD_ptr q1, Option.bind_some]
  refine ⟨H2, T2, rfl, ?_, kp_next g3 q3 g4, tk_next g3 g4 q4⟩
  rw [textI, ← List.append_assoc]
  exact q2
def textsI (ls : List (List UInt8)) : List UInt8 := u8 (ls.length : Int) :: (ls.map textI).flatten
def szs (ls : List (List UInt8)) : Nat := ((ls.map textI).flatten).length
theorem szs_take (ls : List (List UInt8)) (i : Nat) : (((ls.take i).map textI).flatten).length ≤ szs ls := by
  conv => rhs; rw [szs, ← List.take_append_drop i ls]
  simp only [List.map_append, List.flatten_append, List.length_append]
  omega
/-! ### The document's bytes -/
theorem l21 (n : Nat) {H : VH} {s t : VS} {l r : List UInt8} (hs : IsB s l) (ht : IsB t r) (hl : l.length = r.length) (hb : l.length ≤ maxLen) : ∀ (m i : Nat), i ≤ l.length → l.length < i + m → L21_0 n m s t (i : Int) H = some (.bool (decide (l.drop i = r.drop i)), H) := by
  have hm := maxLen_eq
  intro m
  induction m with
  | zero => intro i h1 h2; omega
  | succ m ih =>
    intro i h1 h2
    rw [L21_0_eq, hs.len, bs_len]
    by_cases hi : i < l.length
    · rw [decide_eq_true (by omega), cond_true]
      obtain ⟨a, ha⟩ := get_of hi
      obtain ⟨b, hb⟩ := get_of (l := r) (i := i) (by omega)
      rw [hs.rd ha, ht.rd hb]
      have e1 : l.drop i = a :: l.drop (i + 1) := by rw [List.drop_eq_getElem_cons hi]; rw [List.getElem?_eq_getElem hi] at ha; injection ha with ha; rw [ha]
      have e2 : r.drop i = b :: r.drop (i + 1) := by
        have hi2 : i < r.length := by omega
        rw [List.drop_eq_getElem_cons hi2]; rw [List.getElem?_eq_getElem hi2] at hb; injection hb with hb; rw [hb]
      by_cases hab : a = b
      · subst hab
        simp only [bne_self_eq_false, cond_false]
        rw [inc_nat (by omega), ih (i + 1) (by omega) (by omega), e1, e2]
        simp
      · have : (((a.toNat : Int)) != (b.toNat : Int)) = true := by
          simp only [bne_iff_ne, ne_eq]
          intro h
          exact hab (UInt8.toNat_inj.1 (by omega))
        rw [this, cond_true, e1, e2, decide_eq_false (by intro h; injection h with h; exact hab h)]
    · rw [decide_eq_false (by omega), cond_false, List.drop_eq_nil_of_le (by omega), List.drop_eq_nil_of_le (by omega)]
      simp
theorem e21 (n : Nat) {H : VH} {s t : VS} {l r : List UInt8} (hs : IsB s l) (ht : IsB t r) (hb : l.length ≤ maxLen) (hn : l.length < n) : vF P tab (n + 1) 21 [.sl 5 s, .sl 5 t] H = some (.bool (decide (l = r)), H) := by
  refine vF_lone (r := .bool (decide (l = r))) (H1 := []) rfl (by simp [closed_sl 5 hs, closed_sl 5 ht]) ?_ rfl
  show bodyV P tab (vF P tab n) n 21 [.sl 5 s.strip, .sl 5 t.strip] [] = _
  rw [f21_eq, hs.strip.len, ht.strip.len, bs_len, bs_len]
  by_cases h : l.length = r.length
  · rw [h]
    simp only [bne_self_eq_false, cond_false]
    have := l21 n (H := []) hs.strip ht.strip h hb n 0 (by omega) (by omega)
    simpa using this
  · have h1 : (((l.length : Nat) : Int) != ((r.length : Nat) : Int)) = true := by simp only [bne_iff_ne, ne_eq]; omega
    rw [h1, cond_true, decide_eq_false (by intro h2; exact h (by rw [h2]))]
end Go.Proofs.Ytaifjlpgggimaaa
