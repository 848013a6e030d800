import Derived.Test.YtcnigofmjffamaaDoorB11l
set_option maxRecDepth 100000
set_option linter.unusedVariables false
set_option linter.unusedSimpArgs false
namespace Go.Proofs.YtcnigofmjffamaaDoor
open Go.Proofs.YtcnigofmjffamaaDoor.Sh Go.Proofs.YtcnigofmjffamaaDoor.Sh.V Go.RowKit
/-! ### Bytes as numbers -/
def numA (x : Nat) (l : List UInt8) : Nat := l.foldl (fun x b => x * 256 % 18446744073709551616 + b.toNat) x
theorem numA_lt {x : Nat} (hx : x < 18446744073709551616) (l : List UInt8) : numA x l < 18446744073709551616 := by
  induction l generalizing x with
  | nil => exact hx
  | cons b l ih =>
    have := b.toNat_lt
    exact ih (x := x * 256 % 18446744073709551616 + b.toNat) (by omega)
theorem numA_snoc (x : Nat) (l : List UInt8) (b : UInt8) : numA x (l ++ [b]) = numA x l * 256 % 18446744073709551616 + b.toNat := by
  simp [numA, List.foldl_append]
theorem numA_take {l : List UInt8} {i : Nat} {b : UInt8} (h : l[i]? = some b) : numA 0 (l.take (i + 1)) = numA 0 (l.take i) * 256 % 18446744073709551616 + b.toNat := by
  obtain ⟨hlt, he⟩ := List.getElem?_eq_some_iff.1 h
  rw [List.take_succ_eq_append_getElem hlt, numA_snoc, he]
/-! ### The reader -/
abbrev RT : TypeId := 122 + boxK
abbrev IT : TypeId := 118 + boxK
/-- A reader in the object k: what isn't read, has it failed? -/
def RS (T : TypeId) (H : VH) (k : Nat) (l : List UInt8) (f : Bool) : Prop := ∃ s, H[k]? = some (.row T [.sl 5 s, .bool f]) ∧ IsB s l
theorem RS.keep {T : TypeId} {H H' : VH} {X : List Nat} {k : Nat} {l : List UInt8} {f : Bool} (h : RS T H k l f) (kp : Kp H H' X) (hx : k ∉ X) : RS T H' k l f := by
  obtain ⟨s, h1, h2⟩ := h; exact ⟨s, kp.ob h1 hx, h2⟩
theorem e77 (n : Nat) {H : VH} {k : Nat} {l : List UInt8} {f : Bool} (h : RS RT H k l f) : ∃ H', vF P tab (n + 1) 77 [.ptr (.ob k 0)] H = some (.tup [], H') ∧ RS RT H' k [] true ∧ Kp H H' [k] ∧ H'.length = H.length := by
  obtain ⟨s, h1, h2⟩ := h
  have hk := lt_of_ob h1
  rw [vF_body rfl, f77_eq]
  simp only [nn, atO, Option.bind_some, Nat.zero_add]
  rw [st_row h1 (by simp) rfl, Option.bind_some]
  rw [st_row (by rw [List.getElem?_set_self hk]) (by simp [putAllV]) rfl, Option.bind_some]
  refine ⟨_, rfl, ⟨.nil, ?_, .nil⟩, ?_, by simp⟩
  · rw [List.getElem?_set_self (by simpa using hk)]; rfl
  · exact (Kp.set H k _).trans (Kp.set _ k _) (fun x hx _ => hx) (fun y hy _ => hy)
theorem e76 (n : Nat) {H : VH} {k : Nat} {l : List UInt8} {f : Bool} (h : RS RT H k l f) : vF P tab (n + 1) 76 [.ptr (.ob k 0)] H = some (.bool (!f), H) := by
  obtain ⟨s, h1, h2⟩ := h
  rw [vF_body rfl, f76_eq]
  simp only [VP.isNil, Bool.not_false, cond_true, nn, atO, Option.bind_some]
  rw [ld_row h1]
  rfl
theorem c76 (n : Nat) {H : VH} {k : Nat} {l : List UInt8} {f : Bool} (h : RS RT H k l f) : callD (vF P tab (n + 1)) P false (.one (.flat .bool)) 76 [.ptr (.ob k 0)] H = some (!f, H) := callD_some _ (e76 n h) rfl
/-- What is left when so many bytes are taken; the bytes. -/
def takeS (n : Nat) (l : List UInt8) (f : Bool) : List UInt8 × List UInt8 × Bool :=
  if f = true then ([], l, true) else if l.length < n then ([], [], true) else (l.take n, l.drop n, false)
theorem e75 (n : Nat) {H : VH} {k : Nat} {l : List UInt8} {f : Bool} (h : RS RT H k l f) {c : Nat} (hc : c < 1000000) :
    ∃ s' H', vF P tab (n + 2) 75 [.ptr (.ob k 0), .int .i64 (c : Int)] H = some (.sl 5 s', H') ∧ IsB s' (takeS c l f).1 ∧ RS RT H' k (takeS c l f).2.1 (takeS c l f).2.2 ∧ Kp H H' [k] ∧ H'.length = H.length := by
  rw [vF_body rfl, f75_eq, c76 n h, Option.bind_some]
  unfold takeS
  cases f with
  | true =>
    simp only [Bool.not_true, Bool.not_false, cond_true, if_true]
    exact ⟨.nil, H, rfl, .nil, h, Kp.refl _ _, rfl⟩
  | false =>
    obtain ⟨s, h1, h2⟩ := h
    have hk := lt_of_ob h1
    simp only [Bool.not_true, Bool.not_false, cond_false, nn, atO, Option.bind_some, Nat.zero_add, Bool.false_eq_true, if_false]
    rw [ld_row h1]
    simp only [List.getElem?_cons_zero, Option.bind_some, fd_sl]
    rw [h2.len, bs_len]
    by_cases hl : l.length < c
    · rw [decide_eq_true (by omega), cond_true, if_pos hl]
      obtain ⟨H', g1, g2, g3, g4⟩ := e77 n ⟨s, h1, h2⟩
      rw [callD_some (τ := .tup []) (x := ()) _ g1 rfl, Option.bind_some]
      exact ⟨.nil, H', rfl, .nil, g2, g3, g4⟩
    · rw [decide_eq_false (by omega), cond_false, if_neg hl]
      obtain ⟨s1, g1, g2, _⟩ := h2.cut (lo := 0) (hi := c) (Nat.zero_le _) (by rw [bs_len]; omega) (lo' := none) (hi' := some (c : Int)) (mx' := some (c : Int)) (.inr ⟨rfl, rfl⟩) (.inl rfl) (.inr ⟨rfl, rfl⟩) H 5 1
      obtain ⟨s2, g3, g4, _⟩ := h2.cut (lo := c) (hi := l.length) (by omega) (by rw [bs_len]; omega) (lo' := some (c : Int)) (hi' := none) (mx' := none) (.inl rfl) (.inr ⟨rfl, by rw [bs_len]⟩) (.inl rfl) H 5 1
      rw [g1, Option.bind_some, g3, Option.bind_some, st_row h1 (by simp) rfl, Option.bind_some]
      rw [List.drop_zero, bs_take] at g2
      rw [List.take_of_length_le (by rw [bs_len]; exact Nat.le_refl _), bs_drop] at g4
      exact ⟨s1, _, rfl, g2, ⟨s2, by rw [List.getElem?_set_self hk]; rfl, g4⟩, Kp.set _ _ _, by simp⟩
theorem l74 (n : Nat) {H : VH} {s : VS} {l : List UInt8} (hs : IsB s l) (hl : l.length < 1000000) : ∀ (m i : Nat), i ≤ l.length → l.length < i + m → L74_0 n m (numA 0 (l.take i) : Int) s (l.length : Int) (i : Int) H = some (.int .u64 (numA 0 l : Int), H) := by
  intro m
  induction m with
  | zero => intro i h1 h2; omega
  | succ m ih =>
    intro i h1 h2
    rw [L74_0_eq]
    by_cases hi : i < l.length
    · rw [decide_eq_true (by omega), cond_true]
      obtain ⟨b, hb⟩ : ∃ b, l[i]? = some b := ⟨_, List.getElem?_eq_getElem hi⟩
      rw [hs.rd hb]
      have hx := numA_lt (x := 0) (by decide) (l.take i)
      have hb2 := b.toNat_lt
      have h3 := shlI_u64 (x := numA 0 (l.take i)) (k := 8) (by omega)
      rw [show ((8 : Nat) : Int) = 8 from rfl] at h3
      rw [h3, Option.bind_some, wrap_u64_nat (by omega), bitI_or (by omega) (by omega)]
      have e : numA 0 (l.take i) * 2 ^ 8 % 18446744073709551616 = (numA 0 (l.take i) % 72057594037927936) * 2 ^ 8 := by omega
      rw [e, or_add (by simpa using hb2)]
      have e2 : (numA 0 (l.take i) % 72057594037927936) * 2 ^ 8 + b.toNat = numA 0 (l.take (i + 1)) := by rw [numA_take hb]; omega
      have e3 : IntKind.wrap .i64 ((i : Int) + 1) = ((i + 1 : Nat) : Int) := by rw [i64_in (by omega)]; rfl
      rw [e2, e3]
      exact ih (i + 1) (by omega) (by omega)
    · rw [decide_eq_false (by omega), cond_false]
      have : i = l.length := by omega
      subst this
      rw [List.take_length]
theorem e74 (n : Nat) {H : VH} {k : Nat} {l : List UInt8} {f : Bool} (h : RS RT H k l f) {c : Nat} (hc : c < 1000000) (hn : c ≤ n) :
    ∃ H', vF P tab (n + 3) 74 [.ptr (.ob k 0), .int .i64 (c : Int)] H = some (.int .u64 (numA 0 (takeS c l f).1 : Int), H') ∧ RS RT H' k (takeS c l f).2.1 (takeS c l f).2.2 ∧ Kp H H' [k] ∧ H'.length = H.length := by
  obtain ⟨s', H', g1, g2, g3⟩ := e75 n h hc
  have hlen : (takeS c l f).1.length ≤ c := by
    unfold takeS
    split
    · simp
    · split
      · simp
      · simp only [List.length_take]; omega
  rw [vF_body rfl, f74_eq, callD_some (τ := .one (.flat (.slice 5))) (x := s') _ g1 rfl, Option.bind_some]
  simp only
  rw [g2.len, bs_len]
  exact ⟨H', l74 (n + 2) g2 (by omega) (n + 2) 0 (by omega) (by omega), g3⟩
theorem takeS_len (c : Nat) (l : List UInt8) (f : Bool) : (takeS c l f).1.length ≤ c := by
  unfold takeS
  split
  · simp
  · split
    · simp
    · simp only [List.length_take]; omega
theorem numA1 {l : List UInt8} (h : l.length ≤ 1) : numA 0 l < 256 := by
  match l, h with
  | [], _ => decide
  | [b], _ => have := b.toNat_lt; simpa [numA] using this
theorem numA2 {l : List UInt8} (h : l.length ≤ 2) : numA 0 l < 65536 := by
  match l, h with
  | [], _ => decide
  | [b], _ => have := b.toNat_lt; simp [numA]; omega
  | [a, b], _ => have := b.toNat_lt; have := a.toNat_lt; simp [numA]; omega
theorem e34 (n : Nat) {H : VH} {k : Nat} {l : List UInt8} {f : Bool} (h : RS RT H k l f) (hn : 300 ≤ n) :
    ∃ H', vF P tab (n + 4) 34 [.ptr (.ob k 0)] H = some (.int .u8 (numA 0 (takeS 1 l f).1 : Int), H') ∧ RS RT H' k (takeS 1 l f).2.1 (takeS 1 l f).2.2 ∧ Kp H H' [k] ∧ H'.length = H.length := by
  obtain ⟨H', g1, g2⟩ := e74 n h (c := 1) (by omega) (by omega)
  rw [show ((1 : Nat) : Int) = 1 from rfl] at g1
  rw [vF_body rfl, f34_eq, callD_int g1, Option.bind_some]
  simp only
  rw [wrap_u8_nat (numA1 (takeS_len 1 l f))]
  exact ⟨H', rfl, g2⟩
theorem e60 (n : Nat) {H : VH} {k : Nat} {l : List UInt8} {f : Bool} (h : RS RT H k l f) (hn : 300 ≤ n) :
    ∃ H', vF P tab (n + 4) 60 [.ptr (.ob k 0)] H = some (.int .i64 (numA 0 (takeS 2 l f).1 : Int), H') ∧ RS RT H' k (takeS 2 l f).2.1 (takeS 2 l f).2.2 ∧ Kp H H' [k] ∧ H'.length = H.length := by
  obtain ⟨H', g1, g2⟩ := e74 n h (c := 2) (by omega) (by omega)
  rw [show ((2 : Nat) : Int) = 2 from rfl] at g1
  have := numA2 (takeS_len 2 l f)
  rw [vF_body rfl, f60_eq, callD_int g1, Option.bind_some]
  simp only
  rw [i64_nat (by omega)]
  exact ⟨H', rfl, g2⟩
theorem e62 (n : Nat) {H : VH} {k : Nat} {l : List UInt8} {f : Bool} (h : RS RT H k l f) (hn : 300 ≤ n) :
    ∃ H', vF P tab (n + 4) 62 [.ptr (.ob k 0)] H = some (.int .u64 (numA 0 (takeS 8 l f).1 : Int), H') ∧ RS RT H' k (takeS 8 l f).2.1 (takeS 8 l f).2.2 ∧ Kp H H' [k] ∧ H'.length = H.length := by
  obtain ⟨H', g1, g2⟩ := e74 n h (c := 8) (by omega) (by omega)
  rw [show ((8 : Nat) : Int) = 8 from rfl] at g1
  rw [vF_body rfl, f62_eq, callD_int g1, Option.bind_some]
  exact ⟨H', rfl, g2⟩
/-- A text. -/
def textS (l : List UInt8) (f : Bool) : List UInt8 × List UInt8 × Bool :=
  takeS (numA 0 (takeS 2 l f).1) (takeS 2 l f).2.1 (takeS 2 l f).2.2
theorem e35 (n : Nat) {H : VH} {k : Nat} {l : List UInt8} {f : Bool} (h : RS RT H k l f) (hn : 300 ≤ n) :
    ∃ H', vF P tab (n + 5) 35 [.ptr (.ob k 0)] H = some (.str ⟨(textS l f).1.toArray⟩, H') ∧ RS RT H' k (textS l f).2.1 (textS l f).2.2 ∧ Kp H H' [k] ∧ H'.length = H.length := by
  obtain ⟨H1, g1, g2, g3, g4⟩ := e60 n h hn
  have := numA2 (takeS_len 2 l f)
  obtain ⟨s', H2, g5, g6, g7, g8, g9⟩ := e75 (n + 2) g2 (c := numA 0 (takeS 2 l f).1) (by omega)
  rw [vF_body rfl, f35_eq, callD_int g1, Option.bind_some]
  simp only
  rw [callD_sl g5, Option.bind_some]
  simp only
  rw [g6.str, Option.bind_some]
  exact ⟨H2, rfl, g7, g3.trans g8 (fun x hx _ => hx) (fun y hy _ => hy), by omega⟩
/-- Texts as elements. -/
def ss (ls : List (List UInt8)) : List (List V) := ls.map fun l => [.str ⟨l.toArray⟩]
theorem ss_len (ls : List (List UInt8)) : (ss ls).length = ls.length := by simp [ss]
/-- So many texts; none, if there aren't so many. -/
def textsL : Nat → List UInt8 → Bool → List (List UInt8) → List (List UInt8) × List UInt8 × Bool
  | 0, l, f, acc => (if f = true then [] else acc, l, f)
  | n + 1, l, f, acc => if f = true then ([], l, true) else if (textS l f).2.2 = true then ([], (textS l f).2.1, true) else textsL n (textS l f).2.1 false (acc ++ [(textS l f).1])
theorem textS_fail (l : List UInt8) : textS l true = ([], l, true) := by simp [textS, takeS]
theorem l37 (n : Nat) (hn : 300 ≤ n) (c : Nat) (hc : c < 256) {k : Nat} : ∀ (m i : Nat) {H0 H : VH} {l : List UInt8} {f : Bool} {s : VS} {acc : List (List UInt8)}, RS RT H k l f → k < H0.length → Kp H0 H [k] → Ap H 9 s (ss acc) → (∀ t ∈ toks s, H0.length ≤ t) → acc.length = i → (f = true → acc = [] ) → i ≤ c → c < i + m →
    ∃ s' H', L37_0 (n + 5) m (.ob k 0) s (c : Int) (i : Int) H = some (.sl 9 s', H') ∧ IsE s' (ss (textsL (c - i) l f acc).1) ∧ RS RT H' k (textsL (c - i) l f acc).2.1 (textsL (c - i) l f acc).2.2 ∧ Kp H0 H' [k] := by
  intro m
  induction m with
  | zero => intros; omega
  | succ m ih =>
    intro i H0 H l f s acc h hk0 hkp ha ht hlen hf h1 h2
    rw [L37_0_eq]
    by_cases hi : i < c
    · rw [decide_eq_true (by omega), cond_true]
      obtain ⟨H1, g1, g2, g3, g4⟩ := e35 n h hn
      rw [callD_str g1, Option.bind_some]
      simp only
      rw [c76 (n + 4) g2, Option.bind_some]
      have hkp1 : Kp H0 H1 [k] := hkp.trans g3 (fun x hx _ => hx) (fun y hy _ => hy)
      obtain ⟨d, hd⟩ : ∃ d, c - i = d + 1 := ⟨c - i - 1, by omega⟩
      rw [hd]
      cases f with
      | true =>
        rw [textS_fail] at g2 ⊢
        simp only [Bool.not_true, Bool.not_false, cond_true]
        exact ⟨.nil, H1, rfl, by simpa [textsL, ss] using IsE.nil, by simpa [textsL] using g2, hkp1⟩
      | false =>
        cases hfl : (textS l false).2.2 with
        | true =>
          simp only [Bool.not_true, Bool.not_false, cond_true]
          refine ⟨.nil, H1, rfl, ?_, ?_, hkp1⟩
          · simpa [textsL, hfl, ss] using IsE.nil
          · rw [hfl] at g2; simpa [textsL, hfl] using g2
        | false =>
          simp only [Bool.not_false, Bool.not_true, cond_false]
          have ha1 : Ap H1 9 s (ss acc) := ha.keep g3 (fun t hts hx => by
            have h3 := ht t hts
            rw [List.mem_singleton] at hx
            omega)
          obtain ⟨s2, H2, q1, q2, q3, q4, _⟩ := ha1.app (sz := 1) (by_ := 16) (x := .fz [[.str ⟨(textS l false).1.toArray⟩]] (.ex 1)) (.fz _ _) (by simp only [ss_len, bound, List.length_cons, List.length_nil]; omega) (by simp only [ss_len, bound, List.length_cons, List.length_nil]; omega)
          rw [q1, Option.bind_some]
          simp only
          have e3 : IntKind.wrap .i64 ((i : Int) + 1) = ((i + 1 : Nat) : Int) := by rw [i64_in (by omega)]; rfl
          rw [e3]
          have hsa : ss acc ++ [[.str ⟨(textS l false).1.toArray⟩]] = ss (acc ++ [(textS l false).1]) := by simp [ss]
          rw [hsa] at q2
          have hkt : k ∉ toks s := fun hx => by have := ht k hx; omega
          have hlk := hkp1.len
          rw [hfl] at g2
          obtain ⟨s3, H3, r1, r2, r3, r4⟩ := ih (i + 1) (g2.keep q3 hkt) hk0 (hkp1.trans q3 (fun x hx _ => hx) (fun y hy hy2 => by have := ht y hy; omega)) q2 (fun t hts => by
            rcases q4 t hts with h3 | h3
            · exact ht t h3
            · omega) (by simp [hlen]) (fun h => by cases h) (by omega) (by omega)
          refine ⟨s3, H3, r1, ?_, ?_, r4⟩
          · rw [show c - (i + 1) = d by omega] at r2; simpa [textsL, hfl] using r2
          · rw [show c - (i + 1) = d by omega] at r3; simpa [textsL, hfl] using r3
    · rw [decide_eq_false (by omega), cond_false]
      rw [show c - i = 0 by omega]
      refine ⟨s, H, rfl, ?_, ?_, hkp⟩
      · cases f with
        | true => rw [hf rfl] at ha; simpa [textsL] using ha.isE
        | false => simpa [textsL] using ha.isE
      · simpa [textsL] using h
/-- As many texts as it says, but not more than so many. -/
def textsS (most : Nat) (l : List UInt8) (f : Bool) : List (List UInt8) × List UInt8 × Bool :=
  if most < numA 0 (takeS 1 l f).1 ∧ (takeS 1 l f).2.2 = false then textsL (numA 0 (takeS 1 l f).1) [] true []
  else textsL (numA 0 (takeS 1 l f).1) (takeS 1 l f).2.1 (takeS 1 l f).2.2 []
theorem e37 (n : Nat) {H : VH} {k : Nat} {l : List UInt8} {f : Bool} (h : RS RT H k l f) (hn : 300 ≤ n) (most : Nat) :
    ∃ s' H', vF P tab (n + 6) 37 [.ptr (.ob k 0), .int .i64 (most : Int)] H = some (.sl 9 s', H') ∧ IsE s' (ss (textsS most l f).1) ∧ RS RT H' k (textsS most l f).2.1 (textsS most l f).2.2 ∧ Kp H H' [k] := by
  obtain ⟨H1, g1, g2, g3, g4⟩ := e34 (n + 1) h (by omega)
  have hc := numA1 (takeS_len 1 l f)
  have hk : k < H.length := by obtain ⟨s, h1, _⟩ := h; exact lt_of_ob h1
  rw [vF_body rfl, f37_eq, callD_int g1, Option.bind_some]
  simp only
  rw [c76 (n + 4) g2, Option.bind_some]
  simp only
  have e1 : IntKind.wrap .i64 (numA 0 (takeS 1 l f).1 : Int) = (numA 0 (takeS 1 l f).1 : Int) := i64_nat (by omega)
  rw [e1]
  have fin : ∀ {H2 : VH} {l2 : List UInt8} {f2 : Bool}, RS RT H2 k l2 f2 → Kp H H2 [k] → ∃ s' H', L37_0 (n + 5) (n + 5) (.ob k 0) .nil (numA 0 (takeS 1 l f).1 : Int) 0 H2 = some (.sl 9 s', H') ∧ IsE s' (ss (textsL (numA 0 (takeS 1 l f).1) l2 f2 []).1) ∧ RS RT H' k (textsL (numA 0 (takeS 1 l f).1) l2 f2 []).2.1 (textsL (numA 0 (takeS 1 l f).1) l2 f2 []).2.2 ∧ Kp H H' [k] := by
    intro H2 l2 f2 h2 hkp
    have := l37 n hn (numA 0 (takeS 1 l f).1) hc (n + 5) 0 (H0 := H) h2 hk hkp (s := .nil) (acc := []) .nil (fun t ht => by cases ht) rfl (fun _ => rfl) (by omega) (by omega)
    simpa using this
  unfold textsS
  cases hf : (takeS 1 l f).2.2 with
  | true =>
    rw [hf] at g2
    simp only [Bool.not_true, cond_false, and_false, reduceCtorEq, if_false]
    exact fin g2 g3
  | false =>
    rw [hf] at g2
    simp only [Bool.not_false, cond_true, and_true]
    by_cases hm : most < numA 0 (takeS 1 l f).1
    · rw [decide_eq_true (by omega), cond_true, if_pos hm]
      obtain ⟨H2, q1, q2, q3, q4⟩ := e77 (n + 4) g2
      rw [callD_unit q1, Option.bind_some]
      exact fin q2 (g3.trans q3 (fun x hx _ => hx) (fun y hy _ => hy))
    · rw [decide_eq_false (by omega), cond_false, if_neg hm]
      exact fin g2 g3
theorem takeS_inv (c : Nat) {l : List UInt8} {f : Bool} (h : f = true → l = []) : (takeS c l f).2.2 = true → (takeS c l f).2.1 = [] := by
  unfold takeS
  split
  · intro _; exact h (by assumption)
  · split
    · intro _; rfl
    · intro h; cases h
theorem e79 (n : Nat) {H : VH} {k : Nat} {l : List UInt8} {f : Bool} (h : RS RT H k l f) : vF P tab (n + 1) 79 [.ptr (.ob k 0)] H = some (.int .i64 (l.length : Int), H) := by
  obtain ⟨s, h1, h2⟩ := h
  rw [vF_body rfl, f79_eq]
  simp only [VP.isNil, cond_false, nn, atO, Option.bind_some]
  rw [ld_row h1]
  simp only [Nat.zero_add, List.getElem?_cons_zero, Option.bind_some, fd_sl]
  rw [h2.len, bs_len]
/-- What End says. -/
def endS (l : List UInt8) (f : Bool) : Nat := if f = true ∨ l ≠ [] then 2 else 0
theorem e40 (n : Nat) {H : VH} {k : Nat} {l : List UInt8} {f : Bool} (h : RS RT H k l f) : vF P tab (n + 2) 40 [.ptr (.ob k 0)] H = some (.int .i64 (endS l f : Int), H) := by
  rw [vF_body rfl, f40_eq, c76 n h, Option.bind_some]
  unfold endS
  cases f with
  | true => simp
  | false =>
    simp only [Bool.not_false, Bool.not_true, cond_false]
    rw [callD_int (e79 n h), Option.bind_some]
    simp only
    cases l with
    | nil => rfl
    | cons b l =>
      have : (((b :: l).length : Nat) : Int) > 0 := by simp only [List.length_cons]; omega
      rw [decide_eq_true this]
      simp
theorem e92 (n : Nat) {H : VH} {k : Nat} {l : List UInt8} {f : Bool} (h : RS IT H k l f) (hf : f = true → l = []) {c : Nat} (hc : c < 1000000) :
    ∃ s' H', vF P tab (n + 1) 92 [.ptr (.ob k 0), .int .i64 (c : Int)] H = some (.sl 5 s', H') ∧ IsB s' (takeS c l f).1 ∧ RS IT H' k (takeS c l f).2.1 (takeS c l f).2.2 ∧ Kp H H' [k] ∧ H'.length = H.length := by
  obtain ⟨s, h1, h2⟩ := h
  have hk := lt_of_ob h1
  rw [vF_body rfl, f92_eq]
  simp only [nn, atO, Option.bind_some, Nat.zero_add]
  rw [ld_row h1]
  simp only [List.getElem?_cons_succ, List.getElem?_cons_zero, Option.bind_some, fd_bool]
  unfold takeS
  cases f with
  | true =>
    have := hf rfl; subst this
    simp only [cond_true, if_true]
    rw [st_row h1 (by simp) rfl, Option.bind_some]
    rw [st_row (by rw [List.getElem?_set_self hk]) (by simp [putAllV]) rfl, Option.bind_some]
    refine ⟨.nil, _, rfl, .nil, ⟨.nil, ?_, .nil⟩, ?_, by simp⟩
    · rw [List.getElem?_set_self (by simpa using hk)]; rfl
    · exact (Kp.set H k _).trans (Kp.set _ k _) (fun x hx _ => hx) (fun y hy _ => hy)
  | false =>
    simp only [cond_false, Bool.false_eq_true, if_false]
    rw [ld_row h1]
    simp only [List.getElem?_cons_zero, Option.bind_some, fd_sl]
    rw [h2.len, bs_len]
    by_cases hl : l.length < c
    · rw [decide_eq_true (by omega), cond_true, if_pos hl]
      rw [st_row h1 (by simp) rfl, Option.bind_some]
      rw [st_row (by rw [List.getElem?_set_self hk]) (by simp [putAllV]) rfl, Option.bind_some]
      refine ⟨.nil, _, rfl, .nil, ⟨.nil, ?_, .nil⟩, ?_, by simp⟩
      · rw [List.getElem?_set_self (by simpa using hk)]; rfl
      · exact (Kp.set H k _).trans (Kp.set _ k _) (fun x hx _ => hx) (fun y hy _ => hy)
    · rw [decide_eq_false (by omega), cond_false, if_neg hl]
      obtain ⟨s1, g1, g2, _⟩ := h2.cut (lo := 0) (hi := c) (Nat.zero_le _) (by rw [bs_len]; omega) (lo' := none) (hi' := some (c : Int)) (mx' := none) (.inr ⟨rfl, rfl⟩) (.inl rfl) (.inl rfl) H 5 1
      obtain ⟨s2, g3, g4, _⟩ := h2.cut (lo := c) (hi := l.length) (by omega) (by rw [bs_len]; omega) (lo' := some (c : Int)) (hi' := none) (mx' := none) (.inl rfl) (.inr ⟨rfl, by rw [bs_len]⟩) (.inl rfl) H 5 1
      rw [g1, Option.bind_some, g3, Option.bind_some, st_row h1 (by simp) rfl, Option.bind_some]
      rw [List.drop_zero, bs_take] at g2
      rw [List.take_of_length_le (by rw [bs_len]; exact Nat.le_refl _), bs_drop] at g4
      exact ⟨s1, _, rfl, g2, ⟨s2, by rw [List.getElem?_set_self hk]; rfl, g4⟩, Kp.set _ _ _, by simp⟩
theorem l68 (n : Nat) {H : VH} {s : VS} {l : List UInt8} (hs : IsB s l) (hl : l.length < 1000000) : ∀ (m i : Nat), i ≤ l.length → l.length < i + m → L68_0 n m s (numA 0 (l.take i) : Int) (i : Int) H = some (.int .u64 (numA 0 l : Int), H) := by
  intro m
  induction m with
  | zero => intro i h1 h2; omega
  | succ m ih =>
    intro i h1 h2
    rw [L68_0_eq, hs.len, bs_len]
    by_cases hi : i < l.length
    · rw [decide_eq_true (by omega), cond_true]
      obtain ⟨b, hb⟩ : ∃ b, l[i]? = some b := ⟨_, List.getElem?_eq_getElem hi⟩
      rw [hs.rd hb]
      have hx := numA_lt (x := 0) (by decide) (l.take i)
      have hb2 := b.toNat_lt
      have e : IntKind.wrap .u64 (IntKind.wrap .u64 ((numA 0 (l.take i) : Int) * 256) + IntKind.wrap .u64 (b.toNat : Int)) = (numA 0 (l.take (i + 1)) : Int) := by
        rw [numA_take hb]
        simp only [IntKind.wrap_u64]
        omega
      have e3 : IntKind.wrap .i64 ((i : Int) + 1) = ((i + 1 : Nat) : Int) := by rw [i64_in (by omega)]; rfl
      rw [e, e3]
      exact ih (i + 1) (by omega) (by omega)
    · rw [decide_eq_false (by omega), cond_false]
      have : i = l.length := by omega
      subst this
      rw [List.take_length]
theorem e68 (n : Nat) {H : VH} {k : Nat} {l : List UInt8} {f : Bool} (h : RS IT H k l f) (hf : f = true → l = []) {c : Nat} (hc : c < 1000000) (hn : c ≤ n) :
    ∃ H', vF P tab (n + 2) 68 [.ptr (.ob k 0), .int .i64 (c : Int)] H = some (.int .u64 (numA 0 (takeS c l f).1 : Int), H') ∧ RS IT H' k (takeS c l f).2.1 (takeS c l f).2.2 ∧ Kp H H' [k] ∧ H'.length = H.length := by
  obtain ⟨s', H', g1, g2, g3⟩ := e92 n h hf hc
  have hlen := takeS_len c l f
  rw [vF_body rfl, f68_eq, callD_sl g1, Option.bind_some]
  exact ⟨H', l68 (n + 1) g2 (by omega) (n + 1) 0 (by omega) (by omega), g3⟩
theorem textS_inv {l : List UInt8} {f : Bool} (h : f = true → l = []) : (textS l f).2.2 = true → (textS l f).2.1 = [] := takeS_inv _ (takeS_inv _ h)
theorem RS.flag {T : TypeId} {H : VH} {k : Nat} {l : List UInt8} {f : Bool} (h : RS T H k l f) : ldV (.flat .bool) H (.ob k 1) = some f := by
  obtain ⟨s, h1, h2⟩ := h
  rw [ld_row h1]; rfl
theorem RS.left {T : TypeId} {H : VH} {k : Nat} {l : List UInt8} {f : Bool} (h : RS T H k l f) : ∃ s, ldV (.flat (.slice 5)) H (.ob k 0) = some s ∧ IsB s l := by
  obtain ⟨s, h1, h2⟩ := h
  rw [ld_row h1]
  simp only [List.getElem?_cons_zero, Option.bind_some, fd_sl]
  exact ⟨s, rfl, h2⟩
theorem e70 (n : Nat) {H : VH} {k : Nat} {l : List UInt8} {f : Bool} (h : RS IT H k l f) (hf : f = true → l = []) (hn : 300 ≤ n) :
    ∃ H', vF P tab (n + 3) 70 [.ptr (.ob k 0)] H = some (.str ⟨(textS l f).1.toArray⟩, H') ∧ RS IT H' k (textS l f).2.1 (textS l f).2.2 ∧ Kp H H' [k] ∧ H'.length = H.length := by
  obtain ⟨H1, g1, g2, g3, g4⟩ := e68 n h hf (c := 2) (by omega) (by omega)
  rw [show ((2 : Nat) : Int) = 2 from rfl] at g1
  have hl := numA2 (takeS_len 2 l f)
  rw [vF_body rfl, f70_eq, callD_int g1, Option.bind_some]
  simp only [nn, atO, Option.bind_some, Nat.zero_add]
  rw [g2.flag, Option.bind_some]
  have hf2 := takeS_inv 2 hf
  unfold textS
  cases hq : (takeS 2 l f).2.2 with
  | true =>
    rw [hq] at g2
    rw [cond_true]
    refine ⟨H1, ?_, ?_, g3, g4⟩
    · simp [takeS]
    · simpa [takeS] using g2
  | false =>
    rw [hq] at g2
    obtain ⟨s', H2, g5, g6, g7, g8, g9⟩ := e92 (n + 1) g2 (fun h => by cases h) (c := numA 0 (takeS 2 l f).1) (by omega)
    rw [cond_false, i64_nat (by omega), callD_sl g5, Option.bind_some]
    simp only
    rw [g6.str, Option.bind_some]
    exact ⟨H2, rfl, g7, g3.trans g8 (fun x hx _ => hx) (fun y hy _ => hy), by omega⟩
theorem e72 (n : Nat) {H : VH} {k : Nat} {l : List UInt8} {f : Bool} (h : RS IT H k l f) (hf : f = true → l = []) : vF P tab (n + 1) 72 [.ptr (.ob k 0)] H = some (.bool (endS l f == 0), H) := by
  rw [vF_body rfl, f72_eq]
  simp only [nn, atO, Option.bind_some, Nat.zero_add]
  rw [h.flag, Option.bind_some]
  unfold endS
  cases f with
  | true => rfl
  | false =>
    obtain ⟨s, h1, h2⟩ := h.left
    simp only [Bool.not_false, cond_true]
    rw [h1, Option.bind_some, h2.len, bs_len]
    cases l with
    | nil => rfl
    | cons b l =>
      have : ((((b :: l).length : Nat) : Int) == 0) = false := by simp only [List.length_cons, beq_eq_false_iff_ne, ne_eq]; omega
      rw [this]
      simp
theorem textsL_fail (n : Nat) (l : List UInt8) (acc : List (List UInt8)) : textsL n l true acc = ([], l, true) := by
  cases n <;> simp [textsL]
theorem l71 (n : Nat) (hn : 300 ≤ n) (c : Nat) (hc : c < 256) {k : Nat} : ∀ (m i : Nat) {H0 H : VH} {l : List UInt8} {f : Bool} {s : VS} {acc : List (List UInt8)}, RS IT H k l f → (f = true → l = []) → k < H0.length → Kp H0 H [k] → Ap H 9 s (ss acc) → (∀ t ∈ toks s, H0.length ≤ t) → acc.length = i → i ≤ c → c < i + m →
    ∃ s' H', L71_0 (n + 3) m (.ob k 0) (c : Int) s (i : Int) H = some (.sl 9 s', H') ∧ IsE s' (ss (textsL (c - i) l f acc).1) ∧ RS IT H' k (textsL (c - i) l f acc).2.1 (textsL (c - i) l f acc).2.2 ∧ ((textsL (c - i) l f acc).2.2 = true → (textsL (c - i) l f acc).2.1 = []) ∧ Kp H0 H' [k] := by
  intro m
  induction m with
  | zero => intros; omega
  | succ m ih =>
    intro i H0 H l f s acc h hfl hk0 hkp ha ht hlen h1 h2
    rw [L71_0_eq]
    simp only [nn, atO, Option.bind_some, Nat.zero_add]
    rw [h.flag, Option.bind_some]
    by_cases hi : i < c
    · rw [decide_eq_true (by omega), cond_true]
      cases f with
      | true =>
        rw [textsL_fail]
        simp only [Bool.not_true, cond_false, cond_true]
        exact ⟨.nil, H, rfl, by simpa [ss] using IsE.nil, h, fun _ => hfl rfl, hkp⟩
      | false =>
        simp only [Bool.not_false, cond_true]
        obtain ⟨H1, g1, g2, g3, g4⟩ := e70 n h hfl hn
        have hfl2 := textS_inv hfl
        rw [callD_str g1, Option.bind_some]
        simp only
        have hkp1 : Kp H0 H1 [k] := hkp.trans g3 (fun x hx _ => hx) (fun y hy _ => hy)
        obtain ⟨d, hd⟩ : ∃ d, c - i = d + 1 := ⟨c - i - 1, by omega⟩
        rw [hd]
        have ha1 : Ap H1 9 s (ss acc) := ha.keep g3 (fun t hts hx => by
          have h3 := ht t hts
          rw [List.mem_singleton] at hx
          omega)
        obtain ⟨s2, H2, q1, q2, q3, q4, _⟩ := ha1.app (sz := 1) (by_ := 16) (x := .fz [[.str ⟨(textS l false).1.toArray⟩]] (.ex 1)) (.fz _ _) (by simp only [ss_len, bound, List.length_cons, List.length_nil]; omega) (by simp only [ss_len, bound, List.length_cons, List.length_nil]; omega)
        rw [q1, Option.bind_some]
        simp only
        have e3 : IntKind.wrap .i64 ((i : Int) + 1) = ((i + 1 : Nat) : Int) := by rw [i64_in (by omega)]; rfl
        rw [e3]
        have hsa : ss acc ++ [[.str ⟨(textS l false).1.toArray⟩]] = ss (acc ++ [(textS l false).1]) := by simp [ss]
        rw [hsa] at q2
        have hkt : k ∉ toks s := fun hx => by have := ht k hx; omega
        have hlk := hkp1.len
        obtain ⟨s3, H3, r1, r2, r3, r4, r5⟩ := ih (i + 1) (g2.keep q3 hkt) hfl2 hk0 (hkp1.trans q3 (fun x hx _ => hx) (fun y hy hy2 => by have := ht y hy; omega)) q2 (fun t hts => by
          rcases q4 t hts with h3 | h3
          · exact ht t h3
          · omega) (by simp [hlen]) (by omega) (by omega)
        have et : textsL (d + 1) l false acc = textsL d (textS l false).2.1 (textS l false).2.2 (acc ++ [(textS l false).1]) := by
          cases hq : (textS l false).2.2 with
          | true => rw [textsL_fail]; simp [textsL, hq]
          | false => simp [textsL, hq]
        rw [et, ← show c - (i + 1) = d by omega]
        exact ⟨s3, H3, r1, r2, r3, r4, r5⟩
    · rw [decide_eq_false (by omega), cond_false]
      rw [show c - i = 0 by omega]
      cases f with
      | true =>
        rw [textsL_fail]
        exact ⟨.nil, H, rfl, by simpa [ss] using IsE.nil, h, fun _ => hfl rfl, hkp⟩
      | false => exact ⟨s, H, rfl, by simpa [textsL] using ha.isE, by simpa [textsL] using h, fun h => by simp [textsL] at h, hkp⟩
theorem numA_fail {c : Nat} {l : List UInt8} {f : Bool} (h : (takeS c l f).2.2 = true) : (takeS c l f).1 = [] := by
  unfold takeS at h ⊢
  split
  · rfl
  · split
    · rfl
    · simp_all
theorem e71 (n : Nat) {H : VH} {k : Nat} {l : List UInt8} {f : Bool} (h : RS IT H k l f) (hf : f = true → l = []) (hn : 300 ≤ n) (most : Nat) :
    ∃ s' H', vF P tab (n + 4) 71 [.ptr (.ob k 0), .int .i64 (most : Int)] H = some (.sl 9 s', H') ∧ IsE s' (ss (textsS most l f).1) ∧ RS IT H' k (textsS most l f).2.1 (textsS most l f).2.2 ∧ ((textsS most l f).2.2 = true → (textsS most l f).2.1 = []) ∧ Kp H H' [k] := by
  obtain ⟨H1, g1, g2, g3, g4⟩ := e68 (n + 1) h hf (c := 1) (by omega) (by omega)
  rw [show ((1 : Nat) : Int) = 1 from rfl] at g1
  have hc := numA1 (takeS_len 1 l f)
  have hk : k < H.length := by obtain ⟨s, h1, _⟩ := h; exact lt_of_ob h1
  rw [vF_body rfl, f71_eq, callD_int g1, Option.bind_some]
  simp only
  have e1 : IntKind.wrap .i64 (numA 0 (takeS 1 l f).1 : Int) = (numA 0 (takeS 1 l f).1 : Int) := i64_nat (by omega)
  rw [e1]
  have fin : ∀ {H2 : VH} {l2 : List UInt8} {f2 : Bool}, RS IT H2 k l2 f2 → (f2 = true → l2 = []) → Kp H H2 [k] → ∃ s' H', L71_0 (n + 3) (n + 3) (.ob k 0) (numA 0 (takeS 1 l f).1 : Int) .nil 0 H2 = some (.sl 9 s', H') ∧ IsE s' (ss (textsL (numA 0 (takeS 1 l f).1) l2 f2 []).1) ∧ RS IT H' k (textsL (numA 0 (takeS 1 l f).1) l2 f2 []).2.1 (textsL (numA 0 (takeS 1 l f).1) l2 f2 []).2.2 ∧ ((textsL (numA 0 (takeS 1 l f).1) l2 f2 []).2.2 = true → (textsL (numA 0 (takeS 1 l f).1) l2 f2 []).2.1 = []) ∧ Kp H H' [k] := by
    intro H2 l2 f2 h2 hf2 hkp
    have := l71 n hn (numA 0 (takeS 1 l f).1) hc (n + 3) 0 (H0 := H) h2 hf2 hk hkp (s := .nil) (acc := []) .nil (fun t ht => by cases ht) rfl (by omega) (by omega)
    simpa using this
  unfold textsS
  by_cases hm : most < numA 0 (takeS 1 l f).1
  · have hnf : (takeS 1 l f).2.2 = false := by
      cases hq : (takeS 1 l f).2.2 with
      | false => rfl
      | true => rw [numA_fail hq] at hm; exact absurd hm (Nat.not_lt_zero _)
    rw [decide_eq_true (by omega), cond_true, if_pos ⟨hm, hnf⟩]
    obtain ⟨s, g5, g6⟩ := g2
    have hk1 := lt_of_ob g5
    simp only [nn, atO, Option.bind_some, Nat.zero_add]
    rw [st_row g5 (by simp) rfl, Option.bind_some]
    rw [st_row (by rw [List.getElem?_set_self hk1]) (by simp [putAllV]) rfl, Option.bind_some]
    refine fin (l2 := []) (f2 := true) ⟨.nil, ?_, .nil⟩ (fun _ => rfl) ?_
    · rw [List.getElem?_set_self (by simpa using hk1)]; rfl
    · exact (g3.trans (Kp.set _ k _) (fun x hx _ => hx) (fun y hy _ => hy)).trans (Kp.set _ k _) (fun x hx _ => hx) (fun y hy _ => hy)
  · rw [decide_eq_false (by omega), cond_false, if_neg (fun h => hm h.1)]
    exact fin g2 (takeS_inv 1 hf) g3
theorem rdS {s : VS} {ls : List (List UInt8)} (h : IsE s (ss ls)) {i : Nat} {l : List UInt8} (hb : ls[i]? = some l) (H : VH) {β : Type} (f : ByteArray → Option β) : ((ixV 1 s (i : Int)).bind fun p => (ldV (.flat .str) H p).bind f) = f ⟨l.toArray⟩ := by
  rw [h.ix (y := [.str ⟨l.toArray⟩]) (by simp [ss, hb]) 1, Option.bind_some]
  rfl
theorem l55 (n : Nat) {H : VH} {s t : VS} {ls : List (List UInt8)} (hs : IsE s (ss ls)) (ht : IsE t (ss ls)) (hl : ls.length < 1000000) : ∀ (m i : Nat), i ≤ ls.length → ls.length < i + m → L55_0 n m s t (i : Int) H = some (.bool true, H) := by
  intro m
  induction m with
  | zero => intro i h1 h2; omega
  | succ m ih =>
    intro i h1 h2
    rw [L55_0_eq, hs.len, ss_len]
    by_cases hi : i < ls.length
    · rw [decide_eq_true (by omega), cond_true]
      obtain ⟨l, hb⟩ : ∃ b, ls[i]? = some b := ⟨_, List.getElem?_eq_getElem hi⟩
      rw [rdS hs hb, rdS ht hb, strEq_iff]
      simp only [decide_true, Bool.not_true, cond_false]
      have e3 : IntKind.wrap .i64 ((i : Int) + 1) = ((i + 1 : Nat) : Int) := by rw [i64_in (by omega)]; rfl
      rw [e3]
      exact ih (i + 1) (by omega) (by omega)
    · rw [decide_eq_false (by omega), cond_false]
theorem closed_sl (e : TypeId) {s : VS} {es : List (List V)} (hs : IsE s es) : closedC (.sl e s) = true := by
  cases hs <;> rfl
theorem e55 (n : Nat) {H : VH} {s t : VS} {ls : List (List UInt8)} (hs : IsE s (ss ls)) (ht : IsE t (ss ls)) (hl : ls.length < 1000000) (hn : ls.length < n) : vF P tab (n + 1) 55 [.sl 9 s, .sl 9 t] H = some (.bool true, H) := by
  refine vF_lone (r := .bool true) (H1 := []) rfl (by simp [closed_sl 9 hs, closed_sl 9 ht]) ?_ rfl
  show bodyV P tab (vF P tab n) n 55 [.sl 9 s.strip, .sl 9 t.strip] [] = _
  rw [f55_eq, hs.strip.len, ht.strip.len]
  simp only [bne_self_eq_false, cond_false]
  exact l55 n hs.strip ht.strip hl n 0 (by omega) (by omega)
theorem stays_nil (H : VH) : V.stays H [] = true := rfl
theorem stays_flag {T : TypeId} {H : VH} {k : Nat} {l : List UInt8} {f : Bool} (h : RS T H k l f) : V.stays H [(.ob k 1, .bool, .bool f)] = true := by
  unfold V.stays
  rw [h.flag]
  simp only [V.fenc, same_self, stays_nil, Bool.and_true]
theorem stays_both {T : TypeId} {H : VH} {k : Nat} {l : List UInt8} {f : Bool} (h : RS T H k l f) {s : VS} (hs : ldV (.flat (.slice 5)) H (.ob k 0) = some s) : V.stays H [(.ob k 0, .slice 5, .sl 5 s), (.ob k 1, .bool, .bool f)] = true := by
  unfold V.stays
  rw [hs, stays_flag h]
  simp only [V.fenc, same_self, Bool.and_true]
theorem textsL_len : ∀ (n : Nat) (l : List UInt8) (f : Bool) (acc : List (List UInt8)), (textsL n l f acc).1.length ≤ acc.length + n := by
  intro n
  induction n with
  | zero => intro l f acc; unfold textsL; split <;> simp
  | succ n ih =>
    intro l f acc
    unfold textsL
    split
    · simp
    · split
      · simp
      · refine Nat.le_trans (ih _ _ _) ?_
        simp only [List.length_append, List.length_cons, List.length_nil]; omega
theorem textsS_len (most : Nat) (l : List UInt8) (f : Bool) : (textsS most l f).1.length < 256 := by
  have := numA1 (takeS_len 1 l f)
  unfold textsS
  split
  · have := textsL_len (numA 0 (takeS 1 l f).1) [] true []
    simp only [List.length_nil] at this; omega
  · have := textsL_len (numA 0 (takeS 1 l f).1) (takeS 1 l f).2.1 (takeS 1 l f).2.2 []
    simp only [List.length_nil] at this; omega
theorem rdP {s : VS} {l : List UInt8} (h : IsB s l) {i : Nat} {b : UInt8} (hb : l[i]? = some b) {H : VH} {β : Type} (f : VP → Int → Option β) : ((ixV 1 s (i : Int)).bind fun p => (ldV (.flat (.int .u8)) H p).bind (f p)) = f (.fz (bc b)) (b.toNat : Int) := by
  rw [h.ix (y := bc b) (by simp [bs, hb]) 1, Option.bind_some]
  rfl
theorem stays_fz (H : VH) (c1 c2 : List V) (t1 t2 : List V.FT) (v1 v2 : List V) : V.stays H (heldOf (.fz c1) t1 v1 ++ (heldOf (.fz c2) t2 v2 ++ [])) = true := by
  unfold heldOf
  exact stays_nil H
/-! ### The writer -/
abbrev WT : TypeId := 86 + boxK
/-- A writer in the object k: what has been laid, and the token by which more is. -/
def WS (H : VH) (k : Nat) (T : List Nat) (l : List UInt8) : Prop := ∃ s, H[k]? = some (.row WT [.sl 5 s]) ∧ Ap H 5 s (bs l) ∧ toks s = T
theorem WS.keep {H H' : VH} {X : List Nat} {k : Nat} {T : List Nat} {l : List UInt8} (h : WS H k T l) (kp : Kp H H' X) (hx : k ∉ X) (hT : ∀ t ∈ T, t ∉ X) : WS H' k T l := by
  obtain ⟨s, h1, h2, rfl⟩ := h
  exact ⟨s, kp.ob h1 hx, h2.keep kp hT, rfl⟩
theorem WS.tok {H : VH} {k : Nat} {T : List Nat} {l : List UInt8} (h : WS H k T l) {t : Nat} (ht : t ∈ T) : ∃ g, H[t]? = some (.tok 5 g) := by
  obtain ⟨s, _, h2, rfl⟩ := h; exact h2.tok_at ht
theorem WS.new (H : VH) : WS (H ++ [.row WT [.sl 5 .nil]]) H.length [] [] := ⟨.nil, by simp, .nil, rfl⟩
theorem e80 (n : Nat) {H : VH} {k : Nat} {T : List Nat} {l p : List UInt8} {s1 : VS} (hw : WS H k T l) (hp : IsB s1 p) (hl : l.length + p.length < 10000000) :
    ∃ H' T', vF P tab (n + 1) 80 [.ptr (.ob k 0), .sl 5 s1] H = some (.ptr (.ob k 0), H') ∧ WS H' k T' (l ++ p) ∧ Kp H H' (k :: T) ∧ (∀ t ∈ T', t ∈ T ∨ H.length ≤ t) := by
  obtain ⟨s, h1, h2, rfl⟩ := hw
  have hk := lt_of_ob h1
  rw [vF_body rfl, f80_eq]
  simp only [VP.isNil, Bool.not_false, cond_true, nn, atO, Option.bind_some, Nat.zero_add]
  rw [ld_row h1]
  simp only [List.getElem?_cons_zero, Option.bind_some, fd_sl]
  obtain ⟨s', H1, g1, g2, g3, g4, _⟩ := h2.app (sz := 1) (by_ := 1) hp (by rw [bs_len, bs_len]; simp only [bound]; omega) (by rw [bs_len, bs_len]; simp only [bound]; omega)
  have hkt : k ∉ toks s := fun h => by obtain ⟨g, hg⟩ := h2.tok_at h; rw [h1] at hg; cases hg
  have hk1 := g3.ob h1 hkt
  rw [g1, Option.bind_some, st_row hk1 (by simp) rfl, Option.bind_some]
  have kp : Kp H1 (H1.set k (.row WT (putAllV [.sl 5 s] 0 [.sl 5 s']))) [k] := Kp.set _ _ _
  refine ⟨_, toks s', rfl, ⟨s', by rw [List.getElem?_set_self (lt_of_ob hk1)]; rfl, ?_, rfl⟩, g3.trans kp (fun x hx _ => List.mem_cons_of_mem _ hx) (fun y hy _ => by rw [List.mem_singleton.1 hy]; exact List.mem_cons_self ..), g4⟩
  rw [bs_app]
  refine g2.keep kp (fun t ht hx => ?_)
  rw [List.mem_singleton.1 hx] at ht
  obtain ⟨g, hg⟩ := g2.tok_at ht
  rw [hk1] at hg; cases hg
/-- What a step of a writer does. -/
def Lays (H : VH) (k : Nat) (T : List Nat) (l p : List UInt8) (r : VRes) : Prop :=
  ∃ H' T', r = some (.ptr (.ob k 0), H') ∧ WS H' k T' (l ++ p) ∧ Kp H H' (k :: T) ∧ (∀ t ∈ T', t ∈ T ∨ H.length ≤ t)
theorem kp_next {H H1 H2 : VH} {k : Nat} {T T1 : List Nat} (a : Kp H H1 (k :: T)) (b : Kp H1 H2 (k :: T1)) (h : ∀ t ∈ T1, t ∈ T ∨ H.length ≤ t) : Kp H H2 (k :: T) :=
  a.trans b (fun x hx _ => hx) (fun y hy hl => by
    rcases List.mem_cons.1 hy with rfl | hy
    · exact List.mem_cons_self ..
    · rcases h y hy with h1 | h1
      · exact List.mem_cons_of_mem _ h1
      · omega)
theorem tk_next {H H1 : VH} {T T1 T2 : List Nat} {X : List Nat} (a : Kp H H1 X) (h : ∀ t ∈ T1, t ∈ T ∨ H.length ≤ t) (h2 : ∀ t ∈ T2, t ∈ T1 ∨ H1.length ≤ t) : ∀ t ∈ T2, t ∈ T ∨ H.length ≤ t := by
  intro t ht
  have := a.len
  rcases h2 t ht with h3 | h3
  · exact h t h3
  · exact .inr (by omega)
theorem e43 (n : Nat) {H : VH} {k : Nat} {T : List Nat} {l : List UInt8} (hw : WS H k T l) (x : Int) (hl : l.length < 1000000) : Lays H k T l [u8 x] (vF P tab (n + 2) 43 [.ptr (.ob k 0), .int .u8 (IntKind.wrap .u8 x)] H) := by
  obtain ⟨H', T', g1, g2, g3, g4⟩ := e80 n (p := [u8 x]) (s1 := .fz [[.int .u8 (IntKind.wrap .u8 x)]] (.ex 1)) hw (by rw [bc_wrap]; exact .fz _ _) (by simp only [List.length_singleton]; omega)
  rw [vF_body rfl, f43_eq, callD_ptr g1, Option.bind_some]
  exact ⟨H', T', rfl, g2, g3, g4⟩
def numI (x : Int) : List UInt8 := [u8 (x / 256), u8 x]
theorem shr8 (x : Int) : shrI .i64 x 8 = some (x / 256) := by
  unfold shrI
  rw [if_neg (by omega)]
  show some (x.fdiv (2 ^ 8)) = _
  rw [Int.fdiv_eq_ediv_of_nonneg _ (by decide)]
  rfl
theorem e57 (n : Nat) {H : VH} {k : Nat} {T : List Nat} {l : List UInt8} (hw : WS H k T l) (x : Int) (hl : l.length < 1000000) : Lays H k T l (numI x) (vF P tab (n + 2) 57 [.ptr (.ob k 0), .int .i64 x] H) := by
  obtain ⟨H', T', g1, g2, g3, g4⟩ := e80 n (p := numI x) (s1 := .fz [[.int .u8 (IntKind.wrap .u8 (x / 256))], [.int .u8 (IntKind.wrap .u8 x)]] (.ex 2)) hw (by rw [bc_wrap, bc_wrap]; exact .fz _ _) (by simp only [numI, List.length_cons, List.length_nil]; omega)
  rw [vF_body rfl, f57_eq, shr8, Option.bind_some, callD_ptr g1, Option.bind_some]
  exact ⟨H', T', rfl, g2, g3, g4⟩
def wideN (x : Nat) (i : Nat) : List UInt8 := (List.range i).map fun j => UInt8.ofNat (x / 2 ^ (56 - 8 * j) % 256)
def wideI (x : Nat) : List UInt8 := wideN x 8
theorem wideN_succ (x i : Nat) : wideN x (i + 1) = wideN x i ++ [UInt8.ofNat (x / 2 ^ (56 - 8 * i) % 256)] := by simp [wideN, List.range_succ]
theorem wideN_len (x i : Nat) : (wideN x i).length = i := by simp [wideN]
theorem u8_ofNat (n : Nat) : u8 (n : Int) = UInt8.ofNat (n % 256) := by
  unfold u8
  congr 1
theorem l58 (n : Nat) {H0 : VH} {k : Nat} {T0 : List Nat} {l : List UInt8} (x : Nat) (hl : l.length < 1000000) : ∀ (m i : Nat) {H : VH} {T : List Nat}, WS H k T (l ++ wideN x i) → Kp H0 H (k :: T0) → (∀ t ∈ T, t ∈ T0 ∨ H0.length ≤ t) → i ≤ 8 → 8 < i + m →
    Lays H0 k T0 l (wideI x) (L58_0 (n + 1) m (.ob k 0) (x : Int) (56 - 8 * (i : Int)) H) := by
  intro m
  induction m with
  | zero => intro i H T h1 h2 h3 h4 h5; omega
  | succ m ih =>
    intro i H T h1 h2 h3 h4 h5
    rw [L58_0_eq]
    by_cases hi : i < 8
    · rw [decide_eq_true (by omega), cond_true]
      have e1 : (56 - 8 * (i : Int)) = ((56 - 8 * i : Nat) : Int) := by omega
      rw [e1, shrI_nat (by show 56 - 8 * i ≤ 64; omega), Option.bind_some]
      obtain ⟨H', T', g1, g2, g3, g4⟩ := e80 n (p := [u8 ((x / 2 ^ (56 - 8 * i) : Nat) : Int)]) (s1 := .fz [[.int .u8 (IntKind.wrap .u8 ((x / 2 ^ (56 - 8 * i) : Nat) : Int))]] (.ex 1)) h1 (by rw [bc_wrap]; exact .fz _ _) (by
        simp only [List.length_append, wideN_len, List.length_singleton]; omega)
      rw [callD_ptr g1, Option.bind_some]
      have e2 : IntKind.wrap .i64 (((56 - 8 * i : Nat) : Int) - 8) = 56 - 8 * ((i + 1 : Nat) : Int) := by rw [i64_in (by omega)]; omega
      simp only
      rw [e2]
      refine ih (i + 1) (T := T') ?_ (kp_next h2 g3 h3) (tk_next h2 h3 g4) (by omega) (by omega)
      rw [wideN_succ, ← u8_ofNat, ← List.append_assoc]
      exact g2
    · rw [decide_eq_false (by omega), cond_false]
      have : i = 8 := by omega
      subst this
      exact ⟨H, T, rfl, h1, h2, h3⟩
theorem e58 (n : Nat) {H : VH} {k : Nat} {T : List Nat} {l : List UInt8} (hw : WS H k T l) (x : Nat) (hl : l.length < 1000000) : Lays H k T l (wideI x) (vF P tab (n + 20) 58 [.ptr (.ob k 0), .int .u64 (x : Int)] H) := by
  rw [vF_body rfl, f58_eq]
  exact l58 (n + 18) x hl (n + 19) 0 (T := T) (by simpa [wideN] using hw) (Kp.refl _ _) (fun t ht => .inl ht) (by omega) (by omega)
def textI (s : List UInt8) : List UInt8 := numI (s.length : Int) ++ s
theorem textI_len (s : List UInt8) : (textI s).length = 2 + s.length := by simp [textI, numI]; omega
theorem e44 (n : Nat) {H : VH} {k : Nat} {T : List Nat} {l : List UInt8} (hw : WS H k T l) (s : List UInt8) (hl : l.length + s.length < 1000000) : Lays H k T l (textI s) (vF P tab (n + 3) 44 [.ptr (.ob k 0), .str ⟨s.toArray⟩] H) := by
  obtain ⟨H1, T1, g1, g2, g3, g4⟩ := e57 n hw (s.length : Int) (by omega)
  rw [vF_body rfl, f44_eq, size_of, callD_ptr g1, Option.bind_some]
  obtain ⟨H2, T2, q1, q2, q3, q4⟩ := e80 (n + 1) (p := s) (s1 := .fz (bytesE ⟨s.toArray⟩) .no) g2 (by rw [bytesE_of]; exact .fz _ _) (by simp only [List.length_append, numI, List.length_cons, List.length_nil]; omega)
  simp only
  rw [callD_ptr q1, Option.bind_some]
  refine ⟨H2, T2, rfl, ?_, kp_next g3 q3 g4, tk_next g3 g4 q4⟩
  rw [textI, ← List.append_assoc]
  exact q2
def textsI (ls : List (List UInt8)) : List UInt8 := u8 (ls.length : Int) :: (ls.map textI).flatten
def szs (ls : List (List UInt8)) : Nat := ((ls.map textI).flatten).length
theorem szs_take (ls : List (List UInt8)) (i : Nat) : (((ls.take i).map textI).flatten).length ≤ szs ls := by
  conv => rhs; rw [szs, ← List.take_append_drop i ls]
  simp only [List.map_append, List.flatten_append, List.length_append]
  omega
theorem l45 (n : Nat) {H0 : VH} {k : Nat} {T0 : List Nat} {l : List UInt8} {s : VS} {ls : List (List UInt8)} (hs : IsE s (ss ls)) (hl : l.length + szs ls < 1000000) (hln : ls.length < 1000000) : ∀ (m i : Nat) {H : VH} {T : List Nat}, WS H k T (l ++ ((ls.take i).map textI).flatten) → Kp H0 H (k :: T0) → (∀ t ∈ T, t ∈ T0 ∨ H0.length ≤ t) → i ≤ ls.length → ls.length < i + m →
    Lays H0 k T0 l (ls.map textI).flatten (L45_0 (n + 3) m (.ob k 0) s (ls.length : Int) (i : Int) H) := by
  intro m
  induction m with
  | zero => intro i H T h1 h2 h3 h4 h5; omega
  | succ m ih =>
    intro i H T h1 h2 h3 h4 h5
    rw [L45_0_eq]
    by_cases hi : i < ls.length
    · rw [decide_eq_true (by omega), cond_true]
      obtain ⟨x, hx⟩ : ∃ b, ls[i]? = some b := ⟨_, List.getElem?_eq_getElem hi⟩
      rw [rdS hs hx]
      have e0 : ((ls.take (i + 1)).map textI).flatten = ((ls.take i).map textI).flatten ++ textI x := by
        rw [List.take_add_one, hx]; simp
      have h6 := szs_take ls (i + 1)
      rw [e0, List.length_append, textI_len] at h6
      obtain ⟨H', T', g1, g2, g3, g4⟩ := e44 n h1 x (by simp only [List.length_append]; omega)
      rw [callD_ptr g1, Option.bind_some]
      have e3 : IntKind.wrap .i64 ((i : Int) + 1) = ((i + 1 : Nat) : Int) := by rw [i64_in (by omega)]; rfl
      simp only
      rw [e3]
      refine ih (i + 1) (T := T') ?_ (kp_next h2 g3 h3) (tk_next h2 h3 g4) (by omega) (by omega)
      rw [e0, ← List.append_assoc]
      exact g2
    · rw [decide_eq_false (by omega), cond_false]
      have : i = ls.length := by omega
      subst this
      rw [List.take_length] at h1
      exact ⟨H, T, rfl, h1, h2, h3⟩
theorem e45 (n : Nat) {H : VH} {k : Nat} {T : List Nat} {l : List UInt8} (hw : WS H k T l) {s : VS} {ls : List (List UInt8)} (hs : IsE s (ss ls)) (hl : l.length + szs ls < 900000) (hn : ls.length < n) : Lays H k T l (textsI ls) (vF P tab (n + 4) 45 [.ptr (.ob k 0), .sl 9 s] H) := by
  have hsz : ls.length ≤ szs ls := by
    unfold szs
    clear hs hl hn
    induction ls with
    | nil => simp
    | cons a ls ih => simp only [List.map_cons, List.flatten_cons, List.length_append, textI_len, List.length_cons]; omega
  obtain ⟨H1, T1, g1, g2, g3, g4⟩ := e43 (n + 1) hw (ls.length : Int) (by omega)
  rw [vF_body rfl, f45_eq, hs.len, ss_len, callD_ptr g1, Option.bind_some]
  obtain ⟨H2, T2, q1, q2, q3, q4⟩ := l45 n (H0 := H1) (k := k) (T0 := T1) (l := l ++ [u8 (ls.length : Int)]) hs (by simp only [List.length_append, List.length_singleton]; omega) (by omega) (n + 3) 0 (T := T1) (by simpa using g2) (Kp.refl _ _) (fun t ht => .inl ht) (by omega) (by omega)
  refine ⟨H2, T2, q1, ?_, kp_next g3 q3 g4, tk_next g3 g4 q4⟩
  rw [textsI]
  rw [List.append_assoc] at q2
  exact q2
/-! ### The document's bytes -/
theorem l18 (n : Nat) {H : VH} {s t : VS} {l r : List UInt8} (hs : IsB s l) (ht : IsB t r) (hl : l.length = r.length) (hb : l.length ≤ maxLen) : ∀ (m i : Nat), i ≤ l.length → l.length < i + m → L18_0 n m s t (i : Int) H = some (.bool (decide (l.drop i = r.drop i)), H) := by
  have hm := maxLen_eq
  intro m
  induction m with
  | zero => intro i h1 h2; omega
  | succ m ih =>
    intro i h1 h2
    rw [L18_0_eq, hs.len, bs_len]
    by_cases hi : i < l.length
    · rw [decide_eq_true (by omega), cond_true]
      obtain ⟨a, ha⟩ := get_of hi
      obtain ⟨b, hb⟩ := get_of (l := r) (i := i) (by omega)
      rw [hs.rd ha, ht.rd hb]
      have e1 : l.drop i = a :: l.drop (i + 1) := by rw [List.drop_eq_getElem_cons hi]; rw [List.getElem?_eq_getElem hi] at ha; injection ha with ha; rw [ha]
      have e2 : r.drop i = b :: r.drop (i + 1) := by
        have hi2 : i < r.length := by omega
        rw [List.drop_eq_getElem_cons hi2]; rw [List.getElem?_eq_getElem hi2] at hb; injection hb with hb; rw [hb]
      by_cases hab : a = b
      · subst hab
        simp only [bne_self_eq_false, cond_false]
        rw [inc_nat (by omega), ih (i + 1) (by omega) (by omega), e1, e2]
        simp
      · have : (((a.toNat : Int)) != (b.toNat : Int)) = true := by
          simp only [bne_iff_ne, ne_eq]
          intro h
          exact hab (UInt8.toNat_inj.1 (by omega))
        rw [this, cond_true, e1, e2, decide_eq_false (by intro h; injection h with h; exact hab h)]
    · rw [decide_eq_false (by omega), cond_false, List.drop_eq_nil_of_le (by omega), List.drop_eq_nil_of_le (by omega)]
      simp
theorem e18 (n : Nat) {H : VH} {s t : VS} {l r : List UInt8} (hs : IsB s l) (ht : IsB t r) (hb : l.length ≤ maxLen) (hn : l.length < n) : vF P tab (n + 1) 18 [.sl 5 s, .sl 5 t] H = some (.bool (decide (l = r)), H) := by
  refine vF_lone (r := .bool (decide (l = r))) (H1 := []) rfl (by simp [closed_sl 5 hs, closed_sl 5 ht]) ?_ rfl
  show bodyV P tab (vF P tab n) n 18 [.sl 5 s.strip, .sl 5 t.strip] [] = _
  rw [f18_eq, hs.strip.len, ht.strip.len, bs_len, bs_len]
  by_cases h : l.length = r.length
  · rw [h]
    simp only [bne_self_eq_false, cond_false]
    have := l18 n (H := []) hs.strip ht.strip h hb n 0 (by omega) (by omega)
    simpa using this
  · have h1 : (((l.length : Nat) : Int) != ((r.length : Nat) : Int)) = true := by simp only [bne_iff_ne, ne_eq]; omega
    rw [h1, cond_true, decide_eq_false (by intro h2; exact h (by rw [h2]))]
theorem e32 (n : Nat) (x : Int) (H : VH) : vF P tab (n + 1) 32 [.int .i64 x] H = some (.sl 5 (.fz (bs (numI x)) (.ex 2)), H) := by
  have h : bodyV P tab (vF P tab n) n 32 ([.int .i64 x].map stripC) [] = some (.sl 5 (.fz (bs (numI x)) (.ex 2)), []) := by
    show bodyV P tab (vF P tab n) n 32 [.int .i64 x] [] = _
    rw [f32_eq, IntKind.wrap_u64]
    obtain ⟨y, hy⟩ : ∃ y : Nat, x % 18446744073709551616 = (y : Int) := ⟨(x % 18446744073709551616).toNat, by omega⟩
    rw [hy, show (65536 : Int) = ((65536 : Nat) : Int) from rfl, remI_nat (by decide), Option.bind_some, show (256 : Int) = ((256 : Nat) : Int) from rfl, quoI_nat (by decide) (by rw [wrap_u64_nat]; omega), Option.bind_some, remI_nat (by decide), Option.bind_some, bc_wrap, bc_wrap]
    have e1 : u8 ((y % 65536 / 256 : Nat) : Int) = u8 (x / 256) := by unfold u8; congr 1; omega
    have e2 : u8 ((y % 65536 % 256 : Nat) : Int) = u8 x := by unfold u8; congr 1; omega
    rw [e1, e2]
    rfl
  exact (lone_E (H := H) rfl rfl h (.fz _ _)).1
theorem e13 (n : Nat) (s : List UInt8) (hl : s.length < 1000000) (H : VH) : ∃ s', vF P tab (n + 2) 13 [.str ⟨s.toArray⟩] H = some (.sl 5 s', H) ∧ IsB s' (textI s) := by
  obtain ⟨s2, H1, g1, g2, _⟩ := (Ap.lit (H := []) (e := 5) (bs (numI (s.length : Int)))).app (x := .fz (bytesE ⟨s.toArray⟩) .no) (sz := 1) (by_ := 1) (IsE.fz (bytesE ⟨s.toArray⟩) .no) (by rw [bytesE_of, bs_len, bs_len]; simp only [bound, numI, List.length_cons, List.length_nil]; omega) (by rw [bytesE_of, bs_len, bs_len]; simp only [bound, numI, List.length_cons, List.length_nil]; omega)
  have h : bodyV P tab (vF P tab (n + 1)) (n + 1) 13 ([.str ⟨s.toArray⟩].map stripC) [] = some (.sl 5 s2, H1) := by
    show bodyV P tab (vF P tab (n + 1)) (n + 1) 13 [.str ⟨s.toArray⟩] [] = _
    rw [f13_eq, size_of, callD_sl (e32 n _ []), Option.bind_some]
    exact (congrArg (fun r => r.bind fun r2 => some (V.sl 5 r2.1, r2.2)) g1)
  refine ⟨s2.strip, lone_E (H := H) rfl rfl h ?_⟩
  rw [textI, bs_app]
  exact g2.isE
theorem l63 (n : Nat) (x : Nat) (_hx : x < 18446744073709551616) : ∀ (m i : Nat) {H : VH} {s : VS}, Ap H 5 s (bs (wideN x i)) → i ≤ 8 → 8 < i + m → ∃ s' H', L63_0 n m (x : Int) s (i : Int) H = some (.sl 5 s', H') ∧ IsB s' (wideI x) := by
  intro m
  induction m with
  | zero => intros; omega
  | succ m ih =>
    intro i H s h1 h2 h3
    rw [L63_0_eq]
    by_cases hi : i < 8
    · rw [decide_eq_true (by omega), cond_true]
      have e1 : IntKind.wrap .i64 (56 - IntKind.wrap .i64 (8 * (i : Int))) = ((56 - 8 * i : Nat) : Int) := by rw [i64_in (x := 8 * (i : Int)) (by omega), i64_in (by omega)]; omega
      rw [e1, shrI_nat (by show 56 - 8 * i ≤ 64; omega), Option.bind_some, bc_wrap]
      obtain ⟨s2, H2, g1, g2, _⟩ := h1.app (x := .fz [bc (u8 ((x / 2 ^ (56 - 8 * i) : Nat) : Int))] (.ex 1)) (sz := 1) (by_ := 1) (IsE.fz _ _) (by rw [bs_len, wideN_len]; simp only [bound, List.length_singleton]; omega) (by rw [bs_len, wideN_len]; simp only [bound, List.length_singleton]; omega)
      rw [g1, Option.bind_some, inc_nat (by omega)]
      refine ih (i + 1) ?_ (by omega) (by omega)
      rw [wideN_succ, bs_app, ← u8_ofNat]
      exact g2
    · rw [decide_eq_false (by omega), cond_false]
      have : i = 8 := by omega
      subst this
      exact ⟨s, H, rfl, h1.isE⟩
theorem e63 (n : Nat) (x : Nat) (hx : x < 18446744073709551616) (H : VH) : ∃ s', vF P tab (n + 20) 63 [.int .u64 (x : Int)] H = some (.sl 5 s', H) ∧ IsB s' (wideI x) := by
  obtain ⟨s', H', g1, g2⟩ := l63 (n + 19) x hx (n + 19) 0 (H := []) (s := .nil) .nil (by omega) (by omega)
  have h : bodyV P tab (vF P tab (n + 19)) (n + 19) 63 ([.int .u64 (x : Int)].map stripC) [] = some (.sl 5 s', H') := by
    show bodyV P tab (vF P tab (n + 19)) (n + 19) 63 [.int .u64 (x : Int)] [] = _
    rw [f63_eq]
    exact g1
  exact ⟨s'.strip, lone_E (H := H) rfl rfl h g2⟩
theorem l41 (n : Nat) {s : VS} {ls : List (List UInt8)} (hs : IsE s (ss ls)) (hl : szs ls < 1000000) (hln : ls.length < 1000000) : ∀ (m i : Nat) {H : VH} {s3 : VS}, Ap H 5 s3 (bs (u8 (ls.length : Int) :: ((ls.take i).map textI).flatten)) → i ≤ ls.length → ls.length < i + m →
    ∃ s' H', L41_0 (n + 2) m s s3 (i : Int) H = some (.sl 5 s', H') ∧ IsB s' (textsI ls) := by
  intro m
  induction m with
  | zero => intros; omega
  | succ m ih =>
    intro i H s3 h1 h2 h3
    rw [L41_0_eq, hs.len, ss_len]
    by_cases hi : i < ls.length
    · rw [decide_eq_true (by omega), cond_true]
      obtain ⟨x, hx⟩ := get_of hi
      rw [rdS hs hx]
      have e0 : ((ls.take (i + 1)).map textI).flatten = ((ls.take i).map textI).flatten ++ textI x := by
        rw [List.take_add_one, hx]; simp
      have h6 := szs_take ls (i + 1)
      rw [e0, List.length_append] at h6
      have h7 := textI_len x
      obtain ⟨sx, k1, k2⟩ := e13 n x (by omega) H
      rw [callD_sl k1, Option.bind_some]
      obtain ⟨s2, H2, g1, g2, _⟩ := h1.app (x := sx) (sz := 1) (by_ := 1) k2 (by rw [bs_len, bs_len]; simp only [bound, List.length_cons]; omega) (by rw [bs_len, bs_len]; simp only [bound, List.length_cons]; omega)
      simp only
      rw [g1, Option.bind_some, inc_nat (by omega)]
      refine ih (i + 1) ?_ (by omega) (by omega)
      rw [e0, ← List.cons_append, bs_app]
      exact g2
    · rw [decide_eq_false (by omega), cond_false]
      have : i = ls.length := by omega
      subst this
      rw [List.take_length] at h1
      exact ⟨s3, H, rfl, h1.isE⟩
theorem e41 (n : Nat) {s : VS} {ls : List (List UInt8)} (hs : IsE s (ss ls)) (hl : szs ls < 900000) (hn : ls.length < 1000000) (hn2 : ls.length < n) (H : VH) : ∃ s', vF P tab (n + 3) 41 [.sl 9 s] H = some (.sl 5 s', H) ∧ IsB s' (textsI ls) := by
  obtain ⟨s', H', g1, g2⟩ := l41 n hs.strip (by omega) hn (n + 2) 0 (H := []) (s3 := .fz [[.int .u8 (IntKind.wrap .u8 (ls.length : Int))]] (.ex 1)) (by rw [bc_wrap]; exact .lit _) (by omega) (by omega)
  have h : bodyV P tab (vF P tab (n + 2)) (n + 2) 41 ([.sl 9 s].map stripC) [] = some (.sl 5 s', H') := by
    show bodyV P tab (vF P tab (n + 2)) (n + 2) 41 [.sl 9 s.strip] [] = _
    rw [f41_eq, hs.strip.len, ss_len]
    exact g1
  exact ⟨s'.strip, lone_E (H := H) rfl (by simp [closed_sl 9 hs]) h g2⟩
/-! ### What is read back -/
theorem takeS_app (p r : List UInt8) {c : Nat} (h : p.length = c) : takeS c (p ++ r) false = (p, r, false) := by
  unfold takeS
  rw [if_neg (by simp), if_neg (by simp only [List.length_append]; omega)]
  subst h
  simp
theorem numA_numI (x : Int) : numA 0 (numI x) = (x % 65536).toNat := by
  simp only [numA, numI, List.foldl_cons, List.foldl_nil, u8, UInt8.toNat_ofNat']
  omega
theorem numA_wideN {x : Nat} (hx : x < 18446744073709551616) : ∀ i, i ≤ 8 → numA 0 (wideN x i) = x / 2 ^ (64 - 8 * i) := by
  intro i
  induction i with
  | zero => intro _; simp only [wideN, List.range_zero, List.map_nil, numA, List.foldl_nil, Nat.mul_zero, Nat.sub_zero]; exact (Nat.div_eq_of_lt hx).symm
  | succ i ih =>
    intro h
    rw [wideN_succ, numA_snoc, ih (by omega), UInt8.toNat_ofNat']
    have e1 : x / 2 ^ (64 - 8 * i) = x / 2 ^ (56 - 8 * i) / 256 := by
      rw [Nat.div_div_eq_div_mul]
      congr 1
      rw [show 64 - 8 * i = (56 - 8 * i) + 8 by omega, Nat.pow_add]
    have e2 : 64 - 8 * (i + 1) = 56 - 8 * i := by omega
    have e3 : x / 2 ^ (56 - 8 * i) ≤ x := Nat.div_le_self _ _
    rw [e1, e2]
    generalize x / 2 ^ (56 - 8 * i) = y at *
    omega
theorem numA_wide {x : Nat} (hx : x < 18446744073709551616) : numA 0 (wideI x) = x := by
  have := numA_wideN hx 8 (by omega)
  simpa [wideI] using this
theorem textS_app (s r : List UInt8) (h : s.length < 65536) : textS (textI s ++ r) false = (s, r, false) := by
  unfold textS
  have e1 : takeS 2 (textI s ++ r) false = (numI (s.length : Int), s ++ r, false) := by
    rw [textI, List.append_assoc]
    exact takeS_app _ _ (by simp [numI])
  rw [e1]
  simp only [numA_numI]
  exact takeS_app _ _ (by omega)
theorem textsL_app : ∀ (ls : List (List UInt8)) (r : List UInt8) (acc : List (List UInt8)), (∀ y ∈ ls, y.length < 65536) → textsL ls.length ((ls.map textI).flatten ++ r) false acc = (acc ++ ls, r, false) := by
  intro ls
  induction ls with
  | nil => intro r acc _; simp [textsL]
  | cons a ls ih =>
    intro r acc h
    have e : ((a :: ls).map textI).flatten ++ r = textI a ++ ((ls.map textI).flatten ++ r) := by simp
    rw [List.length_cons, textsL, if_neg (by simp), e, textS_app a _ (h a (List.mem_cons_self ..))]
    simp only [Bool.false_eq_true, if_false]
    rw [ih r (acc ++ [a]) (fun y hy => h y (List.mem_cons_of_mem _ hy))]
    simp
theorem textsS_app (ls : List (List UInt8)) (r : List UInt8) (most : Nat) (h : ∀ y ∈ ls, y.length < 65536) (h1 : ls.length ≤ most) (h2 : ls.length < 256) : textsS most (textsI ls ++ r) false = (ls, r, false) := by
  have e1 : takeS 1 (textsI ls ++ r) false = ([u8 (ls.length : Int)], (ls.map textI).flatten ++ r, false) := by
    rw [textsI, List.cons_append]
    exact takeS_app [_] _ rfl
  have e2 : numA 0 [u8 (ls.length : Int)] = ls.length := by
    simp only [numA, List.foldl_cons, List.foldl_nil, u8_nat]; omega
  unfold textsS
  rw [e1]
  simp only [e2]
  rw [if_neg (by omega), textsL_app ls r [] h]
  simp
/-! ### bytes.Clone, NewReader, Bytes: what is copied stays -/
theorem e73 (n : Nat) {H : VH} {s : VS} {l : List UInt8} (h : IsB s l) (hl : l.length < 10000000) : ∃ s' H', vF P tab (n + 1) 73 [.sl 5 s] H = some (.sl 5 s', H') ∧ IsB s' l ∧ Kp H H' [] := by
  rw [vF_body rfl, f73_eq]
  cases hn : s.isNil with
  | true =>
    obtain ⟨rfl, h2⟩ := h.isNil hn
    have : l = [] := by cases l with | nil => rfl | cons _ _ => cases h2
    subst this
    exact ⟨_, _, rfl, .nil, Kp.refl _ _⟩
  | false =>
    have hlit : Ap H 5 (.fz [] (.ex 0)) [] := .lit []
    obtain ⟨s', H', h1, h2, h3, _, _⟩ := hlit.app (sz := 1) (by_ := 1) h (by simp [bound]; omega) (by simp [bound]; omega)
    simp only [cond_false]
    rw [h1]
    exact ⟨s', H', rfl, h2.isE, h3⟩
theorem e33 (n : Nat) {H : VH} {s : VS} {l : List UInt8} (h : IsB s l) (hl : l.length < 10000000) : ∃ k H', vF P tab (n + 2) 33 [.sl 5 s] H = some (.ptr (.ob k 0), H') ∧ RS RT H' k l false ∧ H.length ≤ k ∧ Kp H H' [] := by
  obtain ⟨s', H', h1, h2, h3⟩ := e73 n h hl
  rw [vF_body rfl, f33_eq, callD_sl h1, Option.bind_some]
  exact ⟨_, _, rfl, ⟨s', by simp, h2⟩, h3.len, h3.trans (Kp.app _ _) (fun x hx _ => hx) (fun y hy _ => hy)⟩
theorem e46 (n : Nat) {H : VH} {k : Nat} {T : List Nat} {l : List UInt8} (hw : WS H k T l) (hl : l.length < 10000000) : ∃ s' H', vF P tab (n + 2) 46 [.ptr (.ob k 0)] H = some (.sl 5 s', H') ∧ IsB s' l ∧ Kp H H' [] := by
  obtain ⟨s, h1, h2, _⟩ := hw
  obtain ⟨s', H', g1, g2, g3⟩ := e73 n (H := H) (s := s) (l := l) h2.isE hl
  rw [vF_body rfl, f46_eq]
  simp only [VP.isNil, cond_false, nn, atO, Option.bind_some, Nat.zero_add]
  have hld : ldV (.flat (.slice 5)) H (.ob k 0) = some s := by rw [ld_row h1]; exact fd_sl 5 s
  rw [hld, Option.bind_some, callD_sl g1, Option.bind_some]
  exact ⟨s', H', rfl, g2, g3⟩
end Go.Proofs.YtcnigofmjffamaaDoor
