import Derived.Test.YthodknboobgfpaaEq
set_option linter.unusedVariables false
set_option linter.unusedSimpArgs false
namespace Go.Proofs.Ythodknboobgfpaa
open Go.Proofs.Ythodknboobgfpaa.Sh Go.Proofs.Ythodknboobgfpaa.Sh.V Go.RowKit
theorem tabOK : VOK P tab := mkV_ok (by kernel_rfl) (by kernel_rfl) (by
  intro f hf
  have : (reach.all fun f => okCode P noteOf f) = true := by kernel_rfl
  exact List.all_eq_true.1 this f hf) (fun f hf => by cases hf)
/-! ### Bytes as numbers -/
def numA (x : Nat) (l : List UInt8) : Nat := l.foldl (fun x b => x * 256 % 18446744073709551616 + b.toNat) x
theorem numA_lt {x : Nat} (hx : x < 18446744073709551616) (l : List UInt8) : numA x l < 18446744073709551616 := by
  induction l generalizing x with
  | nil => exact hx
  | cons b l ih =>
    have := b.toNat_lt
    exact ih (x := x * 256 % 18446744073709551616 + b.toNat) (by omega)
theorem numA_snoc (x : Nat) (l : List UInt8) (b : UInt8) : numA x (l ++ [b]) = numA x l * 256 % 18446744073709551616 + b.toNat := by
  simp [numA, List.foldl_append]
theorem numA_take {l : List UInt8} {i : Nat} {b : UInt8} (h : l[i]? = some b) : numA 0 (l.take (i + 1)) = numA 0 (l.take i) * 256 % 18446744073709551616 + b.toNat := by
  obtain ⟨hlt, he⟩ := List.getElem?_eq_some_iff.1 h
  rw [List.take_succ_eq_append_getElem hlt, numA_snoc, he]
/-! ### The reader -/
abbrev RT : TypeId := 68 + boxK
abbrev IT : TypeId := 41 + boxK
/-- A reader in the object k: what isn't read, has it failed? -/
def RS (T : TypeId) (H : VH) (k : Nat) (l : List UInt8) (f : Bool) : Prop := ∃ s, H[k]? = some (.row T [.sl 5 s, .bool f]) ∧ IsB s l
theorem RS.keep {T : TypeId} {H H' : VH} {X : List Nat} {k : Nat} {l : List UInt8} {f : Bool} (h : RS T H k l f) (kp : Kp H H' X) (hx : k ∉ X) : RS T H' k l f := by
  obtain ⟨s, h1, h2⟩ := h; exact ⟨s, kp.ob h1 hx, h2⟩
theorem e42 (n : Nat) {H : VH} {k : Nat} {l : List UInt8} {f : Bool} (h : RS RT H k l f) : ∃ H', vF P tab (n + 1) 42 [.ptr (.ob k 0)] H = some (.tup [], H') ∧ RS RT H' k [] true ∧ Kp H H' [k] ∧ H'.length = H.length := by
  obtain ⟨s, h1, h2⟩ := h
  have hk := lt_of_ob h1
  rw [vF_body rfl, f42_eq]
  simp only [nn, atO, Option.bind_some, Nat.zero_add]
  rw [st_row h1 (by simp) rfl, Option.bind_some]
  rw [st_row (by rw [List.getElem?_set_self hk]) (by simp [putAllV]) rfl, Option.bind_some]
  refine ⟨_, rfl, ⟨.nil, ?_, .nil⟩, ?_, by simp⟩
  · rw [List.getElem?_set_self (by simpa using hk)]; rfl
  · exact (Kp.set H k _).trans (Kp.set _ k _) (fun x hx _ => hx) (fun y hy _ => hy)
theorem e25 (n : Nat) {H : VH} {k : Nat} {l : List UInt8} {f : Bool} (h : RS RT H k l f) : vF P tab (n + 1) 25 [.ptr (.ob k 0)] H = some (.bool (!f), H) := by
  obtain ⟨s, h1, h2⟩ := h
  rw [vF_body rfl, f25_eq]
  simp only [VP.isNil, Bool.not_false, cond_true, nn, atO, Option.bind_some]
  rw [ld_row h1]
  rfl
theorem c25 (n : Nat) {H : VH} {k : Nat} {l : List UInt8} {f : Bool} (h : RS RT H k l f) : callD (vF P tab (n + 1)) P false (.one (.flat .bool)) 25 [.ptr (.ob k 0)] H = some (!f, H) := callD_some _ (e25 n h) rfl
/-- What is left when so many bytes are taken; the bytes. -/
def takeS (n : Nat) (l : List UInt8) (f : Bool) : List UInt8 × List UInt8 × Bool :=
  if f = true then ([], l, true) else if l.length < n then ([], [], true) else (l.take n, l.drop n, false)
theorem e41 (n : Nat) {H : VH} {k : Nat} {l : List UInt8} {f : Bool} (h : RS RT H k l f) {c : Nat} (hc : c < 1000000) :
    ∃ s' H', vF P tab (n + 2) 41 [.ptr (.ob k 0), .int .i64 (c : Int)] H = some (.sl 5 s', H') ∧ IsB s' (takeS c l f).1 ∧ RS RT H' k (takeS c l f).2.1 (takeS c l f).2.2 ∧ Kp H H' [k] ∧ H'.length = H.length := by
  rw [vF_body rfl, f41_eq, c25 n h, Option.bind_some]
  unfold takeS
  cases f with
  | true =>
    simp only [Bool.not_true, Bool.not_false, cond_true, if_true]
    exact ⟨.nil, H, rfl, .nil, h, Kp.refl _ _, rfl⟩
  | false =>
    obtain ⟨s, h1, h2⟩ := h
    have hk := lt_of_ob h1
    simp only [Bool.not_true, Bool.not_false, cond_false, nn, atO, Option.bind_some, Nat.zero_add, Bool.false_eq_true, if_false]
    rw [ld_row h1]
    simp only [List.getElem?_cons_zero, Option.bind_some, fd_sl]
    rw [h2.len, bs_len]
    by_cases hl : l.length < c
    · rw [decide_eq_true (by omega), cond_true, if_pos hl]
      obtain ⟨H', g1, g2, g3, g4⟩ := e42 n ⟨s, h1, h2⟩
      rw [callD_some (τ := .tup []) (x := ()) _ g1 rfl, Option.bind_some]
      exact ⟨.nil, H', rfl, .nil, g2, g3, g4⟩
    · rw [decide_eq_false (by omega), cond_false, if_neg hl]
      obtain ⟨s1, g1, g2, _⟩ := h2.cut (lo := 0) (hi := c) (Nat.zero_le _) (by rw [bs_len]; omega) (lo' := none) (hi' := some (c : Int)) (mx' := some (c : Int)) (.inr ⟨rfl, rfl⟩) (.inl rfl) (.inr ⟨rfl, rfl⟩) H 5 1
      obtain ⟨s2, g3, g4, _⟩ := h2.cut (lo := c) (hi := l.length) (by omega) (by rw [bs_len]; omega) (lo' := some (c : Int)) (hi' := none) (mx' := none) (.inl rfl) (.inr ⟨rfl, by rw [bs_len]⟩) (.inl rfl) H 5 1
      rw [g1, Option.bind_some, g3, Option.bind_some, st_row h1 (by simp) rfl, Option.bind_some]
      rw [List.drop_zero, bs_take] at g2
      rw [List.take_of_length_le (by rw [bs_len]; exact Nat.le_refl _), bs_drop] at g4
      exact ⟨s1, _, rfl, g2, ⟨s2, by rw [List.getElem?_set_self hk]; rfl, g4⟩, Kp.set _ _ _, by simp⟩
theorem l39 (n : Nat) {H : VH} {s : VS} {l : List UInt8} (hs : IsB s l) (hl : l.length < 1000000) : ∀ (m i : Nat), i ≤ l.length → l.length < i + m → L39_0 n m (numA 0 (l.take i) : Int) s (l.length : Int) (i : Int) H = some (.int .u64 (numA 0 l : Int), H) := by
  intro m
  induction m with
  | zero => intro i h1 h2; omega
  | succ m ih =>
    intro i h1 h2
    rw [L39_0_eq]
    by_cases hi : i < l.length
    · rw [decide_eq_true (by omega), cond_true]
      obtain ⟨b, hb⟩ : ∃ b, l[i]? = some b := ⟨_, List.getElem?_eq_getElem hi⟩
      rw [hs.rd hb]
      have hx := numA_lt (x := 0) (by decide) (l.take i)
      have hb2 := b.toNat_lt
      have h3 := shlI_u64 (x := numA 0 (l.take i)) (k := 8) (by omega)
      rw [show ((8 : Nat) : Int) = 8 from rfl] at h3
      rw [h3, Option.bind_some, wrap_u64_nat (by omega), bitI_or (by omega) (by omega)]
      have e : numA 0 (l.take i) * 2 ^ 8 % 18446744073709551616 = (numA 0 (l.take i) % 72057594037927936) * 2 ^ 8 := by omega
      rw [e, or_add (by simpa using hb2)]
      have e2 : (numA 0 (l.take i) % 72057594037927936) * 2 ^ 8 + b.toNat = numA 0 (l.take (i + 1)) := by rw [numA_take hb]; omega
      have e3 : IntKind.wrap .i64 ((i : Int) + 1) = ((i + 1 : Nat) : Int) := by rw [i64_in (by omega)]; rfl
      rw [e2, e3]
      exact ih (i + 1) (by omega) (by omega)
    · rw [decide_eq_false (by omega), cond_false]
      have : i = l.length := by omega
      subst this
      rw [List.take_length]
theorem e39 (n : Nat) {H : VH} {k : Nat} {l : List UInt8} {f : Bool} (h : RS RT H k l f) {c : Nat} (hc : c < 1000000) (hn : c ≤ n) :
    ∃ H', vF P tab (n + 3) 39 [.ptr (.ob k 0), .int .i64 (c : Int)] H = some (.int .u64 (numA 0 (takeS c l f).1 : Int), H') ∧ RS RT H' k (takeS c l f).2.1 (takeS c l f).2.2 ∧ Kp H H' [k] ∧ H'.length = H.length := by
  obtain ⟨s', H', g1, g2, g3⟩ := e41 n h hc
  have hlen : (takeS c l f).1.length ≤ c := by
    unfold takeS
    split
    · simp
    · split
      · simp
      · simp only [List.length_take]; omega
  rw [vF_body rfl, f39_eq, callD_some (τ := .one (.flat (.slice 5))) (x := s') _ g1 rfl, Option.bind_some]
  simp only
  rw [g2.len, bs_len]
  exact ⟨H', l39 (n + 2) g2 (by omega) (n + 2) 0 (by omega) (by omega), g3⟩
end Go.Proofs.Ythodknboobgfpaa
