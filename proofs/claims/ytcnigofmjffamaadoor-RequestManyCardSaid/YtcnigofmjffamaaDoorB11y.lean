import Derived.Test.YtcnigofmjffamaaDoorB11x
set_option maxRecDepth 100000
set_option linter.unusedVariables false
set_option linter.unusedSimpArgs false
namespace Go.Proofs.YtcnigofmjffamaaDoor
open Go.Proofs.YtcnigofmjffamaaDoor.Sh Go.Proofs.YtcnigofmjffamaaDoor.Sh.V Go.RowKit
/-! ### What was encoded, decoded -/
theorem numA_1 (b : UInt8) : numA 0 [b] = b.toNat := by simp [numA]
theorem u8_nat' (k : Nat) (hk : k < 256) : (u8 (k : Int)).toNat = k := by
  rw [u8_ofNat]; simp; omega
theorem b1_nat {k : Nat} (hk : k < 256) : (b1 k).toNat = k := by simp [b1]; omega
theorem T1_app {k : Nat} (hk : k < 256) (r : List UInt8) : T1 (b1 k :: r, false) = (k, (r, false)) := by
  unfold T1
  have e1 : takeS 1 (b1 k :: r) false = ([b1 k], r, false) := takeS_app [_] _ rfl
  simp only [e1, numA_1, b1_nat hk]
theorem TX_app {s : List UInt8} (h : s.length < 65536) (r : List UInt8) : TX (textI s ++ r, false) = (s, (r, false)) := by
  unfold TX
  simp only [textS_app s r h]
theorem TS_app {ls : List (List UInt8)} {most : Nat} (h : ∀ y ∈ ls, y.length < 65536) (h1 : ls.length ≤ most) (h2 : ls.length < 256) (r : List UInt8) : TS most (textsI ls ++ r, false) = (ls, (r, false)) := by
  unfold TS
  simp only [textsS_app ls r most h h1 h2]
theorem needsS_app : ∀ (l : List Nat) (r : List UInt8) (acc : List Nat), (∀ x ∈ l, x < 256) → needsS l.length (l.map b1 ++ r, false) acc = (acc ++ l, (r, false)) := by
  intro l
  induction l with
  | nil => intro r acc _; simp [needsS]
  | cons a l ih =>
    intro r acc h
    rw [List.length_cons, needsS, List.map_cons, List.cons_append, T1_app (h a (List.mem_cons_self ..))]
    simp only
    rw [ih r _ (fun x hx => h x (List.mem_cons_of_mem _ hx))]
    simp
/-- What may be written so that it's read again. -/
structure Fine (o : PO) (i : Nat) : Prop where
  a : o.name.length < 65536
  b : o.arc.length < 65536
  c : ∀ y ∈ o.refs, y.length < 65536
  d : o.refs.length ≤ 16
  e : o.needs.length < 4
  f : ∀ x ∈ o.needs, x < i
theorem outS_app {o : PO} {i : Nat} (h : Fine o i) (hi : i < 256) (r : List UInt8) : outS i (outI o ++ r, false) = (o, true, (r, false)) := by
  unfold outS
  have e : outI o ++ r = textI o.name ++ (textI o.arc ++ (textsI o.refs ++ (b1 o.needs.length :: (o.needs.map b1 ++ r)))) := by
    unfold outI; simp only [List.append_assoc, List.cons_append]
  have hd := h.d
  have he := h.e
  rw [e]
  simp only [TX_app h.a, TX_app h.b, TS_app h.c hd (by omega), T1_app (show o.needs.length < 256 by omega)]
  rw [if_neg (by omega), needsS_app o.needs r [] (fun x hx => by have := h.f x hx; omega)]
  simp only [List.nil_append]
  have : (o.needs.all fun x => decide (x < i)) = true := List.all_eq_true.2 fun x hx => decide_eq_true (h.f x hx)
  rw [this]
theorem outsL_app : ∀ (l : List PO) (i : Nat) (r : List UInt8) (acc : List PO), (∀ (j : Nat) o, l[j]? = some o → Fine o (i + j)) → i + l.length < 256 → outsL l.length i ((l.map outI).flatten ++ r, false) acc = (some (acc ++ l), (r, false)) := by
  intro l
  induction l with
  | nil => intro i r acc _ _; simp [outsL]
  | cons o l ih =>
    intro i r acc h hl
    simp only [List.length_cons] at hl
    rw [List.length_cons, outsL, List.map_cons, List.flatten_cons, List.append_assoc, outS_app (i := i) (h 0 o rfl) (by omega)]
    simp only [if_true]
    rw [ih (i + 1) r _ (fun j o ho => by have := h (j + 1) o (by simpa using ho); rwa [show i + 1 + j = i + (j + 1) by omega]) (by omega)]
    simp
theorem outsS_app {l : List PO} (h : ∀ (j : Nat) o, l[j]? = some o → Fine o j) (h1 : 1 ≤ l.length) (h4 : l.length ≤ 4) (r : List UInt8) : outsS (b1 l.length :: ((l.map outI).flatten ++ r), false) = (some l, (r, false)) := by
  unfold outsS
  simp only [T1_app (show l.length < 256 by omega)]
  rw [if_neg (by omega), outsL_app l 0 r [] (fun j o ho => by rw [Nat.zero_add]; exact h j o ho) (by omega)]
  rfl
/-- What a kind keeps of a request. -/
def keepR (r : PR) : PR :=
  if r.kind = 1 then ⟨1, r.root, [], r.body, r.refs, []⟩ else if pathedP r.kind = true then ⟨r.kind, [], r.path, [], [], []⟩ else if r.kind = 7 then ⟨7, [], [], [], [], r.outs⟩ else ⟨r.kind, [], [], [], [], []⟩
structure FineR (r : PR) : Prop where
  k : 1 ≤ r.kind ∧ r.kind ≤ 12
  a : r.root.length < 65536
  p : r.path.length < 65536
  b : r.body.length < 65536
  c : ∀ y ∈ r.refs, y.length < 65536
  d : r.refs.length ≤ 16
  o : r.kind = 7 → 1 ≤ r.outs.length ∧ r.outs.length ≤ 4 ∧ ∀ (j : Nat) o, r.outs[j]? = some o → Fine o j
theorem finP_nil (r : PR) : finP r ([], false) = (r, 0) := rfl
theorem decP_encP {r : PR} (h : FineR r) (hl : (encP r).length ≤ 2048) : decP (encP r) = (keepR r, 0) := by
  unfold decP
  rw [if_neg (by omega)]
  have hk := h.k
  unfold encP keepR
  rw [List.singleton_append, T1_app (by omega)]
  unfold bodyP
  simp only
  by_cases h1 : r.kind = 1
  · have hp : pathedP 1 = false := rfl
    rw [if_pos h1, if_pos h1, if_pos h1, h1, hp, if_neg (by simp), if_neg (by decide), List.append_nil]
    have hd := h.d
    have e : textI r.root ++ (textI r.body ++ textsI r.refs) = textI r.root ++ (textI r.body ++ (textsI r.refs ++ [])) := by simp
    rw [List.append_nil, e]
    simp only [TX_app h.a, TX_app h.b, TS_app h.c hd (by omega)]
    rfl
  · rw [if_neg h1, if_neg h1, if_neg h1, List.nil_append]
    cases hp : pathedP r.kind with
    | true =>
      have h7 : r.kind ≠ 7 := by rintro h; rw [h] at hp; cases hp
      rw [if_pos rfl, if_pos rfl, if_pos rfl, if_neg h7]
      simp only [TX_app h.p]
      rfl
    | false =>
      simp only [Bool.false_eq_true, if_false, List.nil_append]
      by_cases h7 : r.kind = 7
      · rw [if_pos h7, if_pos h7, if_pos h7]
        obtain ⟨o1, o2, o3⟩ := h.o h7
        have e : b1 r.outs.length :: (r.outs.map outI).flatten = b1 r.outs.length :: ((r.outs.map outI).flatten ++ []) := by simp
        rw [e, outsS_app o3 o1 o2]
        rfl
      · rw [if_neg h7, if_neg h7, if_neg h7]
        have hn : nameOf r.kind ≠ [] := by
          obtain ⟨k, hk'⟩ : ∃ k, k = r.kind := ⟨_, rfl⟩
          rw [← hk'] at hk ⊢
          have : ∀ k : Fin 13, 1 ≤ k.val → nameOf k.val ≠ [] := by decide
          exact this ⟨k, by omega⟩ hk.1
        rw [if_neg hn]
        rfl
end Go.Proofs.YtcnigofmjffamaaDoor
