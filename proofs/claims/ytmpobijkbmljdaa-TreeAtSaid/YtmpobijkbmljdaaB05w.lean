import Derived.Test.YtmpobijkbmljdaaB05a
import Derived.Test.YtmpobijkbmljdaaBF
set_option maxRecDepth 100000
set_option linter.unusedVariables false
set_option linter.unusedSimpArgs false
namespace Go.Proofs.Ytmpobijkbmljdaa
open Go.Proofs.Ytmpobijkbmljdaa.Sh Go.Proofs.Ytmpobijkbmljdaa.Sh.V Go.RowKit
/-! ### Bytes as numbers -/
def numA (x : Nat) (l : List UInt8) : Nat := l.foldl (fun x b => x * 256 % 18446744073709551616 + b.toNat) x
theorem numA_lt {x : Nat} (hx : x < 18446744073709551616) (l : List UInt8) : numA x l < 18446744073709551616 := by
  induction l generalizing x with
  | nil => exact hx
  | cons b l ih =>
    have := b.toNat_lt
    exact ih (x := x * 256 % 18446744073709551616 + b.toNat) (by omega)
theorem numA_snoc (x : Nat) (l : List UInt8) (b : UInt8) : numA x (l ++ [b]) = numA x l * 256 % 18446744073709551616 + b.toNat := by
  simp [numA, List.foldl_append]
theorem numA_take {l : List UInt8} {i : Nat} {b : UInt8} (h : l[i]? = some b) : numA 0 (l.take (i + 1)) = numA 0 (l.take i) * 256 % 18446744073709551616 + b.toNat := by
  obtain ⟨hlt, he⟩ := List.getElem?_eq_some_iff.1 h
  rw [List.take_succ_eq_append_getElem hlt, numA_snoc, he]
/-! ### The reader -/
/-- A reader in the object k: what isn't read, has it failed? -/
def RS (T : TypeId) (H : VH) (k : Nat) (l : List UInt8) (f : Bool) : Prop := ∃ s, H[k]? = some (.row T [.sl 5 s, .bool f]) ∧ IsB s l
theorem RS.keep {T : TypeId} {H H' : VH} {X : List Nat} {k : Nat} {l : List UInt8} {f : Bool} (h : RS T H k l f) (kp : Kp H H' X) (hx : k ∉ X) : RS T H' k l f := by
  obtain ⟨s, h1, h2⟩ := h; exact ⟨s, kp.ob h1 hx, h2⟩
/-- What is left when so many bytes are taken; the bytes. -/
def takeS (n : Nat) (l : List UInt8) (f : Bool) : List UInt8 × List UInt8 × Bool :=
  if f = true then ([], l, true) else if l.length < n then ([], [], true) else (l.take n, l.drop n, false)
theorem takeS_len (c : Nat) (l : List UInt8) (f : Bool) : (takeS c l f).1.length ≤ c := by
  unfold takeS
  split
  · simp
  · split
    · simp
    · simp only [List.length_take]; omega
theorem numA1 {l : List UInt8} (h : l.length ≤ 1) : numA 0 l < 256 := by
  match l, h with
  | [], _ => decide
  | [b], _ => have := b.toNat_lt; simpa [numA] using this
theorem numA2 {l : List UInt8} (h : l.length ≤ 2) : numA 0 l < 65536 := by
  match l, h with
  | [], _ => decide
  | [b], _ => have := b.toNat_lt; simp [numA]; omega
  | [a, b], _ => have := b.toNat_lt; have := a.toNat_lt; simp [numA]; omega
/-- A text. -/
def textS (l : List UInt8) (f : Bool) : List UInt8 × List UInt8 × Bool :=
  takeS (numA 0 (takeS 2 l f).1) (takeS 2 l f).2.1 (takeS 2 l f).2.2
/-- Texts as elements. -/
def ss (ls : List (List UInt8)) : List (List V) := ls.map fun l => [.str ⟨l.toArray⟩]
theorem ss_len (ls : List (List UInt8)) : (ss ls).length = ls.length := by simp [ss]
/-- So many texts; none, if there aren't so many. -/
def textsL : Nat → List UInt8 → Bool → List (List UInt8) → List (List UInt8) × List UInt8 × Bool
  | 0, l, f, acc => (if f = true then [] else acc, l, f)
  | n + 1, l, f, acc => if f = true then ([], l, true) else if (textS l f).2.2 = true then ([], (textS l f).2.1, true) else textsL n (textS l f).2.1 false (acc ++ [(textS l f).1])
theorem textS_fail (l : List UInt8) : textS l true = ([], l, true) := by simp [textS, takeS]
/-- As many texts as it says, but not more than so many. -/
def textsS (most : Nat) (l : List UInt8) (f : Bool) : List (List UInt8) × List UInt8 × Bool :=
  if most < numA 0 (takeS 1 l f).1 ∧ (takeS 1 l f).2.2 = false then textsL (numA 0 (takeS 1 l f).1) [] true []
  else textsL (numA 0 (takeS 1 l f).1) (takeS 1 l f).2.1 (takeS 1 l f).2.2 []
theorem takeS_inv (c : Nat) {l : List UInt8} {f : Bool} (h : f = true → l = []) : (takeS c l f).2.2 = true → (takeS c l f).2.1 = [] := by
  unfold takeS
  split
  · intro _; exact h (by assumption)
  · split
    · intro _; rfl
    · intro h; cases h
/-- What End says. -/
def endS (l : List UInt8) (f : Bool) : Nat := if f = true ∨ l ≠ [] then 2 else 0
theorem textS_inv {l : List UInt8} {f : Bool} (h : f = true → l = []) : (textS l f).2.2 = true → (textS l f).2.1 = [] := takeS_inv _ (takeS_inv _ h)
theorem RS.flag {T : TypeId} {H : VH} {k : Nat} {l : List UInt8} {f : Bool} (h : RS T H k l f) : ldV (.flat .bool) H (.ob k 1) = some f := by
  obtain ⟨s, h1, h2⟩ := h
  rw [ld_row h1]; rfl
theorem RS.left {T : TypeId} {H : VH} {k : Nat} {l : List UInt8} {f : Bool} (h : RS T H k l f) : ∃ s, ldV (.flat (.slice 5)) H (.ob k 0) = some s ∧ IsB s l := by
  obtain ⟨s, h1, h2⟩ := h
  rw [ld_row h1]
  simp only [List.getElem?_cons_zero, Option.bind_some, fd_sl]
  exact ⟨s, rfl, h2⟩
theorem textsL_fail (n : Nat) (l : List UInt8) (acc : List (List UInt8)) : textsL n l true acc = ([], l, true) := by
  cases n <;> simp [textsL]
theorem numA_fail {c : Nat} {l : List UInt8} {f : Bool} (h : (takeS c l f).2.2 = true) : (takeS c l f).1 = [] := by
  unfold takeS at h ⊢
  split
  · rfl
  · split
    · rfl
    · simp_all
theorem rdS {s : VS} {ls : List (List UInt8)} (h : IsE s (ss ls)) {i : Nat} {l : List UInt8} (hb : ls[i]? = some l) (H : VH) {β : Type} (f : ByteArray → Option β) : ((ixV 1 s (i : Int)).bind fun p => (ldV (.flat .str) H p).bind f) = f ⟨l.toArray⟩ := by
  rw [h.ix (y := [.str ⟨l.toArray⟩]) (by simp [ss, hb]) 1, Option.bind_some]
  rfl
theorem l43 (n : Nat) {H : VH} {s t : VS} {ls : List (List UInt8)} (hs : IsE s (ss ls)) (ht : IsE t (ss ls)) (hl : ls.length < 1000000) : ∀ (m i : Nat), i ≤ ls.length → ls.length < i + m → L43_0 n m s t (i : Int) H = some (.bool true, H) := by
  intro m
  induction m with
  | zero => intro i h1 h2; omega
  | succ m ih =>
    intro i h1 h2
    rw [L43_0_eq, hs.len, ss_len]
    by_cases hi : i < ls.length
    · rw [decide_eq_true (by omega), cond_true]
      obtain ⟨l, hb⟩ : ∃ b, ls[i]? = some b := ⟨_, List.getElem?_eq_getElem hi⟩
      rw [rdS hs hb, rdS ht hb, strEq_iff]
      simp only [decide_true, Bool.not_true, cond_false]
      have e3 : IntKind.wrap .i64 ((i : Int) + 1) = ((i + 1 : Nat) : Int) := by rw [i64_in (by omega)]; rfl
      rw [e3]
      exact ih (i + 1) (by omega) (by omega)
    · rw [decide_eq_false (by omega), cond_false]
theorem closed_sl (e : TypeId) {s : VS} {es : List (List V)} (hs : IsE s es) : closedC (.sl e s) = true := by
  cases hs <;> rfl
theorem e43 (n : Nat) {H : VH} {s t : VS} {ls : List (List UInt8)} (hs : IsE s (ss ls)) (ht : IsE t (ss ls)) (hl : ls.length < 1000000) (hn : ls.length < n) : vF P tab (n + 1) 43 [.sl 9 s, .sl 9 t] H = some (.bool true, H) := by
  refine vF_lone (r := .bool true) (H1 := []) rfl (by simp [closed_sl 9 hs, closed_sl 9 ht]) ?_ rfl
  show bodyV P tab (vF P tab n) n 43 [.sl 9 s.strip, .sl 9 t.strip] [] = _
  rw [f43_eq, hs.strip.len, ht.strip.len]
  simp only [bne_self_eq_false, cond_false]
  exact l43 n hs.strip ht.strip hl n 0 (by omega) (by omega)
theorem stays_nil (H : VH) : V.stays H [] = true := rfl
theorem stays_flag {T : TypeId} {H : VH} {k : Nat} {l : List UInt8} {f : Bool} (h : RS T H k l f) : V.stays H [(.ob k 1, .bool, .bool f)] = true := by
  unfold V.stays
  rw [h.flag]
  simp only [V.fenc, same_self, stays_nil, Bool.and_true]
theorem stays_both {T : TypeId} {H : VH} {k : Nat} {l : List UInt8} {f : Bool} (h : RS T H k l f) {s : VS} (hs : ldV (.flat (.slice 5)) H (.ob k 0) = some s) : V.stays H [(.ob k 0, .slice 5, .sl 5 s), (.ob k 1, .bool, .bool f)] = true := by
  unfold V.stays
  rw [hs, stays_flag h]
  simp only [V.fenc, same_self, Bool.and_true]
theorem textsL_len : ∀ (n : Nat) (l : List UInt8) (f : Bool) (acc : List (List UInt8)), (textsL n l f acc).1.length ≤ acc.length + n := by
  intro n
  induction n with
  | zero => intro l f acc; unfold textsL; split <;> simp
  | succ n ih =>
    intro l f acc
    unfold textsL
    split
    · simp
    · split
      · simp
      · refine Nat.le_trans (ih _ _ _) ?_
        simp only [List.length_append, List.length_cons, List.length_nil]; omega
theorem textsS_len (most : Nat) (l : List UInt8) (f : Bool) : (textsS most l f).1.length < 256 := by
  have := numA1 (takeS_len 1 l f)
  unfold textsS
  split
  · have := textsL_len (numA 0 (takeS 1 l f).1) [] true []
    simp only [List.length_nil] at this; omega
  · have := textsL_len (numA 0 (takeS 1 l f).1) (takeS 1 l f).2.1 (takeS 1 l f).2.2 []
    simp only [List.length_nil] at this; omega
theorem rdP {s : VS} {l : List UInt8} (h : IsB s l) {i : Nat} {b : UInt8} (hb : l[i]? = some b) {H : VH} {β : Type} (f : VP → Int → Option β) : ((ixV 1 s (i : Int)).bind fun p => (ldV (.flat (.int .u8)) H p).bind (f p)) = f (.fz (bc b)) (b.toNat : Int) := by
  rw [h.ix (y := bc b) (by simp [bs, hb]) 1, Option.bind_some]
  rfl
theorem stays_fz (H : VH) (c1 c2 : List V) (t1 t2 : List V.FT) (v1 v2 : List V) : V.stays H (heldOf (.fz c1) t1 v1 ++ (heldOf (.fz c2) t2 v2 ++ [])) = true := by
  unfold heldOf
  exact stays_nil H
/-! ### The writer -/
theorem kp_next {H H1 H2 : VH} {k : Nat} {T T1 : List Nat} (a : Kp H H1 (k :: T)) (b : Kp H1 H2 (k :: T1)) (h : ∀ t ∈ T1, t ∈ T ∨ H.length ≤ t) : Kp H H2 (k :: T) :=
  a.trans b (fun x hx _ => hx) (fun y hy hl => by
    rcases List.mem_cons.1 hy with rfl | hy
    · exact List.mem_cons_self ..
    · rcases h y hy with h1 | h1
      · exact List.mem_cons_of_mem _ h1
      · omega)
theorem tk_next {H H1 : VH} {T T1 T2 : List Nat} {X : List Nat} (a : Kp H H1 X) (h : ∀ t ∈ T1, t ∈ T ∨ H.length ≤ t) (h2 : ∀ t ∈ T2, t ∈ T1 ∨ H1.length ≤ t) : ∀ t ∈ T2, t ∈ T ∨ H.length ≤ t := by
  intro t ht
  have := a.len
  rcases h2 t ht with h3 | h3
  · exact h t h3
  · exact .inr (by omega)
def numI (x : Int) : List UInt8 := [u8 (x / 256), u8 x]
theorem shr8 (x : Int) : shrI .i64 x 8 = some (x / 256) := by
  unfold shrI
  rw [if_neg (by omega)]
  show some (x.fdiv (2 ^ 8)) = _
  rw [Int.fdiv_eq_ediv_of_nonneg _ (by decide)]
  rfl
def wideN (x : Nat) (i : Nat) : List UInt8 := (List.range i).map fun j => UInt8.ofNat (x / 2 ^ (56 - 8 * j) % 256)
def wideI (x : Nat) : List UInt8 := wideN x 8
theorem wideN_succ (x i : Nat) : wideN x (i + 1) = wideN x i ++ [UInt8.ofNat (x / 2 ^ (56 - 8 * i) % 256)] := by simp [wideN, List.range_succ]
theorem wideN_len (x i : Nat) : (wideN x i).length = i := by simp [wideN]
theorem u8_ofNat (n : Nat) : u8 (n : Int) = UInt8.ofNat (n % 256) := by
  unfold u8
  congr 1
def textI (s : List UInt8) : List UInt8 := numI (s.length : Int) ++ s
theorem textI_len (s : List UInt8) : (textI s).length = 2 + s.length := by simp [textI, numI]; omega
def textsI (ls : List (List UInt8)) : List UInt8 := u8 (ls.length : Int) :: (ls.map textI).flatten
def szs (ls : List (List UInt8)) : Nat := ((ls.map textI).flatten).length
theorem szs_take (ls : List (List UInt8)) (i : Nat) : (((ls.take i).map textI).flatten).length ≤ szs ls := by
  conv => rhs; rw [szs, ← List.take_append_drop i ls]
  simp only [List.map_append, List.flatten_append, List.length_append]
  omega
/-! ### The document's bytes -/
theorem l42 (n : Nat) {H : VH} {s t : VS} {l r : List UInt8} (hs : IsB s l) (ht : IsB t r) (hl : l.length = r.length) (hb : l.length ≤ maxLen) : ∀ (m i : Nat), i ≤ l.length → l.length < i + m → L42_0 n m s t (i : Int) H = some (.bool (decide (l.drop i = r.drop i)), H) := by
  have hm := maxLen_eq
  intro m
  induction m with
  | zero => intro i h1 h2; omega
  | succ m ih =>
    intro i h1 h2
    rw [L42_0_eq, hs.len, bs_len]
    by_cases hi : i < l.length
    · rw [decide_eq_true (by omega), cond_true]
      obtain ⟨a, ha⟩ := get_of hi
      obtain ⟨b, hb⟩ := get_of (l := r) (i := i) (by omega)
      rw [hs.rd ha, ht.rd hb]
      have e1 : l.drop i = a :: l.drop (i + 1) := by rw [List.drop_eq_getElem_cons hi]; rw [List.getElem?_eq_getElem hi] at ha; injection ha with ha; rw [ha]
      have e2 : r.drop i = b :: r.drop (i + 1) := by
        have hi2 : i < r.length := by omega
        rw [List.drop_eq_getElem_cons hi2]; rw [List.getElem?_eq_getElem hi2] at hb; injection hb with hb; rw [hb]
      by_cases hab : a = b
      · subst hab
        simp only [bne_self_eq_false, cond_false]
        rw [inc_nat (by omega), ih (i + 1) (by omega) (by omega), e1, e2]
        simp
      · have : (((a.toNat : Int)) != (b.toNat : Int)) = true := by
          simp only [bne_iff_ne, ne_eq]
          intro h
          exact hab (UInt8.toNat_inj.1 (by omega))
        rw [this, cond_true, e1, e2, decide_eq_false (by intro h; injection h with h; exact hab h)]
    · rw [decide_eq_false (by omega), cond_false, List.drop_eq_nil_of_le (by omega), List.drop_eq_nil_of_le (by omega)]
      simp
theorem e42 (n : Nat) {H : VH} {s t : VS} {l r : List UInt8} (hs : IsB s l) (ht : IsB t r) (hb : l.length ≤ maxLen) (hn : l.length < n) : vF P tab (n + 1) 42 [.sl 5 s, .sl 5 t] H = some (.bool (decide (l = r)), H) := by
  refine vF_lone (r := .bool (decide (l = r))) (H1 := []) rfl (by simp [closed_sl 5 hs, closed_sl 5 ht]) ?_ rfl
  show bodyV P tab (vF P tab n) n 42 [.sl 5 s.strip, .sl 5 t.strip] [] = _
  rw [f42_eq, hs.strip.len, ht.strip.len, bs_len, bs_len]
  by_cases h : l.length = r.length
  · rw [h]
    simp only [bne_self_eq_false, cond_false]
    have := l42 n (H := []) hs.strip ht.strip h hb n 0 (by omega) (by omega)
    simpa using this
  · have h1 : (((l.length : Nat) : Int) != ((r.length : Nat) : Int)) = true := by simp only [bne_iff_ne, ne_eq]; omega
    rw [h1, cond_true, decide_eq_false (by intro h2; exact h (by rw [h2]))]
/-! ### What is read back -/
theorem takeS_app (p r : List UInt8) {c : Nat} (h : p.length = c) : takeS c (p ++ r) false = (p, r, false) := by
  unfold takeS
  rw [if_neg (by simp), if_neg (by simp only [List.length_append]; omega)]
  subst h
  simp
theorem numA_numI (x : Int) : numA 0 (numI x) = (x % 65536).toNat := by
  simp only [numA, numI, List.foldl_cons, List.foldl_nil, u8, UInt8.toNat_ofNat']
  omega
theorem numA_wideN {x : Nat} (hx : x < 18446744073709551616) : ∀ i, i ≤ 8 → numA 0 (wideN x i) = x / 2 ^ (64 - 8 * i) := by
  intro i
  induction i with
  | zero => intro _; simp only [wideN, List.range_zero, List.map_nil, numA, List.foldl_nil, Nat.mul_zero, Nat.sub_zero]; exact (Nat.div_eq_of_lt hx).symm
  | succ i ih =>
    intro h
    rw [wideN_succ, numA_snoc, ih (by omega), UInt8.toNat_ofNat']
    have e1 : x / 2 ^ (64 - 8 * i) = x / 2 ^ (56 - 8 * i) / 256 := by
      rw [Nat.div_div_eq_div_mul]
      congr 1
      rw [show 64 - 8 * i = (56 - 8 * i) + 8 by omega, Nat.pow_add]
    have e2 : 64 - 8 * (i + 1) = 56 - 8 * i := by omega
    have e3 : x / 2 ^ (56 - 8 * i) ≤ x := Nat.div_le_self _ _
    rw [e1, e2]
    generalize x / 2 ^ (56 - 8 * i) = y at *
    omega
theorem numA_wide {x : Nat} (hx : x < 18446744073709551616) : numA 0 (wideI x) = x := by
  have := numA_wideN hx 8 (by omega)
  simpa [wideI] using this
theorem textS_app (s r : List UInt8) (h : s.length < 65536) : textS (textI s ++ r) false = (s, r, false) := by
  unfold textS
  have e1 : takeS 2 (textI s ++ r) false = (numI (s.length : Int), s ++ r, false) := by
    rw [textI, List.append_assoc]
    exact takeS_app _ _ (by simp [numI])
  rw [e1]
  simp only [numA_numI]
  exact takeS_app _ _ (by omega)
theorem textsL_app : ∀ (ls : List (List UInt8)) (r : List UInt8) (acc : List (List UInt8)), (∀ y ∈ ls, y.length < 65536) → textsL ls.length ((ls.map textI).flatten ++ r) false acc = (acc ++ ls, r, false) := by
  intro ls
  induction ls with
  | nil => intro r acc _; simp [textsL]
  | cons a ls ih =>
    intro r acc h
    have e : ((a :: ls).map textI).flatten ++ r = textI a ++ ((ls.map textI).flatten ++ r) := by simp
    rw [List.length_cons, textsL, if_neg (by simp), e, textS_app a _ (h a (List.mem_cons_self ..))]
    simp only [Bool.false_eq_true, if_false]
    rw [ih r (acc ++ [a]) (fun y hy => h y (List.mem_cons_of_mem _ hy))]
    simp
theorem textsS_app (ls : List (List UInt8)) (r : List UInt8) (most : Nat) (h : ∀ y ∈ ls, y.length < 65536) (h1 : ls.length ≤ most) (h2 : ls.length < 256) : textsS most (textsI ls ++ r) false = (ls, r, false) := by
  have e1 : takeS 1 (textsI ls ++ r) false = ([u8 (ls.length : Int)], (ls.map textI).flatten ++ r, false) := by
    rw [textsI, List.cons_append]
    exact takeS_app [_] _ rfl
  have e2 : numA 0 [u8 (ls.length : Int)] = ls.length := by
    simp only [numA, List.foldl_cons, List.foldl_nil, u8_nat]; omega
  unfold textsS
  rw [e1]
  simp only [e2]
  rw [if_neg (by omega), textsL_app ls r [] h]
  simp
/-! ### bytes.Clone, NewReader, Bytes: what is copied stays -/
/-! ### Numbers with a point -/
theorem tobits (a : Nat) : pvD P (.int .u64) (ext28 #[.float .f64 a]) = some (a : Int) := by kernel_rfl
theorem ofbits (a : Nat) : pvD P (.flt .f64) (ext23 #[.int .u64 (a : Int)]) = some a := by kernel_rfl
theorem ofnan : pvD P (.flt .f64) (ext23 #[.int .u64 9221120237041090561]) = some 9221120237041090561 := by kernel_rfl
theorem e46 (n : Nat) (a : Nat) (H : VH) : vF P tab (n + 1) 46 [.flt .f64 a] H = some (.flt .f64 (canonB a), H) := by
  have h : bodyV P tab (vF P tab n) n 46 ([.flt .f64 a].map stripC) [] = some (.flt .f64 (canonB a), []) := by
    show bodyV P tab (vF P tab n) n 46 [.flt .f64 a] [] = _
    rw [f46_eq, fne, Option.bind_some, order_self]
    by_cases hn : isNaN a
    · rw [decide_eq_true hn, cond_true, ofnan]
      unfold canonB; rw [if_pos hn]; rfl
    · rw [decide_eq_false hn, cond_false, feq, Option.bind_some, order_zero hn]
      unfold canonB; rw [if_neg hn]
      by_cases h0 : rung a = 0
      · rw [decide_eq_true h0, if_pos h0]; rfl
      · rw [decide_eq_false h0, if_neg h0]; rfl
  rw [vF_lone rfl rfl h rfl]; rfl
theorem c46 (n : Nat) (a : Nat) (H : VH) : V.callD (vF P tab (n + 1)) P false (.one (.flat (.flt .f64))) 46 [.flt .f64 a] H = some (canonB a, H) := callD_some _ (e46 n a H) rfl
theorem e57 (n : Nat) (a : Nat) (H : VH) : vF P tab (n + 2) 57 [.flt .f64 a] H = some (.int .u64 (canonB a : Int), H) := by
  have h : bodyV P tab (vF P tab (n + 1)) (n + 1) 57 ([.flt .f64 a].map stripC) [] = some (.int .u64 (canonB a : Int), []) := by
    show bodyV P tab (vF P tab (n + 1)) (n + 1) 57 [.flt .f64 a] [] = _
    rw [f57_eq, c46, Option.bind_some, tobits]; rfl
  rw [vF_lone rfl rfl h rfl]; rfl
theorem c57 (n : Nat) (a : Nat) (H : VH) : V.callD (vF P tab (n + 2)) P false (.one (.flat (.int .u64))) 57 [.flt .f64 a] H = some ((canonB a : Int), H) := callD_int (e57 n a H)
/-- The error of bits. -/
def ofE (b : Nat) : Nat := if canonB b = b then 0 else 2
def ofX (b : Nat) : Nat := if canonB b = b then b else 0
theorem e38 (n : Nat) (a b : Nat) (H : VH) : vF P tab (n + 3) 38 [.flt .f64 a, .flt .f64 b] H = some (.bool (decide (canonB a = canonB b)), H) := by
  have h : bodyV P tab (vF P tab (n + 2)) (n + 2) 38 ([.flt .f64 a, .flt .f64 b].map stripC) [] = some (.bool (decide (canonB a = canonB b)), []) := by
    show bodyV P tab (vF P tab (n + 2)) (n + 2) 38 [.flt .f64 a, .flt .f64 b] [] = _
    rw [f38_eq, c57, Option.bind_some, c57, Option.bind_some]
    have : ((canonB a : Int) == (canonB b : Int)) = decide (canonB a = canonB b) := by
      by_cases hc : canonB a = canonB b
      · rw [hc]; simp
      · rw [decide_eq_false hc]; simp; omega
    rw [this]
  rw [vF_lone rfl rfl h rfl]; rfl
theorem e24 (n : Nat) {a : Nat} (ha : a < 18446744073709551616) (H : VH) : vF P tab (n + 1) 24 [.flt .f64 a] H = some (.int .u64 (canonB a : Int), H) := by
  have h : bodyV P tab (vF P tab n) n 24 ([.flt .f64 a].map stripC) [] = some (.int .u64 (canonB a : Int), []) := by
    show bodyV P tab (vF P tab n) n 24 [.flt .f64 a] [] = _
    rw [f24_eq, tobits, Option.bind_some, canonB_ref ha]
    have hr : remI (a : Int) 9223372036854775808 = some ((a % 9223372036854775808 : Nat) : Int) := by
      unfold remI; simp [Int.tmod_eq_emod_of_nonneg]
    rw [hr, Option.bind_some]
    by_cases h1 : 9218868437227405312 < a % 9223372036854775808
    · have : decide (((a % 9223372036854775808 : Nat) : Int) > 9218868437227405312) = true := decide_eq_true (by omega)
      rw [this, if_pos h1]; rfl
    · have : decide (((a % 9223372036854775808 : Nat) : Int) > 9218868437227405312) = false := decide_eq_false (by omega)
      rw [this, if_neg h1, cond_false]
      by_cases h2 : a = 9223372036854775808
      · subst h2; rfl
      · have : ((a : Int) == 9223372036854775808) = false := by simp; omega
        rw [this, if_neg h2]; rfl
  rw [vF_lone rfl rfl h rfl]; rfl
theorem c24 (n : Nat) {a : Nat} (ha : a < 18446744073709551616) (H : VH) : V.callD (vF P tab (n + 1)) P false (.one (.flat (.int .u64))) 24 [.flt .f64 a] H = some ((canonB a : Int), H) := callD_int (e24 n ha H)
theorem ofE_ref {b : Nat} (hb : b < 18446744073709551616) : ofE b = if 9218868437227405312 < b % 9223372036854775808 ∧ b ≠ 9221120237041090561 ∨ b = 9223372036854775808 then 2 else 0 := by
  unfold ofE
  rw [canonB_ref hb]
  by_cases h1 : 9218868437227405312 < b % 9223372036854775808
  · rw [if_pos h1]
    by_cases h2 : b = 9221120237041090561
    · subst h2; rfl
    · rw [if_neg (fun e => h2 e.symm), if_pos (.inl ⟨h1, h2⟩)]
  · rw [if_neg h1]
    by_cases h2 : b = 9223372036854775808
    · subst h2; rfl
    · rw [if_neg h2, if_pos rfl, if_neg (by rintro (h | h); exact h1 h.1; exact h2 h)]
theorem ofX_of (b : Nat) : ofX b = if ofE b = 0 then b else 0 := by
  unfold ofX ofE
  split <;> rfl
/-! ### Lists of texts, alike or not -/
theorem dcons {α : Type} [DecidableEq α] {a b : List α} {i : Nat} {x y : α} (hx : a[i]? = some x) (hy : b[i]? = some y) : decide (a.drop i = b.drop i) = cond (decide (x = y)) (decide (a.drop (i + 1) = b.drop (i + 1))) false := by
  obtain ⟨h1, h2⟩ := List.getElem?_eq_some_iff.1 hx
  obtain ⟨h3, h4⟩ := List.getElem?_eq_some_iff.1 hy
  rw [List.drop_eq_getElem_cons h1, List.drop_eq_getElem_cons h3, h2, h4]
  by_cases e : x = y
  · subst e; simp
  · simp [e]
theorem l55d (n : Nat) {H : VH} {s t : VS} {a b : List (List UInt8)} (hs : IsE s (ss a)) (ht : IsE t (ss b)) (hab : a.length = b.length) (hl : a.length < 1000000) : ∀ (m i : Nat), i ≤ a.length → a.length < i + m → L43_0 n m s t (i : Int) H = some (.bool (decide (a.drop i = b.drop i)), H) := by
  intro m
  induction m with
  | zero => intro i h1 h2; omega
  | succ m ih =>
    intro i h1 h2
    rw [L43_0_eq, hs.len, ss_len]
    by_cases hi : i < a.length
    · have hdt : decide ((i : Int) < (a.length : Int)) = true := decide_eq_true (by omega)
      obtain ⟨x, hx⟩ : ∃ x, a[i]? = some x := ⟨_, List.getElem?_eq_getElem hi⟩
      obtain ⟨y, hy⟩ : ∃ y, b[i]? = some y := ⟨_, List.getElem?_eq_getElem (by omega)⟩
      rw [hdt, cond_true, rdS hs hx, rdS ht hy, strEq_iff, dcons hx hy]
      cases decide (x = y) with
      | false => rfl
      | true =>
        rw [Bool.not_true, cond_false, cond_true, inc_nat (by omega)]
        exact ih (i + 1) (by omega) (by omega)
    · have hdt : decide ((i : Int) < (a.length : Int)) = false := decide_eq_false (by omega)
      rw [hdt, cond_false, List.drop_eq_nil_of_le (by omega), List.drop_eq_nil_of_le (by omega)]
      rfl
theorem l67d (n : Nat) {H : VH} {s t : VS} {a b : List (List UInt8)} (hs : IsE s (ss a)) (ht : IsE t (ss b)) (hab : a.length = b.length) (hl : a.length < 1000000) : ∀ (m i : Nat), i ≤ a.length → a.length < i + m → L40_0 n m s t (a.length : Int) (i : Int) H = some (.bool (decide (a.drop i = b.drop i)), H) := by
  intro m
  induction m with
  | zero => intro i h1 h2; omega
  | succ m ih =>
    intro i h1 h2
    rw [L40_0_eq]
    by_cases hi : i < a.length
    · have hdt : decide ((i : Int) < (a.length : Int)) = true := decide_eq_true (by omega)
      obtain ⟨x, hx⟩ : ∃ x, a[i]? = some x := ⟨_, List.getElem?_eq_getElem hi⟩
      obtain ⟨y, hy⟩ : ∃ y, b[i]? = some y := ⟨_, List.getElem?_eq_getElem (by omega)⟩
      rw [hdt, cond_true, rdS hs hx, rdS ht hy, strEq_iff, dcons hx hy]
      cases decide (x = y) with
      | false => rfl
      | true =>
        rw [Bool.not_true, cond_false, cond_true, inc_nat (by omega)]
        exact ih (i + 1) (by omega) (by omega)
    · have hdt : decide ((i : Int) < (a.length : Int)) = false := decide_eq_false (by omega)
      rw [hdt, cond_false, List.drop_eq_nil_of_le (by omega), List.drop_eq_nil_of_le (by omega)]
      rfl
theorem lenne {α : Type} [DecidableEq α] {a b : List α} (h : a.length ≠ b.length) : decide (a = b) = false := decide_eq_false (fun e => h (by rw [e]))
theorem c55d (n : Nat) {s t : VS} {a b : List (List UInt8)} (hs : IsE s (ss a)) (ht : IsE t (ss b)) (hl : a.length < 1000000) (hn : a.length < n) (H : VH) : V.callD (vF P tab (n + 1)) P false (.one (.flat .bool)) 43 [.sl 9 s, .sl 9 t] H = some (decide (a = b), H) := by
  refine callD_bool ?_
  refine vF_lone (r := .bool (decide (a = b))) (H1 := []) rfl (by simp [closed_sl 9 hs, closed_sl 9 ht]) ?_ rfl
  show bodyV P tab (vF P tab n) n 43 [.sl 9 s.strip, .sl 9 t.strip] [] = _
  rw [f43_eq, hs.strip.len, ht.strip.len, ss_len, ss_len]
  by_cases h : a.length = b.length
  · rw [h, show (((b.length : Nat) : Int) != ((b.length : Nat) : Int)) = false by simp, cond_false]
    exact l55d n hs.strip ht.strip h hl n 0 (by omega) (by omega)
  · rw [show (((a.length : Nat) : Int) != ((b.length : Nat) : Int)) = true by simp only [bne_iff_ne, ne_eq]; omega, cond_true, lenne h]
theorem c67d (n : Nat) {s t : VS} {a b : List (List UInt8)} (hs : IsE s (ss a)) (ht : IsE t (ss b)) (hl : a.length < 1000000) (hn : a.length < n) (H : VH) : V.callD (vF P tab (n + 1)) P false (.one (.flat .bool)) 40 [.sl 9 s, .sl 9 t] H = some (decide (a = b), H) := by
  refine callD_bool ?_
  refine vF_lone (r := .bool (decide (a = b))) (H1 := []) rfl (by simp [closed_sl 9 hs, closed_sl 9 ht]) ?_ rfl
  show bodyV P tab (vF P tab n) n 40 [.sl 9 s.strip, .sl 9 t.strip] [] = _
  rw [f40_eq, hs.strip.len, ht.strip.len, ss_len, ss_len]
  by_cases h : a.length = b.length
  · rw [show (((a.length : Nat) : Int) != ((b.length : Nat) : Int)) = false by rw [h]; simp, cond_false]
    exact l67d n hs.strip ht.strip h hl n 0 (by omega) (by omega)
  · rw [show (((a.length : Nat) : Int) != ((b.length : Nat) : Int)) = true by simp only [bne_iff_ne, ne_eq]; omega, cond_true, lenne h]
theorem c66d (n : Nat) {s t : VS} {a b : List UInt8} (hs : IsB s a) (ht : IsB t b) (H : VH) : V.callD (vF P tab (n + 1)) P false (.one (.flat .bool)) 39 [.sl 5 s, .sl 5 t] H = some (decide (a = b), H) := by
  refine callD_bool ?_
  refine vF_lone (r := .bool (decide (a = b))) (H1 := []) rfl (by simp [closed_sl 5 hs, closed_sl 5 ht]) ?_ rfl
  show bodyV P tab (vF P tab n) n 39 [.sl 5 s.strip, .sl 5 t.strip] [] = _
  rw [f39_eq, IsB.str hs.strip, Option.bind_some, IsB.str ht.strip, Option.bind_some, strEq_iff]
end Go.Proofs.Ytmpobijkbmljdaa
