import Derived.Test.YtmpobijkbmljdaaB05bf
import Derived.Test.YtmpobijkbmljdaaVc
set_option maxRecDepth 100000
set_option linter.unusedVariables false
set_option linter.unusedSimpArgs false
namespace Go.Proofs.Ytmpobijkbmljdaa
open Go.Proofs.Ytmpobijkbmljdaa.Sh Go.Proofs.Ytmpobijkbmljdaa.Sh.V Go.RowKit
/-! ### Looking up in rising names -/
theorem c64n (n : Nat) (a : ByteArray) (H : VH) : V.callD (vF P tab (n + 1)) P false (.one (.flat .bool)) 64 [.str a] H = some (false, H) := by
  refine callD_bool ?_
  rw [vF_body rfl, f64_eq, strEq_self]; rfl
theorem c60n (n : Nat) (a : ByteArray) (H : VH) : V.callD (vF P tab (n + 1)) P false (.one (.flat .bool)) 60 [.str a] H = some (false, H) := by
  refine callD_bool ?_
  rw [vF_body rfl, f60_eq, strEq_self]; rfl
theorem c59l (n : Nat) (a b : List UInt8) (H : VH) : V.callD (vF P tab (n + 2)) P false (.one (.flat .bool)) 59 [.str ⟨a.toArray⟩, .str ⟨b.toArray⟩] H = some (decide (a < b), H) := by
  refine callD_bool ?_
  rw [vF_body rfl, f59_eq, c64n, Option.bind_some]
  simp only [cond_false]
  rw [less_of]
theorem half (i j : Nat) (hij : i + j < 1000000) : shrI .u64 (IntKind.wrap .u64 (IntKind.wrap .i64 ((i : Int) + (j : Int)))) 1 = some (((i + j) / 2 : Nat) : Int) := by
  rw [show (i : Int) + (j : Int) = ((i + j : Nat) : Int) by omega, i64_nat (by omega), wrap_u64_nat (by omega)]
  unfold shrI
  rw [if_neg (by decide)]
  apply congrArg some
  show (((i + j : Nat) : Int)).fdiv 2 = _
  rw [Int.fdiv_eq_ediv_of_nonneg _ (by decide)]
  omega
theorem l49 (n : Nat) {s : VS} {names : List (List UInt8)} (hs : IsE s (names.map fun l => [V.str ⟨l.toArray⟩])) (hr : RiseL names) (hl : names.length < 10000) (t : List UInt8) (H : VH) : ∀ (m i j : Nat), i ≤ j → j ≤ names.length → j - i < m → (∀ (p : Nat) a, p < i → names[p]? = some a → a < t) → (∀ (p : Nat) a, j ≤ p → names[p]? = some a → ¬ a < t) →
    ∃ (k : Nat) (b : Bool), L49_0 (n + 2) m s ⟨t.toArray⟩ (names.length : Int) (i : Int) (j : Int) H = some (.tup [.int .i64 (k : Int), .bool b], H) ∧ (b = true → names[k]? = some t) ∧ (b = false → t ∉ names) := by
  have rd : ∀ {i : Nat} {l : List UInt8} (hb : names[i]? = some l) (H : VH) {β : Type} (f : ByteArray → Option β), ((ixV 1 s (i : Int)).bind fun p => (ldV (.flat .str) H p).bind f) = f ⟨l.toArray⟩ := by
    intro i l hb H β f
    rw [hs.ix (y := [.str ⟨l.toArray⟩]) (by simp [hb]) 1, Option.bind_some]; rfl
  intro m
  induction m with
  | zero => intros; omega
  | succ m ih =>
    intro i j hij hj hm hA hB
    rw [L49_0_eq]
    by_cases c : i < j
    · have hd : decide ((i : Int) < (j : Int)) = true := decide_eq_true (by omega)
      obtain ⟨x, hx⟩ : ∃ x, names[(i + j) / 2]? = some x := ⟨_, List.getElem?_eq_getElem (by omega)⟩
      rw [hd, cond_true, half i j (by omega), Option.bind_some, i64_nat (by omega), rd hx, c59l n, Option.bind_some]
      simp only
      by_cases hxt : x < t
      · rw [decide_eq_true hxt, cond_true, inc_nat (by omega)]
        refine ih ((i + j) / 2 + 1) j (by omega) hj (by omega) (fun p a hp ha => ?_) hB
        by_cases hpe : p = (i + j) / 2
        · subst hpe
          rw [hx] at ha; injection ha with ha; subst ha; exact hxt
        · exact List.lt_trans (hr p _ a x (by omega) ha hx) hxt
      · rw [decide_eq_false hxt, cond_false]
        refine ih i ((i + j) / 2) (by omega) (by omega) (by omega) hA (fun p a hp ha => ?_)
        by_cases hpe : p = (i + j) / 2
        · subst hpe
          rw [hx] at ha; injection ha with ha; subst ha; exact hxt
        · intro hat
          exact hxt (List.lt_trans (hr _ p x a (by omega) hx ha) hat)
    · have hd : decide ((i : Int) < (j : Int)) = false := decide_eq_false (by omega)
      have hij2 : i = j := by omega
      subst hij2
      rw [hd, cond_false]
      have out : (∀ x, names[i]? = some x → x ≠ t) → t ∉ names := fun hne hin => by
        obtain ⟨p, hp⟩ := List.getElem?_of_mem hin
        by_cases h1 : p < i
        · exact List.lt_irrefl _ (hA p t h1 hp)
        · by_cases h2 : p = i
          · subst h2; exact hne t hp rfl
          · obtain ⟨x, hx⟩ : ∃ x, names[i]? = some x := ⟨_, List.getElem?_eq_getElem (by have := (List.getElem?_eq_some_iff.1 hp).1; omega)⟩
            exact hB i x (by omega) hx (hr i p x t (by omega) hx hp)
      by_cases c2 : i < names.length
      · have hd2 : decide ((i : Int) < (names.length : Int)) = true := decide_eq_true (by omega)
        obtain ⟨x, hx⟩ := get_of c2
        rw [hd2, cond_true, rd hx, strEq_iff]
        by_cases he : x = t
        · rw [decide_eq_true he, cond_true]
          exact ⟨i, true, rfl, fun _ => (by rw [hx, he]), fun h => (by cases h)⟩
        · rw [decide_eq_false he, cond_false, rd hx, c60n (n + 1), Option.bind_some]
          exact ⟨i, false, rfl, fun h => (by cases h), fun _ => out (fun y hy => by rw [hx] at hy; injection hy with hy; subst hy; exact he)⟩
      · have hd2 : decide ((i : Int) < (names.length : Int)) = false := decide_eq_false (by omega)
        rw [hd2, cond_false]
        exact ⟨i, false, rfl, fun h => (by cases h), fun _ => out (fun y hy => by have := (List.getElem?_eq_some_iff.1 hy).1; omega)⟩
theorem c49 (n : Nat) {s : VS} {names : List (List UInt8)} (hs : IsE s (names.map fun l => [V.str ⟨l.toArray⟩])) (hr : RiseL names) (hl : names.length < 10000) (hn : 10000 ≤ n) (t : List UInt8) (H : VH) :
    ∃ (k : Nat) (b : Bool), V.callD (vF P tab (n + 3)) P false (.tup [(.flat (.int .i64)), (.flat .bool)]) 49 [.sl 9 s, .str ⟨t.toArray⟩] H = some (((k : Int), b, ()), H) ∧ (b = true → names[k]? = some t) ∧ (b = false → t ∉ names) := by
  obtain ⟨k, b, h1, h2, h3⟩ := l49 n hs.strip hr hl t [] (n + 2) 0 names.length (by omega) (by omega) (by omega) (fun p a hp => by omega) (fun p a hp ha => by have := (List.getElem?_eq_some_iff.1 ha).1; omega)
  refine ⟨k, b, callD_some (.tup [.int .i64 (k : Int), .bool b]) (vF_lone (n := n + 2) (r := .tup [.int .i64 (k : Int), .bool b]) (H1 := []) rfl ?_ ?_ rfl) rfl, h2, h3⟩
  · have := hs.closed 9
    show (closed1 (.sl 9 s) && _) = true
    rw [this]; rfl
  · show bodyV P tab (vF P tab (n + 2)) (n + 2) 49 [.sl 9 s.strip, .str ⟨t.toArray⟩] [] = _
    rw [f49_eq, hs.strip.len, List.length_map]
    rw [show ((0 : Nat) : Int) = 0 from rfl] at h1
    exact h1
end Go.Proofs.Ytmpobijkbmljdaa
