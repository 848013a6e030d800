import Derived.Test.YtmpobijkbmljdaaB05x
set_option maxRecDepth 100000
set_option linter.unusedVariables false
set_option linter.unusedSimpArgs false
namespace Go.Proofs.Ytmpobijkbmljdaa
open Go.Proofs.Ytmpobijkbmljdaa.Sh Go.Proofs.Ytmpobijkbmljdaa.Sh.V Go.RowKit
/-! ### A node by its names, in plain Lean -/
def cutP1 : List UInt8 → List UInt8 × List UInt8 × Bool
  | [] => ([], [], false)
  | b :: l => if b = 47 then ([], l, true) else (b :: (cutP1 l).1, (cutP1 l).2)
theorem cutP1_no : ∀ {a : List UInt8}, (47 : UInt8) ∉ a → cutP1 a = (a, [], false)
  | [], _ => rfl
  | b :: a, h => by
    have hb : b ≠ 47 := fun e => h (e ▸ List.mem_cons_self ..)
    rw [cutP1, if_neg hb, cutP1_no (fun hm => h (List.mem_cons_of_mem _ hm))]
theorem cutP1_at : ∀ {a : List UInt8} (r : List UInt8), (47 : UInt8) ∉ a → cutP1 (a ++ 47 :: r) = (a, r, true)
  | [], r, _ => by show cutP1 (47 :: r) = _; rw [cutP1, if_pos rfl]
  | b :: a, r, h => by
    have hb : b ≠ 47 := fun e => h (e ▸ List.mem_cons_self ..)
    rw [List.cons_append, cutP1, if_neg hb, cutP1_at r (fun hm => h (List.mem_cons_of_mem _ hm))]
def look : List (List UInt8) → List Nd → List UInt8 → Option Nd
  | n :: ns, k :: ks, t => if n = t then some k else look ns ks t
  | _, _, _ => none
theorem look_none : ∀ {names : List (List UInt8)} {kids : List Nd} {t : List UInt8}, t ∉ names → look names kids t = none
  | [], _, _, _ => by unfold look; rfl
  | n :: ns, [], _, _ => by unfold look; rfl
  | n :: ns, k :: ks, t, h => by
    have hne : ¬ n = t := fun e => h (by rw [e]; exact List.mem_cons_self ..)
    rw [look, if_neg hne, look_none (fun hm => h (List.mem_cons_of_mem _ hm))]
theorem RiseL.tail {n : List UInt8} {ns : List (List UInt8)} (h : RiseL (n :: ns)) : RiseL ns := fun i j a b hij ha hb => h (i + 1) (j + 1) a b (by omega) (by simpa using ha) (by simpa using hb)
theorem look_at : ∀ {names : List (List UInt8)} {kids : List Nd} {t : List UInt8} {i : Nat} {y : Nd}, RiseL names → names[i]? = some t → kids[i]? = some y → look names kids t = some y
  | [], _, _, i, _, _, h1, _ => by simp at h1
  | n :: ns, [], _, i, _, _, _, h2 => by simp at h2
  | n :: ns, k :: ks, t, 0, y, _, h1, h2 => by
    simp only [List.getElem?_cons_zero, Option.some.injEq] at h1 h2
    rw [look, if_pos h1, h2]
  | n :: ns, k :: ks, t, i + 1, y, hr, h1, h2 => by
    have hne : n ≠ t := fun e => List.lt_irrefl t (by
      have := hr 0 (i + 1) n t (by omega) rfl h1
      rwa [e] at this)
    simp only [List.getElem?_cons_succ] at h1 h2
    rw [look, if_neg hne]
    exact look_at hr.tail h1 h2
def namesN : Nd → List (List UInt8) | .mk _ names _ _ _ _ _ => names
def kidsN : Nd → List Nd | .mk _ _ kids _ _ _ _ => kids
def atN : Nat → Nd → List UInt8 → Option Nd
  | _, x, [] => some x
  | 0, _, _ :: _ => none
  | d + 1, x, b :: p =>
    match look (namesN x) (kidsN x) (cutP1 (b :: p)).1 with
    | none => none
    | some y => if (cutP1 (b :: p)).2.2 = true ∧ (cutP1 (b :: p)).2.1 = [] then none else atN d y (cutP1 (b :: p)).2.1
theorem atN_nil (d : Nat) (x : Nd) : atN d x [] = some x := by cases d <;> rfl
theorem atN_one {d : Nat} {x y : Nd} {i : Nat} {t : List UInt8} (hr : RiseL (namesN x)) (h1 : (namesN x)[i]? = some t) (h2 : (kidsN x)[i]? = some y) (ht : GoodT t) : atN (d + 1) x t = some y := by
  obtain ⟨hne, hns, _⟩ := ht
  cases t with
  | nil => exact absurd rfl hne
  | cons b p =>
    rw [atN, cutP1_no hns]
    simp only
    rw [look_at hr h1 h2]
    simp only [Bool.false_eq_true, false_and, if_false]
    exact atN_nil d y
theorem atN_end {d : Nat} {x : Nd} {t : List UInt8} (ht : GoodT t) : atN (d + 1) x (t ++ [47]) = none := by
  obtain ⟨hne, hns, _⟩ := ht
  have hc := cutP1_at [] hns
  cases t with
  | nil => exact absurd rfl hne
  | cons b p =>
    rw [List.cons_append] at hc ⊢
    rw [atN, hc]
    simp only
    cases look (namesN x) (kidsN x) (b :: p) <;> simp
theorem atN_two {d : Nat} {x y : Nd} {i : Nat} {t m : List UInt8} (hr : RiseL (namesN x)) (h1 : (namesN x)[i]? = some t) (h2 : (kidsN x)[i]? = some y) (ht : GoodT t) (hm : m ≠ []) : atN (d + 1) x (t ++ 47 :: m) = atN d y m := by
  obtain ⟨hne, hns, _⟩ := ht
  have hc := cutP1_at m hns
  cases t with
  | nil => exact absurd rfl hne
  | cons b p =>
    rw [List.cons_append] at hc ⊢
    rw [atN, hc]
    simp only
    rw [look_at hr h1 h2]
    simp only
    rw [if_neg (fun h => hm h.2)]
/-! ### Alike with itself -/
theorem all2_refl {A : Type} {f : A → A → Bool} : ∀ {l : List A}, (∀ a ∈ l, f a a = true) → all2 f l l = true
  | [], _ => rfl
  | a :: l, h => by
    show cond (f a a) (all2 f l l) false = true
    rw [h a (List.mem_cons_self ..), cond_true]
    exact all2_refl (fun b hb => h b (List.mem_cons_of_mem _ hb))
theorem sameN_refl : ∀ (d : Nat) (x : Nd), sameN d x x = true
  | 0, _ => by unfold sameN; rfl
  | d + 1, .mk k names kids data run st tg => by
    unfold sameN
    rw [all2_refl (fun a _ => sameN_refl d a)]
    simp
end Go.Proofs.Ytmpobijkbmljdaa
