import Derived.Test.YtibdinelkpbhaaaB15d
import Derived.Test.YtibdinelkpbhaaaVd
set_option maxRecDepth 100000
set_option linter.unusedVariables false
set_option linter.unusedSimpArgs false
namespace Go.Proofs.Ytibdinelkpbhaaa
open Go.Proofs.Ytibdinelkpbhaaa.Sh Go.Proofs.Ytibdinelkpbhaaa.Sh.V Go.RowKit Go.Proofs.Ytibdinelkpbhaaa.Sh.Lk
/-! ### Two that share go up -/
def stU (hs : List Int) (only : Bool) (q : List Wt) (ws : List (Int × Key)) : Tb := ⟨[(kA, ⟨hs, only, q⟩)], ws⟩
theorem lk_stU (hs : List Int) (only : Bool) (q : List Wt) (ws : List (Int × Key)) : lkOf (stU hs only q ws) kA = ⟨hs, only, q⟩ := by
  unfold lkOf stU getM
  rw [if_pos rfl]; rfl
def wM : Wt := ⟨1000, true, false⟩
def qM (more : Bool) : List Wt := cond more [wM] []
def wsM (more : Bool) : List (Int × Key) := cond more [(1000, kA)] []
section
variable {x y : Int} (h1 : x < y) (h2 : y < 1000)
include h1 h2
theorem u1 : (askP ⟨[], []⟩ x kA false).1 = stU [x] false [] [] := by
  have _u := h1
  have _v := h2
  rfl
theorem u2 : (askP (stU [x] false [] []) y kA false).1 = stU [x, y] false [] [] := by
  have _u := h1
  have _v := h2
  have hg : getM (stU [x] false [] []).ws y = none := rfl
  unfold askP
  rw [hg, lk_stU]
  simp only
  have hc : ([x] : List Int).contains y = false := by
    have : y ≠ x := by omega
    simpa using this
  have hs : sortI [x, y] = [x, y] := sortI_id (by simp; omega)
  rw [hc]
  show stU (sortI ([x] ++ [y])) false [] [] = _
  rw [show [x] ++ [y] = [x, y] from rfl, hs]
theorem u3 : (askP (stU [x, y] false [] []) 1000 kA true).1 = stU [x, y] false [wM] [(1000, kA)] := by
  have hg : getM (stU [x, y] false [] []).ws 1000 = none := rfl
  unfold askP
  rw [hg, lk_stU]
  simp only
  have hc : ([x, y] : List Int).contains 1000 = false := by
    have a : (1000 : Int) ≠ x := by omega
    have b : (1000 : Int) ≠ y := by omega
    simp [List.contains_cons, a, b]
  rw [hc]
  rfl
theorem wsM_x (more : Bool) {z : Int} (hz : z ≠ 1000) : getM (wsM more) z = none := by
  have _u := h1
  have _v := h2
  cases more with
  | false => rfl
  | true => show getM [(1000, kA)] z = none; unfold getM; rw [if_neg hz]; rfl
theorem wsM_put (more : Bool) {z : Int} (hz : z ≠ 1000) : putA (wsM more) z kA = wsM more ++ [(z, kA)] := putI_none (wsM_x h1 h2 more hz) kA
def u4q (x : Int) (more : Bool) : List Wt := ⟨x, true, true⟩ :: qM more
theorem u4 (more : Bool) : askP (stU [x, y] false (qM more) (wsM more)) x kA true = (stU [x, y] false (⟨x, true, true⟩ :: qM more) (wsM more ++ [(x, kA)]), false) := by
  have hg : getM (stU [x, y] false (qM more) (wsM more)).ws x = none := wsM_x h1 h2 more (by omega)
  unfold askP
  rw [hg, lk_stU]
  have hc : ([x, y] : List Int).contains x = true := by simp
  simp only
  rw [hc]
  show (cond false _ (cond false _ ((⟨putA [(kA, ⟨[x, y], false, qM more⟩)] kA ⟨[x, y], false, Go.Proofs.Ytibdinelkpbhaaa.Sh.Lk.insP (qM more) ⟨x, true, true⟩⟩, putA (wsM more) x kA⟩ : Tb), false))) = _
  rw [cond_false, cond_false, put_kA, wsM_put h1 h2 more (by omega)]
  have : Go.Proofs.Ytibdinelkpbhaaa.Sh.Lk.insP (qM more) ⟨x, true, true⟩ = ⟨x, true, true⟩ :: qM more := by cases more <;> rfl
  rw [this]
  rfl
theorem ws5 (more : Bool) {z : Int} (hz : z ≠ 1000) (hx : z ≠ x) : getM (wsM more ++ [(x, kA)]) z = none := by
  have _u := h1
  have _v := h2
  cases more with
  | false => show getM [(x, kA)] z = none; unfold getM; rw [if_neg hx]; rfl
  | true => show getM [(1000, kA), (x, kA)] z = none; unfold getM; rw [if_neg hz]; unfold getM; rw [if_neg hx]; rfl
theorem u5 (more : Bool) : askP (stU [x, y] false (⟨x, true, true⟩ :: qM more) (wsM more ++ [(x, kA)])) y kA true = (stU [x, y] false (⟨x, true, true⟩ :: ⟨y, true, true⟩ :: qM more) (wsM more ++ [(x, kA)] ++ [(y, kA)]), false) := by
  have hg0 := ws5 h1 h2 more (z := y) (by omega) (by omega)
  have hg : getM (stU [x, y] false (⟨x, true, true⟩ :: qM more) (wsM more ++ [(x, kA)])).ws y = none := hg0
  unfold askP
  rw [hg, lk_stU]
  have hc : ([x, y] : List Int).contains y = true := by simp
  simp only
  rw [hc]
  show (cond false _ (cond false _ ((⟨putA [(kA, ⟨[x, y], false, ⟨x, true, true⟩ :: qM more⟩)] kA ⟨[x, y], false, Go.Proofs.Ytibdinelkpbhaaa.Sh.Lk.insP (⟨x, true, true⟩ :: qM more) ⟨y, true, true⟩⟩, putA (wsM more ++ [(x, kA)]) y kA⟩ : Tb), false))) = _
  rw [cond_false, cond_false, put_kA, putI_none hg0]
  have : Go.Proofs.Ytibdinelkpbhaaa.Sh.Lk.insP (⟨x, true, true⟩ :: qM more) ⟨y, true, true⟩ = ⟨x, true, true⟩ :: ⟨y, true, true⟩ :: qM more := by cases more <;> rfl
  rw [this]
  rfl
theorem getW (more : Bool) : ∀ (z : Int) (r : List (Int × Key)), z ≠ 1000 → getM (wsM more ++ r) z = getM r z := fun z r hz => by
  have _u := h1
  have _v := h2
  cases more with
  | false => rfl
  | true => show getM ((1000, kA) :: r) z = _; rw [getM_cons, if_neg hz]
theorem a4x (more : Bool) : aheadP (stU [x, y] false (⟨x, true, true⟩ :: qM more) (wsM more ++ [(x, kA)])) x = [y] := by
  have hw : waitsP (stU [x, y] false (⟨x, true, true⟩ :: qM more) (wsM more ++ [(x, kA)])) x = some (kA, true) := by
    unfold waitsP
    rw [show (stU [x, y] false (⟨x, true, true⟩ :: qM more) (wsM more ++ [(x, kA)])).ws = wsM more ++ [(x, kA)] from rfl, getW h1 h2 more x _ (by omega)]
    unfold getM
    rw [if_pos rfl]
    simp only [lk_stU, findO, decide_true, cond_true, Option.map_some]
  unfold aheadP
  rw [hw]
  have a : (x != x) = false := by simp
  have b : (y != x) = true := by
    have : y ≠ x := by omega
    simpa using this
  simp only [lk_stU, aheadQ, decide_true, cond_true, List.append_nil, List.filter_cons, a, b, Bool.false_and, Bool.true_and, Bool.true_or, Bool.false_eq_true, if_false, if_true, List.filter_nil]
  rfl
theorem a4y (more : Bool) : aheadP (stU [x, y] false (⟨x, true, true⟩ :: qM more) (wsM more ++ [(x, kA)])) y = [] := by
  unfold aheadP waitsP
  rw [show (stU [x, y] false (⟨x, true, true⟩ :: qM more) (wsM more ++ [(x, kA)])).ws = wsM more ++ [(x, kA)] from rfl, ws5 h1 h2 more (by omega) (by omega)]
theorem a5x (more : Bool) : aheadP (stU [x, y] false (⟨x, true, true⟩ :: ⟨y, true, true⟩ :: qM more) (wsM more ++ [(x, kA)] ++ [(y, kA)])) x = [y] := by
  have hw : waitsP (stU [x, y] false (⟨x, true, true⟩ :: ⟨y, true, true⟩ :: qM more) (wsM more ++ [(x, kA)] ++ [(y, kA)])) x = some (kA, true) := by
    unfold waitsP
    rw [show (stU [x, y] false (⟨x, true, true⟩ :: ⟨y, true, true⟩ :: qM more) (wsM more ++ [(x, kA)] ++ [(y, kA)])).ws = wsM more ++ ([(x, kA)] ++ [(y, kA)]) from List.append_assoc .., getW h1 h2 more x _ (by omega)]
    rw [List.singleton_append, getM_cons, if_pos rfl]
    simp only [lk_stU, findO, decide_true, cond_true, Option.map_some]
  unfold aheadP
  rw [hw]
  have a : (x != x) = false := by simp
  have b : (y != x) = true := by
    have : y ≠ x := by omega
    simpa using this
  simp only [lk_stU, aheadQ, decide_true, cond_true, List.append_nil, List.filter_cons, a, b, Bool.false_and, Bool.true_and, Bool.true_or, Bool.false_eq_true, if_false, if_true, List.filter_nil]
  rfl
theorem a5y (more : Bool) : aheadP (stU [x, y] false (⟨x, true, true⟩ :: ⟨y, true, true⟩ :: qM more) (wsM more ++ [(x, kA)] ++ [(y, kA)])) y = [x] := by
  have hxy : x ≠ y := by omega
  have hw : waitsP (stU [x, y] false (⟨x, true, true⟩ :: ⟨y, true, true⟩ :: qM more) (wsM more ++ [(x, kA)] ++ [(y, kA)])) y = some (kA, true) := by
    unfold waitsP
    rw [show (stU [x, y] false (⟨x, true, true⟩ :: ⟨y, true, true⟩ :: qM more) (wsM more ++ [(x, kA)] ++ [(y, kA)])).ws = wsM more ++ ([(x, kA)] ++ [(y, kA)]) from List.append_assoc .., getW h1 h2 more y _ (by omega)]
    rw [List.singleton_append, getM_cons, if_neg (fun e => hxy e.symm), getM_cons, if_pos rfl]
    simp only [lk_stU, findO, decide_true, cond_true, Option.map_some, decide_eq_false hxy, cond_false]
  unfold aheadP
  rw [hw]
  have a : (y != y) = false := by simp
  have b : (x != y) = true := by simpa using hxy
  simp only [lk_stU, aheadQ, decide_true, cond_true, decide_eq_false hxy, cond_false, List.filter_cons, a, b, Bool.false_and, Bool.true_and, Bool.true_or, Bool.false_eq_true, if_false, if_true, List.filter_nil]
  have hs : sortI ([x] ++ [x]) = [x, x] := sortI_id (by simp)
  rw [hs]
  simp [dedupI]
end
theorem reach1 {t : Tb} {o : Int} {a : List Int} (h : aheadP t o = a) : ∀ (m : Nat) (l r : List Int), l.contains o = false → l.length + r.length + a.length < 1800 → reachO t (m + 1) l (o :: r) = reachO t m (l ++ [o]) (r ++ a) := fun m l r hc hl => by
  rw [reachO, h, decide_eq_true hl, cond_true, hc, cond_false]
theorem reach2 {t : Tb} {o : Int} {a : List Int} (h : aheadP t o = a) : ∀ (m : Nat) (l r : List Int), l.contains o = true → l.length + r.length + a.length < 1800 → reachO t (m + 1) l (o :: r) = reachO t m l r := fun m l r hc hl => by
  rw [reachO, h, decide_eq_true hl, cond_true, hc, cond_true]
section
variable {x y : Int} (h1 : x < y) (h2 : y < 1000)
include h1 h2
theorem r4x (more : Bool) : reachO (stU [x, y] false (⟨x, true, true⟩ :: qM more) (wsM more ++ [(x, kA)])) 1000 [] [y] = some [y] := by
  rw [show (1000 : Nat) = 999 + 1 from rfl, reach1 (a4y h1 h2 more) 999 [] [] rfl (by simp)]
  rfl
theorem r5 {t : Tb} {p q : Int} (hpq : p ≠ q) (hp : aheadP t p = [q]) (hq : aheadP t q = [p]) : reachO t 1000 [] [q] = some [q, p] := by
  have _u := h1
  have _v := h2
  have c1 : ([q] : List Int).contains p = false := by simpa using hpq
  have c2 : ([q, p] : List Int).contains q = true := by simp
  rw [show (1000 : Nat) = 999 + 1 from rfl, reach1 hq 999 [] [] rfl (by simp), show (999 : Nat) = 998 + 1 from rfl, List.nil_append, List.nil_append, reach1 hp 998 [q] [] c1 (by simp), show (998 : Nat) = 997 + 1 from rfl, List.nil_append, List.singleton_append, reach2 hq 997 [q, p] [] c2 (by simp)]
  rfl
theorem f5 (more : Bool) : (freeP (stU [x, y] false (⟨x, true, true⟩ :: ⟨y, true, true⟩ :: qM more) (wsM more ++ [(x, kA)] ++ [(y, kA)])) y).2 = [x] := by
  have hxy : x ≠ y := by omega
  unfold freeP
  rw [show keysP (stU [x, y] false (⟨x, true, true⟩ :: ⟨y, true, true⟩ :: qM more) (wsM more ++ [(x, kA)] ++ [(y, kA)])) = [kA] from rfl]
  unfold freeK
  rw [lk_stU]
  have a : (y != y) = false := by simp
  have b : (x != y) = true := by simpa using hxy
  have c : ((1000 : Int) != y) = true := by
    have : (1000 : Int) ≠ y := by omega
    simpa using this
  have d : ([x, y] : List Int).contains y = true := by simp
  have hl : leaveP ⟨[x, y], false, ⟨x, true, true⟩ :: ⟨y, true, true⟩ :: qM more⟩ y = ⟨[x], false, ⟨x, true, true⟩ :: qM more⟩ := by
    unfold leaveP
    cases more <;> simp [qM, wM, List.filter_cons, a, b, c, d]
  have hz : ∀ ws, freeZ y ⟨[x, y], false, ⟨x, true, true⟩ :: ⟨y, true, true⟩ :: qM more⟩ ws = letP (⟨x, true, true⟩ :: qM more) [x] false ws := fun ws => by
    unfold freeZ
    rw [hl]
    rw [decide_eq_true (by simp; omega), cond_true]
  rw [hz]
  have hm : ∀ ws, (letP (⟨x, true, true⟩ :: qM more) [x] false ws).2.2 = [x] := fun ws => by
    rw [letP_cons]
    cases more <;> rfl
  simp only [hm]
  rfl
end
end Go.Proofs.Ytibdinelkpbhaaa
