import Derived.Test.YtcnigofmjffamaaDoorVc
import Derived.Lib.LaidTab
import Derived.LaidLaws
set_option linter.unusedVariables false
set_option linter.unusedSimpArgs false
namespace Go.Proofs.YtcnigofmjffamaaDoor.Sh.V
open Go.Proofs.YtcnigofmjffamaaDoor.Sh Go.RowKit
/-! ### Package variables that are tables of texts -/
/-- A table of texts, as a row lists it. -/
def textData {H : Type} (zs : List (List UInt8)) : DataW H := .agg (zs.map fun z => .lit (.string z))
theorem cells_of_texts {H : Type} {enc : TypeId × Value → H} {P : Program} {w : World} {base : Nat} {sp : Nat → Bool} {held : Bool} {fuel : Nat} {t e : TypeId} {n : Nat} {cs : List Value} {zs : List (List UInt8)} {p : List MemPlace}
    (ht : P.underlying t = some (.array n e)) (he : P.underlying e = some .string) (hce : P.cellsOf e = 1) (hct : P.cellsOf t = n)
    (h : DataW.trod enc P w base sp held fuel t cs = some (textData zs, p)) : cs = zs.map fun z => Value.string ⟨z.toArray⟩ := by
  cases fuel with
  | zero => simp [DataW.trod] at h
  | succ fuel =>
    simp only [DataW.trod, ht, hce, hct, Nat.mul_one] at h
    split at h
    · rename_i hl
      obtain ⟨xs, hm, hx⟩ := Option.map_eq_some_iff.1 h
      have hxs : xs.map (·.1) = zs.map fun z => (DataW.lit (.string z) : DataW H) := by
        have := congrArg Prod.fst hx
        simpa [textData] using this
      have hxl : xs.length = n := by simpa using Lib.mapM_length hm
      have hzl : zs.length = n := by
        have := congrArg List.length hxs
        simp at this
        omega
      apply List.ext_getElem?
      intro i
      by_cases hi : i < n
      · obtain ⟨b, hb, hf⟩ := Lib.mapM_at hm i i (by simp [hi])
        obtain ⟨z, hc, rfl, _⟩ := DataW.trod_string he hf
        have h1 : cs[i]? = some (.string z) := by
          have := congrArg (·[0]?) hc
          simpa [List.getElem?_take, List.getElem?_drop] using this
        have h2 : (xs.map (·.1))[i]? = some (DataW.lit (.string z.data.toList) : DataW H) := by simp [hb]
        rw [hxs] at h2
        simp only [List.getElem?_map, Option.map_eq_some_iff, DataW.lit.injEq, Lit.string.injEq] at h2
        obtain ⟨z', hz', rfl⟩ := h2
        simp [h1, hz']
      · rw [List.getElem?_eq_none (by omega), List.getElem?_eq_none (by simp; omega)]
    · cases h
/-- From the row's condition to what the table's cells hold. -/
theorem texts_of_head {P : Program} {W : World} {name : String} {zs : List (List UInt8)} {rest : List (String × DataW Unit)} {g : Nat} {t e : TypeId} {n : Nat}
    (hg : P.globalNamed name = some g) (hty : (P.globals[g]?).map (·.type) = some t) (ht : P.underlying t = some (.array n e)) (he : P.underlying e = some .string) (hce : P.cellsOf e = 1) (hct : P.cellsOf t = n)
    (h : laidMet P ((name, textData zs) :: rest) W) (i : Nat) (s : List UInt8) (hi : zs[i]? = some s) : W.cell? ⟨g, i, none⟩ = some (.string ⟨s.toArray⟩) := by
  obtain ⟨ps, ⟨g', t', cs, fuel, p, q, hg', ht', hvar, hd, _, _⟩, _⟩ := h
  obtain rfl := Option.some.inj (hg.symm.trans hg')
  obtain rfl := Option.some.inj (hty.symm.trans ht')
  have := World.var?_cell hg hvar i
  rw [this]
  have hc := cells_of_texts ht he hce hct hd
  rw [← Array.getElem?_toList, hc, List.getElem?_map, hi]
  rfl
/-- A table of whole numbers, as the machine of values holds it. -/
theorem glob_ints {P : Program} {W : World} {name : String} {k : IntKind} {zs : List Int} {g : Nat} (h : Lib.TabIs P W name k zs) (hg : P.globalNamed name = some g) (hne : 0 < zs.length) :
    ∃ vs, toPs (zs.map fun n => V.int k n) = some vs ∧ g < W.heap.size ∧ ∀ (i : Nat) (v : Value), vs[i]? = some v → W.cell? ⟨g, i, none⟩ = some v := by
  have ht : ∀ l : List Int, toPs (l.map fun n => V.int k n) = some (l.map fun n => Value.int k n) := by
    intro l
    induction l with
    | nil => rfl
    | cons n l ih =>
      show (toP (V.int k n)).bind (fun u => (toPs (l.map fun n => V.int k n)).map fun r => u :: r) = _
      rw [ih]; rfl
  refine ⟨_, ht zs, ?_, fun i v hv => ?_⟩
  · have h0 := h.cell hg 0 hne
    rcases Nat.lt_or_ge g W.heap.size with h1 | h1
    · exact h1
    · have h2 : W.heap[g]? = none := Array.getElem?_eq_none h1
      simp [World.cell?, h2] at h0
  · have hlt : i < zs.length := by
      have := (List.getElem?_eq_some_iff.1 hv).1
      simpa using this
    rw [h.cell hg i hlt, ← hv, List.getElem?_map, List.getD_eq_getElem?_getD, List.getElem?_eq_getElem hlt]
    rfl
/-- The list's tail. -/
theorem laid_tail {P : Program} {W : World} {x : String × DataW Unit} {rest : List (String × DataW Unit)} (h : laidMet P (x :: rest) W) : laidMet P rest W := by
  obtain ⟨ps, ⟨g', t', cs, fuel, p, q, hg', ht', hvar, hd, hrest, rfl⟩, h1, h2⟩ := h
  exact ⟨q, hrest, (List.nodup_append.1 h1).2.1, fun b off hm => h2 b off (List.mem_append_right _ hm)⟩
end Go.Proofs.YtcnigofmjffamaaDoor.Sh.V
