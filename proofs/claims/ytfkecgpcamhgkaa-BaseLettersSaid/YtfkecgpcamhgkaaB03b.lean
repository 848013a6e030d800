import Derived.Test.YtfkecgpcamhgkaaB03a
import Derived.Test.YtfkecgpcamhgkaaSh
set_option linter.unusedVariables false
namespace Go.Proofs.Ytfkecgpcamhgkaa
open Go.Proofs.Ytfkecgpcamhgkaa.Sh Go.RowKit
/-! ### strings.Builder -/
abbrev bE : TypeId := 39 + boxK
/-- A Builder in the object p, its buffer s, the bytes l. -/
structure Bld (h : Heap) (p : Nat) (s : Sl) (l : List UInt8) : Prop where
  row : ∃ q, h[p]? = some (.row true bE [.pointer q, .slice s.a s.n s.c]) ∧ (q = none ∨ q = some ⟨p, 0, none⟩)
  own : Own h 1 5 s (bcs l)
  ne : p ∉ ids s
  nz : s.a = none ∨ l ≠ []
theorem rw_at {h : Heap} {p : Nat} {e : TypeId} {cs : List Value} (hr : h[p]? = some (.row true e cs)) (o : Nat) : rwRow h ⟨p, o, none⟩ = some (e, cs) := by
  unfold rwRow
  rw [hr]
theorem ld_at {h : Heap} {p : Nat} {b : Bool} {e : TypeId} {cs : List Value} (hr : h[p]? = some (.row b e cs)) (τ : FT) (o : Nat) : ld1 (.flat τ) h ⟨p, o, none⟩ = (cs[o]?).bind (fdec τ) := by
  simp only [ld1, rowOf, hr, Option.bind_some]
theorem st_at {h : Heap} {p : Nat} {e : TypeId} {cs : List Value} (hr : h[p]? = some (.row true e cs)) (o : Nat) (vs : List Value) (hl : o + vs.length ≤ cs.length) (h1 : ones vs = true) : stV h ⟨p, o, none⟩ vs = some (h.set p (.row true e (putAll cs o vs))) := by
  unfold stV
  simp only [hr]
  rw [if_pos ⟨hl, h1⟩]
theorem lies39 : liesAt P P.depth (unbox bE) (2 / P.cellsOf (unbox bE)) 0 39 1 = true := by kernel_rfl
theorem e22 (n : Nat) {h : Heap} {p : Nat} {s : Sl} {l : List UInt8} (hb : Bld h p s l) : ∃ h', eF P tab (n + 1) 22 [.pointer (some ⟨p, 0, none⟩)] h = some (.tuple ⟨[]⟩, h') ∧ h'[p]? = some (.row true bE [.pointer (some ⟨p, 0, none⟩), .slice s.a s.n s.c]) ∧ Own h' 1 5 s (bcs l) ∧ Kp h h' [p] := by
  obtain ⟨⟨q, hr, hq⟩, ho, hne, hnz⟩ := hb
  have hlt := lt_of_ob hr
  rw [eF_body rfl rfl, f22_eq]
  simp only [Option.bind_some, Sh.at_, Nat.add_zero]
  rw [ld_at hr]
  simp only [List.getElem?_cons_zero, Option.bind_some, fdec]
  rcases hq with rfl | rfl
  · simp only [Option.isNone_none, cond_true]
    have h1 : okTo P h 39 ⟨p, 0, none⟩ = some () := by
      unfold okTo
      rw [rw_at hr, Option.bind_some, if_pos]
      exact ⟨by decide +kernel, by simp⟩
    have h2 : okFrom P h 39 ⟨p, 0, none⟩ = some () := by
      unfold okFrom
      rw [rw_at hr, Option.bind_some, if_pos]
      exact ⟨Nat.le_add_left _ _, by decide +kernel, lies39⟩
    rw [h1, h2]
    simp only [Option.bind_some]
    rw [st_at hr 0 _ (by simp) rfl]
    refine ⟨_, rfl, ?_, ?_, Kp.set _ _ _⟩
    · rw [List.getElem?_set_self hlt]; rfl
    · exact ho.keep (Kp.set _ _ _) (fun x hx e => hne (by rw [List.mem_singleton] at e; rw [← e]; exact hx))
  · simp only [Option.isNone_some, cond_false]
    have : Sh.ptrEq 2 (some ⟨p, 0, none⟩) (some ⟨p, 0, none⟩) = some true := by
      unfold Sh.ptrEq
      simp
    rw [this]
    exact ⟨h, rfl, hr, ho, Kp.refl _ _⟩
theorem e17 (n : Nat) {h : Heap} {p : Nat} {s : Sl} {l : List UInt8} (hb : Bld h p s l) (b : UInt8) (hl : l.length < 100000000) :
    ∃ h' s', eF P tab (n + 2) 17 [.pointer (some ⟨p, 0, none⟩), .int .u8 (b.toNat : Int)] h = some (.nilIface, h') ∧ Bld h' p s' (l ++ [b]) ∧ Kp h h' (p :: ids s) ∧ (∀ i ∈ ids s', i ∈ ids s ∨ h.length ≤ i) := by
  obtain ⟨h1, hcall, hrow, hown, hkp⟩ := e22 n hb
  have hne := hb.ne
  have hlt1 := lt_of_ob hrow
  have hsn : s.n = l.length := by have := hown.len; rw [bcs_len] at this; omega
  rw [eF_body rfl rfl, f17_eq, callD_some (τ := .tup []) (x := ()) _ hcall rfl]
  simp only [Option.bind_some, Sh.at_, Nat.zero_add]
  rw [ld_at hrow]
  simp only [List.getElem?_cons_succ, List.getElem?_cons_zero, Option.bind_some, fdec]
  have ka : Kp h1 (h1 ++ [.row true 5 [.int .u8 (b.toNat : Int)]]) [] := Kp.app _ _
  have hown2 := hown.keep ka (fun x _ e => by cases e)
  have hnew : slCells (h1 ++ [.row true 5 [.int .u8 (b.toNat : Int)]]) 1 ⟨some ⟨h1.length, 0, none⟩, 1, 0⟩ = some (bcs [b]) := by
    unfold slCells
    simp [cellsAt, rowOf, bcs]
  obtain ⟨s', h2, ha, ho2, hk2, hn2, hi2⟩ := app_own (by_ := 1) hown2 hnew (by simp only [bound]; omega) (by simp only [bound]; omega)
  rw [ha]
  simp only [Option.bind_some]
  have hrow2 : h2[p]? = some (.row true bE [.pointer (some ⟨p, 0, none⟩), .slice s.a s.n s.c]) := hk2.ob (ka.ob hrow (by simp)) hne
  rw [st_at hrow2 1 _ (by simp) rfl]
  have hlt2 := lt_of_ob hrow2
  have hps' : p ∉ ids s' := by
    intro hp
    rcases hi2 p hp with h3 | h3
    · exact hne h3
    · simp at h3; omega
  have hset := Kp.set h2 p (.row true bE (putAll [.pointer (some ⟨p, 0, none⟩), .slice s.a s.n s.c] 1 [.slice s'.a s'.n s'.c]))
  refine ⟨_, s', rfl, ⟨⟨some ⟨p, 0, none⟩, ?_, .inr rfl⟩, ?_, hps', .inr (by simp)⟩, ?_, ?_⟩
  · rw [List.getElem?_set_self hlt2]; rfl
  · rw [bcs_app]
    exact ho2.keep hset (fun x hx e => hps' (by rw [List.mem_singleton] at e; rw [← e]; exact hx))
  · refine ((hkp.trans ka (Z := p :: ids s) (fun x hx => by simp at hx; simp [hx]) (fun y hy => by cases hy)).trans hk2 (fun x hx => hx) (fun y hy _ => by simp [hy])).trans hset (fun x hx => hx) (fun y hy _ => by simp at hy; simp [hy])
  · intro i hi
    rcases hi2 i hi with h3 | h3
    · exact .inl h3
    · right
      have := hkp.len
      simp at h3
      omega
theorem e18 (n : Nat) {h : Heap} {p : Nat} {s : Sl} {l : List UInt8} (hb : Bld h p s l) (hl : l.length < 100000000) :
    ∃ h', eF P tab (n + 1) 18 [.pointer (some ⟨p, 0, none⟩)] h = some (.string ⟨l.toArray⟩, h') ∧ Kp h h' (ids s) := by
  obtain ⟨⟨q, hr, hq⟩, ho, hne, hnz⟩ := hb
  have hsn : s.n = l.length := by have := ho.len; rw [bcs_len] at this; omega
  have hcs := ho.cells
  rw [eF_body rfl rfl, f18_eq]
  simp only [Option.bind_some, Sh.at_, Nat.zero_add]
  rw [ld_at hr]
  simp only [List.getElem?_cons_succ, List.getElem?_cons_zero, Option.bind_some, fdec]
  rcases ho.row with ⟨ha, h2, h3⟩ | ⟨k, ha, hk⟩
  · rw [ha, h3]
    have hl0 : l = [] := List.eq_nil_of_length_eq_zero (by omega)
    subst hl0
    exact ⟨h, rfl, Kp.refl _ _⟩
  · have hl0 : l ≠ [] := by
      rcases hnz with h1 | h1
      · rw [ha] at h1; cases h1
      · exact h1
    have hpos : 0 < l.length := List.length_pos_iff.2 hl0
    have h5 : P.cellsOf 5 = 1 := by decide +kernel
    have hmax : IntKind.i64.max = 9223372036854775807 := by decide
    have hsl : slCells h 1 ⟨some ⟨k, 0, none⟩, s.n, 0⟩ = some (bcs l) := by
      have := ho.cells
      have hc := ho.c
      cases s
      simp only at ha hc
      subst ha hc
      exact this
    have hstr := strD_of hsl
    rw [ha]
    have h1 : sdA (some ⟨k, 0, none⟩) s.n = some (some ⟨k, 0, none⟩) := by
      unfold sdA
      simp only
      rw [if_neg (by omega)]
    rw [h1]
    simp only [Option.bind_some]
    have h2 : unsafeStrO P h 5 (some ⟨k, 0, none⟩) ((s.n : Nat) : Int) = some (⟨l.toArray⟩, h.set k (.row false 5 (bcs l))) := by
      unfold unsafeStrO unsafeStrD
      simp only
      rw [rw_at hk, Option.bind_some, if_pos ⟨by omega, by omega, rfl, by decide, h5⟩, Int.toNat_natCast, hstr]
      rfl
    rw [h2]
    refine ⟨_, rfl, (Kp.set h k _).weak (fun x hx _ => by simpa [ids, ha] using hx)⟩
end Go.Proofs.Ytfkecgpcamhgkaa
