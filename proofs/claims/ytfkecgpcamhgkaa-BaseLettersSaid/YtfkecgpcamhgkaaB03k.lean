import Derived.Test.YtfkecgpcamhgkaaB03j
set_option linter.unusedVariables false
namespace Go.Proofs.Ytfkecgpcamhgkaa
open Go.Proofs.Ytfkecgpcamhgkaa.Sh Go.RowKit
theorem same_loop (n : Nat) {h : Heap} {s t : Sl} {l m : List UInt8} (hs : slCells h 1 s = some (bcs l)) (ht : slCells h 1 t = some (bcs m)) (hl : l.length = m.length) (hb : l.length < 1000000) :
    ∀ (k i : Nat), i ≤ l.length → l.length < i + k → (∀ j, j < i → l[j]? = m[j]?) → L14_0 n k s.a l.length s.c t.a l.length t.c (i : Int) h = some (.bool (decide (l = m)), h) := by
  have hn : s.n = l.length := by have := slCells_len hs; rw [bcs_len] at this; omega
  have hm : t.n = m.length := by have := slCells_len ht; rw [bcs_len] at this; omega
  intro k
  induction k with
  | zero => intro i h1 h2; omega
  | succ k ih =>
    intro i h1 h2 h3
    rw [L14_0_eq]
    by_cases hi : i < l.length
    · rw [decide_eq_true (by omega), cond_true]
      obtain ⟨b, hb1⟩ : ∃ b, l[i]? = some b := ⟨_, List.getElem?_eq_getElem hi⟩
      obtain ⟨c, hc1⟩ : ∃ c, m[i]? = some c := ⟨_, List.getElem?_eq_getElem (by omega)⟩
      obtain ⟨p, p1, p2⟩ := rd_byte hs hb1
      obtain ⟨q, q1, q2⟩ := rd_byte ht hc1
      have p1 : ixA ⟨s.a, l.length, s.c⟩ 1 (i : Int) = some p := by rw [← hn]; exact p1
      have q1 : ixA ⟨t.a, l.length, t.c⟩ 1 (i : Int) = some q := by rw [hl, ← hm]; exact q1
      rw [p1, Option.bind_some, p2, Option.bind_some, q1, Option.bind_some, q2, Option.bind_some]
      by_cases hbc : b = c
      · rw [show (((b.toNat : Nat) : Int) != (c.toNat : Int)) = false by rw [hbc]; simp, cond_false]
        have e1 : IntKind.wrap .i64 ((i : Int) + 1) = ((i + 1 : Nat) : Int) := by rw [IntWalk.i64_in _ (by omega)]; rfl
        rw [e1]
        refine ih (i + 1) (by omega) (by omega) fun j hj => ?_
        by_cases hji : j = i
        · subst hji; rw [hb1, hc1, hbc]
        · exact h3 j (by omega)
      · have hne : ((b.toNat : Nat) : Int) ≠ (c.toNat : Int) := fun e => hbc (UInt8.toNat.inj (by omega))
        rw [show (((b.toNat : Nat) : Int) != (c.toNat : Int)) = true by rw [bne_iff_ne]; exact hne, cond_true]
        have : ¬ l = m := fun e => by rw [e, hc1] at hb1; injection hb1 with hb1; exact hbc hb1.symm
        rw [decide_eq_false this]
    · rw [decide_eq_false (by omega), cond_false]
      have : l = m := List.ext_getElem? fun j => by
        by_cases hj : j < l.length
        · exact h3 j (by omega)
        · rw [List.getElem?_eq_none (by omega), List.getElem?_eq_none (by omega)]
      rw [decide_eq_true this]
theorem c14 (n : Nat) {h : Heap} {s t : Sl} {l m : List UInt8} (hs : slCells h 1 s = some (bcs l)) (ht : slCells h 1 t = some (bcs m)) (hb : l.length < 1000000) (hn : l.length < n) :
    callD (eF P tab (n + 1)) (.one (.flat .bool)) 14 [.slice s.a s.n s.c, .slice t.a t.n t.c] h = some (decide (l = m), h) := by
  have hn1 : s.n = l.length := by have := slCells_len hs; rw [bcs_len] at this; omega
  have hm1 : t.n = m.length := by have := slCells_len ht; rw [bcs_len] at this; omega
  refine callD_some (.bool (decide (l = m))) ?_ rfl
  rw [eF_body rfl rfl, f14_eq, hn1, hm1]
  by_cases hl : l.length = m.length
  · rw [show ((((l.length : Nat) : Int) : Int) != ((m.length : Nat) : Int)) = false by rw [hl]; simp, cond_false, ← hl]
    exact same_loop n hs ht hl hb n 0 (by omega) (by omega) (fun j hj => by omega)
  · rw [show ((((l.length : Nat) : Int) : Int) != ((m.length : Nat) : Int)) = true by rw [bne_iff_ne]; omega, cond_true]
    have : ¬ l = m := fun e => hl (by rw [e])
    rw [decide_eq_false this]
/-- Where 'base.Bytes' stands: i letters are read, j bytes are written. -/
structure UAt (h0 h : Heap) (s : List UInt8) (ks : List Nat) (o : Sl) (i j bits nb : Nat) : Prop where
  kp : Kp h0 h []
  hs : ∀ x ∈ ids o, h0.length ≤ x
  ho : Own h 1 5 o (bcs (outs ks j))
  hi : i ≤ s.length
  hk : vals (s.take i) = some ks
  hn : nb + 8 * j = 5 * i
  hlt : bits < 18446744073709551616
  hv : bits % 4096 = numK ks % 4096
/-- What 'base.Bytes' answers. -/
def readB (s : List UInt8) : Option (List UInt8) :=
  (vals s).bind fun ks => if text (outs ks (5 * s.length / 8)) = s then some (outs ks (5 * s.length / 8)) else none
/-- .. and as a result: the bytes in new memory, or nil and the error. -/
def Told (h0 : Heap) (a : Option (List UInt8)) (r : Res) : Prop :=
  ∃ h' o, Kp h0 h' [] ∧ (∀ x ∈ ids o, h0.length ≤ x) ∧ slCells h' 1 o = some (bcs (a.getD [])) ∧ (a = none → o = ⟨none, 0, 0⟩) ∧ r = some (.tuple ⟨[.slice o.a o.n o.c, .int .i64 (match a with | some _ => 0 | none => 2)]⟩, h')
end Go.Proofs.Ytfkecgpcamhgkaa
