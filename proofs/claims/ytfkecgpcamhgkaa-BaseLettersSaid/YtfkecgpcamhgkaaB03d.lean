import Derived.Test.YtfkecgpcamhgkaaB03c
set_option linter.unusedVariables false
namespace Go.Proofs.Ytfkecgpcamhgkaa
open Go.Proofs.Ytfkecgpcamhgkaa.Sh Go.RowKit
theorem i64_nat {n : Nat} (h : n ≤ 9223372036854775807) : IntKind.wrap .i64 (n : Int) = (n : Int) := IntWalk.i64_in _ (by omega)
theorem e20 (n : Nat) {h : Heap} {s : Sl} {l : List UInt8} {i : Nat} (hcs : slCells h 1 s = some (bcs l)) (hi : i < 100000000) (hl : l.length < 1000000) :
    eF P tab (n + 1) 20 [.slice s.a l.length s.c, .int .i64 (i : Int)] h = some (.int .i64 (bitAt l i : Int), h) := by
  have hn : s.n = l.length := by have := slCells_len hcs; rw [bcs_len] at this; omega
  rw [eF_body rfl rfl, f20_eq]
  have q := quoI_nat (k := .i64) (x := i) (y := 8) (by omega) (i64_nat (by omega))
  rw [show ((8 : Nat) : Int) = 8 from rfl] at q
  rw [q, Option.bind_some]
  unfold bitAt
  by_cases hc : l.length ≤ i / 8
  · rw [decide_eq_true (by omega), cond_true, List.getElem?_eq_none hc]
    rfl
  · rw [decide_eq_false (by omega), cond_false, Option.bind_some]
    have hb : l[i / 8]? = some l[i / 8] := List.getElem?_eq_getElem (by omega)
    obtain ⟨p, h1, h3⟩ := rd_byte hcs hb
    have h1 : ixA ⟨s.a, l.length, s.c⟩ 1 ((i / 8 : Nat) : Int) = some p := by rw [← hn]; exact h1
    rw [h1, Option.bind_some, h3, Option.bind_some]
    have r := remI_nat (x := i) (y := 8) (by omega)
    rw [show ((8 : Nat) : Int) = 8 from rfl] at r
    rw [r, Option.bind_some]
    have e1 : IntKind.wrap .i64 (7 - ((i % 8 : Nat) : Int)) = ((7 - i % 8 : Nat) : Int) := by rw [IntWalk.i64_in _ (by omega)]; omega
    rw [e1, shrI_nat (k := .u8) (by show 7 - i % 8 ≤ 8; omega), Option.bind_some]
    have hb256 := l[i / 8].toNat_lt
    have hd : l[i / 8].toNat / 2 ^ (7 - i % 8) ≤ l[i / 8].toNat := Nat.div_le_self _ _
    rw [i64_nat (by omega)]
    have r2 := remI_nat (x := l[i / 8].toNat / 2 ^ (7 - i % 8)) (y := 2) (by omega)
    rw [show ((2 : Nat) : Int) = 2 from rfl] at r2
    rw [r2, Option.bind_some, hb]
theorem c20 (n : Nat) {h : Heap} {s : Sl} {l : List UInt8} {i : Nat} (hcs : slCells h 1 s = some (bcs l)) (hi : i < 100000000) (hl : l.length < 1000000) :
    callD (eF P tab (n + 1)) (.one (.flat (.int .i64))) 20 [.slice s.a l.length s.c, .int .i64 (i : Int)] h = some ((bitAt l i : Int), h) :=
  callD_some _ (e20 n hcs hi hl) rfl
/-- What the reference has written. -/
structure RAt (h0 h : Heap) (l : List UInt8) (s : Sl) (j : Nat) : Prop where
  kp : Kp h0 h []
  hs : ∀ x ∈ ids s, h0.length ≤ x
  ho : Own h 1 5 s (bcs (texts l j))
/-- The digit's first k bits. -/
def dgk (l : List UInt8) (i : Nat) : Nat → Nat
  | 0 => 0
  | k + 1 => 2 * dgk l i k + bitAt l (i + k)
theorem dgk_lt (l : List UInt8) (i k : Nat) : dgk l i k < 2 ^ k := by
  induction k with
  | zero => simp [dgk]
  | succ k ih => have := bitAt_lt l (i + k); simp only [dgk]; omega
theorem dgk5 (l : List UInt8) (i : Nat) : dgk l i 5 = dg l i := by simp [dgk, dg]
theorem rt_inner (n m0 : Nat) {h0 h : Heap} {l : List UInt8} (hl : l.length < 1000000) (sl s : Sl) (hcs : slCells h 1 sl = some (bcs l)) (j : Nat) (hj : 5 * j < 8 * l.length) (r : RAt h0 h l s j)
    (next : ∀ h' s', RAt h0 h' l s' (j + 1) → Done h0 l (L12_0 (n + 10) m0 sl.a l.length sl.c s'.a s'.n s'.c ((5 * (j + 1) : Nat) : Int) h')) :
    ∀ (m k : Nat), k ≤ 5 → 5 < k + m → Done h0 l (L12_1 (n + 10) m0 m sl.a l.length sl.c s.a s.n s.c ((5 * j : Nat) : Int) (dgk l (5 * j) k : Int) (k : Int) h) := by
  intro m
  induction m with
  | zero => intro k h1 h2; omega
  | succ m ih =>
    intro k hk hm
    rw [L12_1_eq]
    have hd := dgk_lt l (5 * j) k
    have h2k : 2 ^ k ≤ 2 ^ 5 := Nat.pow_le_pow_right (by omega) hk
    by_cases hc : k < 5
    · rw [decide_eq_true (by omega), cond_true]
      have e1 : IntKind.wrap .i64 (((5 * j : Nat) : Int) + (k : Int)) = ((5 * j + k : Nat) : Int) := by rw [IntWalk.i64_in _ (by omega)]; omega
      rw [e1, c20 (n + 9) hcs (by omega) hl, Option.bind_some]
      have hb := bitAt_lt l (5 * j + k)
      have e2 : IntKind.wrap .i64 (2 * (dgk l (5 * j) k : Int)) = 2 * (dgk l (5 * j) k : Int) := IntWalk.i64_in _ (by omega)
      have e3 : IntKind.wrap .i64 (2 * (dgk l (5 * j) k : Int) + (bitAt l (5 * j + k) : Int)) = (dgk l (5 * j) (k + 1) : Int) := by rw [IntWalk.i64_in _ (by omega)]; simp only [dgk]; omega
      have e4 : IntKind.wrap .i64 ((k : Int) + 1) = ((k + 1 : Nat) : Int) := by rw [IntWalk.i64_in _ (by omega)]; rfl
      simp only [e2, e3, e4]
      exact ih (k + 1) (by omega) (by omega)
    · rw [decide_eq_false (by omega), cond_false]
      have hk5 : k = 5 := by omega
      subst hk5
      have e0 := dgk5 l (5 * j)
      rw [e0, letter (dg_lt l (5 * j)), Option.bind_some]
      have ka : Kp h (h ++ [.row true 5 [.int .u8 ((lt (dg l (5 * j))).toNat : Int)]]) [] := Kp.app _ _
      have hown2 := r.ho.keep ka (fun x _ e => by cases e)
      have hnew : slCells (h ++ [.row true 5 [.int .u8 ((lt (dg l (5 * j))).toNat : Int)]]) 1 ⟨some ⟨h.length, 0, none⟩, 1, 0⟩ = some (bcs [lt (dg l (5 * j))]) := by
        unfold slCells
        simp [cellsAt, rowOf, bcs]
      have hsn : s.n = j := by have := r.ho.len; rw [bcs_len, texts_len] at this; omega
      obtain ⟨s', h2, ha, ho2, hk2, hn2, hi2⟩ := app_own (by_ := 1) hown2 hnew (by simp only [bound]; omega) (by simp only [bound]; omega)
      rw [ha, Option.bind_some]
      have e1 : IntKind.wrap .i64 (((5 * j : Nat) : Int) + 5) = ((5 * (j + 1) : Nat) : Int) := by rw [IntWalk.i64_in _ (by omega)]; omega
      simp only [e1]
      have hlen := r.kp.len
      refine next h2 s' ⟨(r.kp.trans ka (fun x hx => hx) (fun y hy => by cases hy)).trans hk2 (fun x hx => hx) (fun y hy h3 => by have := r.hs y hy; omega), fun x hx => ?_, ?_⟩
      · rcases hi2 x hx with h3 | h3
        · exact r.hs x h3
        · simp at h3; omega
      · rw [texts_succ, bcs_app]; exact ho2
theorem rt_outer (n : Nat) {h0 : Heap} {l : List UInt8} (hl : l.length < 1000000) (sl : Sl) (hcs : slCells h0 1 sl = some (bcs l)) :
    ∀ (m j : Nat) (h : Heap) (s : Sl), RAt h0 h l s j → 5 * j < 8 * l.length + 5 → 8 * l.length + 5 ≤ 5 * (j + m) → Done h0 l (L12_0 (n + 10) m sl.a l.length sl.c s.a s.n s.c ((5 * j : Nat) : Int) h) := by
  intro m
  induction m with
  | zero => intro j h s r h1 h2; omega
  | succ m ih =>
    intro j h s r h1 h2
    rw [L12_0_eq]
    have e0 : IntKind.wrap .i64 (8 * (l.length : Int)) = ((8 * l.length : Nat) : Int) := by rw [IntWalk.i64_in _ (by omega)]; omega
    rw [e0]
    by_cases hc : 5 * j < 8 * l.length
    · rw [decide_eq_true (by omega), cond_true]
      exact rt_inner n m hl sl s (r.kp.cells hcs (fun x _ e => by cases e)) j hc r (fun h' s' r' => ih (j + 1) h' s' r' (by omega) (by omega)) (n + 10) 0 (by omega) (by omega)
    · rw [decide_eq_false (by omega), cond_false]
      have ht : texts l j = text l := by unfold text; congr 1; omega
      have := strD_of r.ho.cells
      rw [ht] at this
      rw [this]
      exact ⟨h, rfl, r.kp⟩
theorem e12 (n : Nat) {h : Heap} {s : Sl} {l : List UInt8} (hcs : slCells h 1 s = some (bcs l)) (hl : l.length < 1000000) (hn : 2 * l.length < n) :
    ∃ h', eF P tab (n + 11) 12 [.slice s.a s.n s.c] h = some (.string ⟨(text l).toArray⟩, h') ∧ Kp h h' [] := by
  have hsn : s.n = l.length := by have := slCells_len hcs; rw [bcs_len] at this; omega
  rw [eF_body rfl rfl, f12_eq, hsn]
  exact rt_outer n hl s hcs (n + 10) 0 h ⟨none, 0, 0⟩ ⟨Kp.refl _ _, (fun x hx => by cases hx), Own.nil _ _ _⟩ (by omega) (by omega)
end Go.Proofs.Ytfkecgpcamhgkaa
