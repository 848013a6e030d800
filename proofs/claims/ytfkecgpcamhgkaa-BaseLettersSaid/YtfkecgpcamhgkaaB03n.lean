import Derived.Test.YtfkecgpcamhgkaaB03l
set_option linter.unusedVariables false
namespace Go.Proofs.Ytfkecgpcamhgkaa
open Go.Proofs.Ytfkecgpcamhgkaa.Sh Go.RowKit
theorem readB_text (l : List UInt8) : readB (text l) = some l := by
  unfold readB
  obtain ⟨h1, h2⟩ := outs_text l (vals_text l)
  rw [vals_text, Option.bind_some, if_pos h2, h1]
theorem c11 (n : Nat) (h : Heap) {s : List UInt8} (hl : s.length < 400) : ∃ h' o, Kp h h' [] ∧ (∀ x ∈ ids o, h.length ≤ x) ∧ slCells h' 1 o = some (bcs ((readB s).getD [])) ∧ (readB s = none → o = ⟨none, 0, 0⟩) ∧
    callD (eF P tab (n + 1001)) (.tup [(.flat .slice), (.flat (.int .i64))]) 11 [.string ⟨s.toArray⟩] h = some ((o, (match readB s with | some _ => 0 | none => 2), ()), h') := by
  obtain ⟨h', o, h1, h2, h3, h4, h5⟩ := e11 n h hl
  exact ⟨h', o, h1, h2, h3, h4, callD_some _ h5 rfl⟩
theorem back_ok {h : Heap} {s : Sl} {l : List UInt8} (hcs : slCells h 1 s = some (bcs l)) : ∃ h', eF P tab 2002 3 [.slice s.a s.n s.c] h = some (.bool true, h') := by
  have hn : s.n = l.length := by have := slCells_len hcs; rw [bcs_len] at this; omega
  rw [eF_body rfl rfl, f3_eq, two' 1001, Option.bind_some]
  simp only [Bool.not_true, cond_false]
  rw [two' 1001]
  simp only [Option.bind_some]
  by_cases h1 : l.length > 200
  · rw [decide_eq_true (by omega), cond_true]
    exact ⟨_, rfl⟩
  rw [decide_eq_false (by omega), cond_false]
  obtain ⟨k1, g1, kp1⟩ := c10 1001 hcs (by omega)
  rw [g1, Option.bind_some]
  simp only
  obtain ⟨k2, o, kp2, _, hc2, _, g2⟩ := c11 1000 k1 (s := text l) (by rw [text_len]; omega)
  rw [readB_text] at g2 hc2
  rw [g2, Option.bind_some]
  simp only
  have hcs2 := kp2.cells (kp1.cells hcs (fun x _ e => by cases e)) (fun x _ e => by cases e)
  obtain ⟨k3, g3, kp3⟩ := e12 1990 hcs2 (by omega) (by omega)
  rw [callD_some (τ := .one (.flat .str)) (x := (⟨(text l).toArray⟩ : ByteArray)) _ g3 rfl, Option.bind_some]
  simp only
  rw [strEq_iff, decide_eq_true rfl, cond_true, c13 2000 _ _ (by omega) (by omega), Option.bind_some]
  simp only
  have hsz : ((((⟨(text l).toArray⟩ : ByteArray).size : Int) : Int) == lenZ ((s.n : Nat) : Int)) = true := by
    rw [beq_iff_eq]
    unfold lenZ
    simp only [ByteArray.size, List.size_toArray, text_len]
    rw [if_neg (by omega)]
    omega
  rw [hsz, cond_true, show ((0 : Int) == 0) = true from rfl, cond_true]
  have hcs3 := kp3.cells hcs2 (fun x _ e => by cases e)
  have hc3 := kp3.cells hc2 (fun x _ e => by cases e)
  rw [c14 2000 hcs3 hc3 (by omega) (by omega), Option.bind_some]
  exact ⟨k3, by simp⟩
theorem back_walk (a0 : Option Addr) (len0 cap0 : Nat) (z0 : List Int) (w : World) (w0 : IsRowU8 w a0 len0 cap0 z0) :
    Calls Try.prog 3 #[.slice a0 len0 cap0] w fun e w' => e = .returned (.bool true) ∧ Below w.heap.size w w' := by
  obtain ⟨l, s, o, S, _, _, _, hs, _, hv, hcs, _, _⟩ := (Sim.start (P := P) w).bytes (fun o ho => by cases ho) (e := 5) (by decide +kernel) w0
  obtain ⟨h', hq⟩ := back_ok hcs
  exact walk_of tabOK (args' := [.slice a0 len0 cap0]) hs (.cons hv .nil) hq
end Go.Proofs.Ytfkecgpcamhgkaa
