import Derived.Test.YtfkecgpcamhgkaaB03f
set_option linter.unusedVariables false
namespace Go.Proofs.Ytfkecgpcamhgkaa
open Go.Proofs.Ytfkecgpcamhgkaa.Sh Go.RowKit
theorem bitAt_app1 (a b : List UInt8) (i : Nat) (h : i < 8 * a.length) : bitAt (a ++ b) i = bitAt a i := by
  unfold bitAt
  rw [List.getElem?_append_left (by omega)]
theorem bitAt_app2 (a b : List UInt8) (i : Nat) : bitAt (a ++ b) (8 * a.length + i) = bitAt b i := by
  unfold bitAt
  rw [List.getElem?_append_right (by omega), show (8 * a.length + i) / 8 - a.length = i / 8 by omega, show (8 * a.length + i) % 8 = i % 8 by omega]
theorem text_app (a b : List UInt8) (h : a.length % 5 = 0) : text (a ++ b) = text a ++ text b := by
  refine List.ext_getElem? fun j => ?_
  by_cases h1 : j < (text a).length
  · rw [List.getElem?_append_left h1]
    rw [text_len] at h1
    rw [text_get (by rw [List.length_append]; omega), text_get (by omega)]
    congr 1
    unfold dg
    rw [bitAt_app1 a b _ (by omega), bitAt_app1 a b _ (by omega), bitAt_app1 a b _ (by omega), bitAt_app1 a b _ (by omega), bitAt_app1 a b _ (by omega)]
  · rw [List.getElem?_append_right (by omega)]
    rw [text_len] at h1 ⊢
    obtain ⟨k, hk⟩ : ∃ k, j = (8 * a.length + 4) / 5 + k := ⟨j - (8 * a.length + 4) / 5, by omega⟩
    subst hk
    rw [Nat.add_sub_cancel_left]
    by_cases h2 : 5 * k < 8 * b.length
    · rw [text_get (by rw [List.length_append]; omega), text_get h2]
      congr 1
      unfold dg
      have e : ∀ c, 5 * ((8 * a.length + 4) / 5 + k) + c = 8 * a.length + (5 * k + c) := fun c => by omega
      rw [← Nat.add_zero (5 * ((8 * a.length + 4) / 5 + k))]
      simp only [e, Nat.add_assoc, bitAt_app2, Nat.add_zero]
    · rw [List.getElem?_eq_none (by rw [text_len, List.length_append]; omega), List.getElem?_eq_none (by rw [text_len]; omega)]
theorem catS_of (a b : List UInt8) (h : a.length + b.length < 1000000) : catS ⟨a.toArray⟩ ⟨b.toArray⟩ = some ⟨(a ++ b).toArray⟩ := by
  unfold catS
  rw [if_pos (by simp only [ByteArray.size, List.size_toArray]; omega)]
  have : (⟨a.toArray⟩ : ByteArray) ++ (⟨b.toArray⟩ : ByteArray) = ⟨(a ++ b).toArray⟩ := by
    apply ByteArray.ext
    simp
  rw [this]
theorem joins_ok {h : Heap} {s t : Sl} {l m : List UInt8} (hcs : slCells h 1 s = some (bcs l)) (hcap : Cap s) (hct : slCells h 1 t = some (bcs m)) :
    ∃ h', eF P tab 1001 8 [.slice s.a s.n s.c, .slice t.a t.n t.c] h = some (.bool true, h') := by
  have hn : s.n = l.length := by have := slCells_len hcs; rw [bcs_len] at this; omega
  have hm : t.n = m.length := by have := slCells_len hct; rw [bcs_len] at this; omega
  rw [eF_body rfl rfl, f8_eq, two' 0, Option.bind_some]
  simp only [Bool.not_true, cond_false]
  rw [two' 0]
  simp only [Option.bind_some]
  by_cases h1 : l.length > 100
  · rw [decide_eq_true (by omega), cond_true]
    exact ⟨_, rfl⟩
  rw [decide_eq_false (by omega), cond_false]
  by_cases h2 : m.length > 100
  · rw [decide_eq_true (by omega), cond_true]
    exact ⟨_, rfl⟩
  rw [decide_eq_false (by omega), cond_false]
  have q := quoI_nat (k := .i64) (x := s.n) (y := 5) (by omega) (i64_nat (by omega))
  rw [show ((5 : Nat) : Int) = 5 from rfl] at q
  rw [q]
  simp only [Option.bind_some]
  have e1 : IntKind.wrap .i64 (((s.n / 5 : Nat) : Int) * 5) = ((s.n / 5 * 5 : Nat) : Int) := by rw [IntWalk.i64_in _ (by omega)]; omega
  rw [e1]
  obtain ⟨s', c1, c2, c3, c4, c5⟩ := cut_bytes (e := 5) (lo := none) (hi := some ((s.n / 5 * 5 : Nat) : Int)) (l := 0) (hh := s.n / 5 * 5) hcs hcap (by omega) (by omega) (.inl rfl) (.inr ⟨rfl, rfl⟩)
  rw [show (⟨s.a, s.n, s.c⟩ : Sl) = s from rfl, c1]
  simp only [Option.bind_some]
  have hk : (bcs l).take (s.n / 5 * 5) = bcs (l.take (s.n / 5 * 5)) := by unfold bcs; rw [List.map_take]
  rw [List.drop_zero, Nat.sub_zero, hk] at c3
  obtain ⟨p, hp⟩ : ∃ p, p = l.take (s.n / 5 * 5) := ⟨_, rfl⟩
  have hpl : p.length = s.n / 5 * 5 := by rw [hp, List.length_take]; omega
  rw [← hp] at c3
  obtain ⟨⟨qa, qn, qc⟩, k1, g1, o1, kp1, i1, n1⟩ := e16 999 c3 hct (by omega)
  rw [callD_some (τ := .one (.flat .slice)) (x := (⟨qa, qn, qc⟩ : Sl)) _ g1 rfl]
  simp only [Option.bind_some]
  obtain ⟨k2, g2, kp2⟩ := c10 0 o1.cells (by rw [List.length_append]; omega)
  simp only at g2
  rw [g2]
  simp only [Option.bind_some]
  have c3' := kp2.cells (kp1.cells c3 (fun x _ e => by cases e)) (fun x _ e => by cases e)
  obtain ⟨k3, g3, kp3⟩ := c10 0 c3' (by omega)
  rw [g3]
  simp only [Option.bind_some]
  have hct' := kp3.cells (kp2.cells (kp1.cells hct (fun x _ e => by cases e)) (fun x _ e => by cases e)) (fun x _ e => by cases e)
  obtain ⟨k4, g4, kp4⟩ := c10 0 hct' (by omega)
  rw [g4]
  simp only [Option.bind_some]
  rw [catS_of _ _ (by rw [text_len, text_len]; omega)]
  simp only [Option.bind_some]
  rw [strEq_iff, decide_eq_true (text_app p m (by omega))]
  exact ⟨k4, rfl⟩
theorem joins_walk (a0 : Option Addr) (len0 cap0 : Nat) (z0 : List Int) (a1 : Option Addr) (len1 cap1 : Nat) (z1 : List Int) (w : World) (w0 : IsRowU8 w a0 len0 cap0 z0) (w1 : IsRowU8 w a1 len1 cap1 z1) :
    Calls Try.prog 8 #[.slice a0 len0 cap0, .slice a1 len1 cap1] w fun e w' => e = .returned (.bool true) ∧ Below w.heap.size w w' := by
  obtain ⟨l, s, o, S, _, _, hp, hs, hown, hv, hcs, _, hcap⟩ := (Sim.start (P := P) w).bytes (fun o ho => by cases ho) (e := 5) (by decide +kernel) w0
  obtain ⟨m, t, o2, S2, _, _, hp2, hs2, _, hv2, hct, _, _⟩ := hs.bytes hown (e := 5) (by decide +kernel) w1
  obtain ⟨h', hq⟩ := joins_ok ((Kp.app _ o2).cells hcs (fun x _ e => by cases e)) hcap hct
  exact walk_of tabOK (args' := [.slice a0 len0 cap0, .slice a1 len1 cap1]) hs2 (.cons (hv.mono hp2) (.cons hv2 .nil)) hq
end Go.Proofs.Ytfkecgpcamhgkaa
