import Derived.Test.YtfkecgpcamhgkaaB03e
set_option linter.unusedVariables false
namespace Go.Proofs.Ytfkecgpcamhgkaa
open Go.Proofs.Ytfkecgpcamhgkaa.Sh Go.RowKit
theorem c10 (n : Nat) {h : Heap} {s : Sl} {l : List UInt8} (hcs : slCells h 1 s = some (bcs l)) (hl : l.length < 300) :
    ∃ h', callD (eF P tab (n + 1000)) (.one (.flat .str)) 10 [.slice s.a s.n s.c] h = some ((⟨(text l).toArray⟩ : ByteArray), h') ∧ Kp h h' [] := by
  obtain ⟨h', h1, h2⟩ := e10 (n + 989) hcs (by omega) (by omega)
  exact ⟨h', callD_some _ h1 rfl, h2⟩
theorem two' (n : Nat) (h : Heap) : callD (eF P tab (n + 1000)) (.one (.flat .bool)) 9 [] h = some (true, h) := c9 (n + 940) h
theorem turned_ok {h : Heap} {s : Sl} {l : List UInt8} (hcs : slCells h 1 s = some (bcs l)) (hid : ∀ x ∈ ids s, x < h.length) {a t : Int} (ha : 0 ≤ a ∧ a ≤ 65535) (ht : 0 ≤ t ∧ t ≤ 255) :
    ∃ h', eF P tab 1001 6 [.slice s.a s.n s.c, .int .u16 a, .int .u8 t] h = some (.bool true, h') := by
  have hn : s.n = l.length := by have := slCells_len hcs; rw [bcs_len] at this; omega
  obtain ⟨u, rfl⟩ : ∃ u : Nat, a = u := ⟨a.toNat, by omega⟩
  obtain ⟨v, rfl⟩ : ∃ v : Nat, t = v := ⟨t.toNat, by omega⟩
  rw [eF_body rfl rfl, f6_eq, two' 0, Option.bind_some]
  simp only [Bool.not_true, cond_false]
  rw [two' 0]
  simp only [Option.bind_some]
  by_cases h1 : l.length > 100
  · rw [decide_eq_true (by omega), cond_true]
    exact ⟨_, rfl⟩
  rw [decide_eq_false (by omega), cond_false]
  by_cases h2 : l.length = 0
  · rw [show ((((s.n : Nat) : Int) : Int) == 0) = true by rw [beq_iff_eq]; omega, cond_true]
    exact ⟨_, rfl⟩
  rw [show ((((s.n : Nat) : Int) : Int) == 0) = false by rw [beq_eq_false_iff_ne]; omega, cond_false]
  by_cases h3 : v = 0
  · subst h3
    exact ⟨_, rfl⟩
  rw [show ((v : Int) == 0) = false by rw [beq_eq_false_iff_ne]; omega, cond_false]
  obtain ⟨⟨qa, qn, qc⟩, k1, e1, o1, kp1, i1, n1⟩ := e16 999 hcs (b := ⟨none, 0, 0⟩) (lb := []) rfl (by simp; omega)
  rw [List.append_nil] at o1
  simp only [List.length_nil, Nat.add_zero] at n1
  subst n1
  have c1 : callD (eF P tab 1000) (.one (.flat .slice)) 16 [.slice s.a s.n s.c, .slice none 0 0] h = some (⟨qa, l.length, qc⟩, k1) := callD_some _ e1 rfl
  rw [c1, Option.bind_some]
  simp only
  have hi : u % l.length < l.length := Nat.mod_lt _ (by omega)
  rw [i64_nat (by omega), remI_nat h2, Option.bind_some]
  have hb : l[u % l.length]? = some l[u % l.length] := List.getElem?_eq_getElem hi
  have hb256 := l[u % l.length].toNat_lt
  obtain ⟨p, r1, r2⟩ := rd_byte o1.cells hb
  have hx : l[u % l.length].toNat ^^^ v < 256 := Nat.xor_lt_two_pow (n := 8) (by omega) (by omega)
  obtain ⟨b', hb'⟩ : ∃ b' : UInt8, b'.toNat = l[u % l.length].toNat ^^^ v := ⟨UInt8.ofNat (l[u % l.length].toNat ^^^ v), by rw [UInt8.toNat_ofNat']; omega⟩
  obtain ⟨p2, k2, w1, w2, w3, w4⟩ := own_set o1 (i := u % l.length) (by rw [bcs_len]; exact hi) (.int .u8 (b'.toNat : Int)) rfl
  rw [r1] at w1
  injection w1 with w1
  subst w1
  rw [r1, Option.bind_some, r2]
  simp only [Option.bind_some]
  rw [bitI_xor8 (by omega) (by omega), ← hb', w2]
  simp only [Option.bind_some]
  rw [bcs_set] at w3
  have hne : ∀ x ∈ ids s, x ∉ ids ⟨qa, l.length, qc⟩ := fun x hx hx2 => by have := hid x hx; have := i1 x hx2; omega
  have hcs2 : slCells k2 1 s = some (bcs l) := w4.cells (kp1.cells hcs (fun x _ e => by cases e)) hne
  obtain ⟨k3, g1, g2⟩ := c10 0 hcs2 (by omega)
  rw [g1, Option.bind_some]
  have w3' := w3.keep g2 (fun x _ e => by cases e)
  obtain ⟨k4, g3, g4⟩ := c10 0 w3'.cells (by simp; omega)
  simp only
  rw [g3, Option.bind_some]
  have hdiff : text l ≠ text (l.set (u % l.length) b') := by
    intro e
    have h5 := text_inj (by simp) e
    have h6 : l[u % l.length]? = some b' := by
      have := List.getElem?_set_self (a := b') hi
      rwa [← h5] at this
    rw [hb] at h6
    injection h6 with h6
    rw [← h6] at hb'
    have h7 : (l[u % l.length].toNat ^^^ l[u % l.length].toNat) ^^^ v = l[u % l.length].toNat ^^^ l[u % l.length].toNat := by
      rw [Nat.xor_assoc, ← hb']
    rw [Nat.xor_self, Nat.zero_xor] at h7
    exact h3 h7
  rw [strEq_iff, decide_eq_false hdiff, Bool.not_false, cond_true]
  obtain ⟨k5, g5, g6⟩ := c10 0 ((hcs2 |> fun h => g2.cells h (fun x _ e => by cases e)) |> fun h => g4.cells h (fun x _ e => by cases e)) (by omega)
  simp only
  rw [g5, Option.bind_some]
  have w4' := (w3'.keep g4 (fun x _ e => by cases e)).keep g6 (fun x _ e => by cases e)
  obtain ⟨k6, g7, g8⟩ := c10 0 w4'.cells (by simp; omega)
  simp only
  rw [g7, Option.bind_some]
  have hsz : ((((⟨(text l).toArray⟩ : ByteArray).size : Int) : Int) == ((⟨(text (l.set (u % l.length) b')).toArray⟩ : ByteArray).size : Int)) = true := by
    rw [beq_iff_eq]
    simp only [ByteArray.size, List.size_toArray, text_len, List.length_set]
  simp only
  rw [hsz]
  exact ⟨k6, rfl⟩
theorem turned_walk (a0 : Option Addr) (len0 cap0 : Nat) (z0 : List Int) (a1 a2 : Int) (w : World) (w0 : IsRowU8 w a0 len0 cap0 z0) (w1 : (Lit.int .u16 a1).wf = true) (w2 : (Lit.int .u8 a2).wf = true) :
    Calls Try.prog 6 #[.slice a0 len0 cap0, .int .u16 a1, .int .u8 a2] w fun e w' => e = .returned (.bool true) ∧ Below w.heap.size w w' := by
  obtain ⟨l, s, o, S, _, _, _, hs, _, hv, hcs, hid, _⟩ := (Sim.start (P := P) w).bytes (fun o ho => by cases ho) (e := 5) (by decide +kernel) w0
  obtain ⟨h', hq⟩ := turned_ok hcs hid (wf_u16 w1) (wf_u8 w2)
  exact walk_of tabOK (args' := [.slice a0 len0 cap0, .int .u16 a1, .int .u8 a2]) hs (.cons hv (.cons (.int _ _) (.cons (.int _ _) .nil))) hq
end Go.Proofs.Ytfkecgpcamhgkaa
