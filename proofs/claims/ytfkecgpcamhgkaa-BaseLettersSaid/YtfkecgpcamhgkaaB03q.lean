import Derived.Test.YtfkecgpcamhgkaaB03p
set_option linter.unusedVariables false
namespace Go.Proofs.Ytfkecgpcamhgkaa
open Go.Proofs.Ytfkecgpcamhgkaa.Sh Go.RowKit
def z16 : List UInt8 := List.replicate 16 48
theorem vals_all {s : List UInt8} (h : ∀ c ∈ s, (vl c).isSome = true) : ∃ ks, vals s = some ks := by
  induction s with
  | nil => exact ⟨[], rfl⟩
  | cons c s ih =>
    obtain ⟨ks, hk⟩ := ih (fun x hx => h x (List.mem_cons_of_mem _ hx))
    obtain ⟨k, hc⟩ := Option.isSome_iff_exists.1 (h c (List.mem_cons_self ..))
    exact ⟨k :: ks, by unfold vals; rw [hc, hk]; rfl⟩
theorem letters_read {i : Nat} (hi : i < 16) (c : UInt8) : (readB (z16.set i c)).isSome = (vl c).isSome := by
  have hl : (z16.set i c).length = 16 := by rw [List.length_set]; rfl
  have hc : (z16.set i c)[i]? = some c := List.getElem?_set_self hi
  cases hv : vl c with
  | none =>
    have : vals (z16.set i c) = none := by
      cases hs : vals (z16.set i c) with
      | none => rfl
      | some ks =>
        obtain ⟨k, _, hk⟩ := vals_get hs hc
        rw [hv] at hk; cases hk
    rw [readB_none this]; rfl
  | some k =>
    obtain ⟨ks, hk⟩ := vals_all (s := z16.set i c) (fun x hx => by
      rcases List.mem_or_eq_of_mem_set hx with h | h
      · have : x = 48 := List.eq_of_mem_replicate h
        rw [this]; decide +kernel
      · rw [h, hv]; rfl)
    unfold readB
    rw [hk, Option.bind_some, if_pos ((text_outs hk).2 ⟨by rw [hl]; decide, fun j h1 h2 => by rw [hl] at h1 h2; omega⟩)]
    rfl
set_option maxRecDepth 100000 in
theorem letters_ok (c : UInt8) (a : Nat) (_ha : a < 256) (h : Heap) : ∃ h', eF P tab 3002 5 [.int .u8 (c.toNat : Int), .int .u8 (a : Int)] h = some (.bool true, h') := by
  rw [eF_body rfl rfl, f5_eq, two' 2001, Option.bind_some]
  simp only [Bool.not_true, cond_false]
  have e0 : [Value.int .u8 48, .int .u8 48, .int .u8 48, .int .u8 48, .int .u8 48, .int .u8 48, .int .u8 48, .int .u8 48, .int .u8 48, .int .u8 48, .int .u8 48, .int .u8 48, .int .u8 48, .int .u8 48, .int .u8 48, .int .u8 48] = bcs z16 := rfl
  rw [e0]
  obtain ⟨o, ho⟩ : ∃ o : Sl, o = ⟨some ⟨h.length, 0, none⟩, 16, 0⟩ := ⟨_, rfl⟩
  have hr : (h ++ [Ob.row true 5 (bcs z16)])[h.length]? = some (.row true 5 (bcs z16)) := by simp
  have own : Own (h ++ [Ob.row true 5 (bcs z16)]) 1 5 o (bcs z16) := ⟨by rw [ho]; rfl, by rw [ho], .inr ⟨h.length, by rw [ho], hr⟩⟩
  have hrw : rwRow (h ++ [Ob.row true 5 (bcs z16)]) ⟨h.length, 0, none⟩ = some (5, bcs z16) := by unfold rwRow; rw [hr]
  rw [hrw, Option.bind_some, show (16 : Int) = ((16 : Nat) : Int) from rfl, remI_nat (by decide), Option.bind_some]
  have hi : a % 16 < 16 := Nat.mod_lt _ (by decide)
  generalize a % 16 = i at hi
  obtain ⟨p, h5, g1, g2, g3, g4⟩ := own_set own (i := i) (by rw [bcs_len]; exact hi) (.int .u8 (c.toNat : Int)) rfl
  rw [show (⟨some ⟨h.length, 0, none⟩, 16, 0⟩ : Sl) = o from ho.symm, g1, Option.bind_some, g2, Option.bind_some]
  have hs : (bcs z16).set i (.int .u8 (c.toNat : Int)) = bcs (z16.set i c) := by unfold bcs; rw [List.map_set]
  rw [hs] at g3
  rw [strD_of g3.cells, Option.bind_some]
  obtain ⟨k2, o2, kp2, i2, c2, z2, g5⟩ := c11 2000 h5 (s := z16.set i c) (by rw [List.length_set]; decide)
  rw [g5, Option.bind_some]
  simp only
  have hl := letters_read hi c
  refine ⟨k2, known_loop 3001 c _ k2 ?_ 3001 0 false (by omega) (by omega) ⟨fun h => (by cases h), fun ⟨j, hj, _⟩ => by omega⟩⟩
  rw [← hl]
  cases readB (z16.set i c) <;> simp
theorem letters_walk (a0 a1 : Int) (w : World) (w0 : (Lit.int .u8 a0).wf = true) (w1 : (Lit.int .u8 a1).wf = true) : Calls Try.prog 5 #[.int .u8 a0, .int .u8 a1] w fun e w' => e = .returned (.bool true) ∧ Below w.heap.size w w' := by
  obtain ⟨b1, b2⟩ := wf_u8 w0
  obtain ⟨b3, b4⟩ := wf_u8 w1
  obtain ⟨h', hq⟩ := letters_ok (UInt8.ofNat a0.toNat) a1.toNat (by omega) []
  have e1 : ((UInt8.ofNat a0.toNat).toNat : Int) = a0 := by rw [UInt8.toNat_ofNat']; omega
  have e2 : ((a1.toNat : Nat) : Int) = a1 := by omega
  rw [e1, e2] at hq
  exact walk_of tabOK (args' := [.int .u8 a0, .int .u8 a1]) (Sim.start w) (.cons (.int _ _) (.cons (.int _ _) .nil)) hq
end Go.Proofs.Ytfkecgpcamhgkaa
