import Derived.Test.YtfkecgpcamhgkaaB03k
set_option linter.unusedVariables false
namespace Go.Proofs.Ytfkecgpcamhgkaa
open Go.Proofs.Ytfkecgpcamhgkaa.Sh Go.RowKit
theorem bitK_app (ks : List Nat) (k i : Nat) (h : i < 5 * ks.length) : bitK (ks ++ [k]) i = bitK ks i := by
  unfold bitK
  rw [List.getElem?_append_left (by omega)]
theorem outs_app (ks : List Nat) (k j : Nat) (h : 8 * j ≤ 5 * ks.length) : outs (ks ++ [k]) j = outs ks j := by
  unfold outs
  refine List.map_congr_left fun i hi => ?_
  rw [List.mem_range] at hi
  congr 1
  unfold byK
  rw [bitK_app ks k _ (by omega), bitK_app ks k _ (by omega), bitK_app ks k _ (by omega), bitK_app ks k _ (by omega), bitK_app ks k _ (by omega), bitK_app ks k _ (by omega), bitK_app ks k _ (by omega), bitK_app ks k _ (by omega)]
theorem shl5 (bits : Nat) : shlI .u64 (bits : Int) 5 = some ((bits * 32 % 18446744073709551616 : Nat) : Int) := by
  have := shlI_u64 (x := bits) (k := 5) (by omega)
  simpa using this
theorem or5 (bits : Nat) {k : Nat} (hk : k < 32) : bitI .or .u64 ((bits * 32 % 18446744073709551616 : Nat) : Int) (IntKind.wrap .u64 (k : Int)) = ((bits * 32 % 18446744073709551616 + k : Nat) : Int) := by
  rw [wrap_u64_nat (by omega), bitI_or (by omega) (by omega)]
  have e : bits * 32 % 18446744073709551616 = (bits % 576460752303423488) * 2 ^ 5 := by omega
  rw [e, or_add (by simpa using hk)]
theorem vals_lt {s : List UInt8} {ks : List Nat} (h : vals s = some ks) : ∀ k ∈ ks, k < 32 := by
  intro k hk
  obtain ⟨i, hi, rfl⟩ := List.getElem_of_mem hk
  have hl := vals_len h
  obtain ⟨k', h1, h2⟩ := vals_get h (List.getElem?_eq_getElem (show i < s.length by omega))
  rw [List.getElem?_eq_getElem hi] at h1
  injection h1 with h1
  rw [h1]
  exact (vl_lt h2).1
theorem UAt.read {h0 h : Heap} {s : List UInt8} {ks : List Nat} {o : Sl} {i j bits nb : Nat} (t : UAt h0 h s ks o i j bits nb) {c : UInt8} (hc : s[i]? = some c) {k : Nat} (hk : vl c = some k) :
    UAt h0 h s (ks ++ [k]) o (i + 1) j (bits * 32 % 18446744073709551616 + k) (nb + 5) := by
  have hlt := (List.getElem?_eq_some_iff.1 hc).1
  have h32 := (vl_lt hk).1
  have hn := t.hn
  have hkl := vals_len t.hk
  have hil : (s.take i).length = i := by rw [List.length_take]; have := t.hi; omega
  refine ⟨t.kp, t.hs, ?_, by omega, ?_, by omega, by omega, ?_⟩
  · rw [outs_app ks k j (by omega)]; exact t.ho
  · rw [vals_take hc, t.hk, hk]; rfl
  · rw [numK_snoc]
    have := t.hv
    omega
theorem Told.none' {h0 h : Heap} (hk : Kp h0 h []) : Told h0 none (some (.tuple ⟨[.slice none 0 0, .int .i64 2]⟩, h)) := ⟨h, ⟨none, 0, 0⟩, hk, (fun x hx => by cases hx), rfl, fun _ => rfl, rfl⟩
theorem readB_none {s : List UInt8} (h : vals s = none) : readB s = none := by unfold readB; rw [h]; rfl
theorem bytes_loop (n : Nat) {h0 : Heap} {s : List UInt8} (hl : s.length < 400) :
    ∀ (m : Nat) (h : Heap) (ks : List Nat) (o : Sl) (i j bits nb : Nat), UAt h0 h s ks o i j bits nb → nb < 8 → s.length < i + m → Told h0 (readB s) (L11_0 (n + 1000) m ⟨s.toArray⟩ o.a o.n o.c (bits : Int) (nb : Int) (s.length : Int) (i : Int) h) := by
  intro m
  induction m with
  | zero => intro h ks o i j bits nb t h8 h2; have := t.hi; omega
  | succ m ih =>
    intro h ks o i j bits nb t h8 h2
    have hn := t.hn
    have hi := t.hi
    have hlt := t.hlt
    have hkl := vals_len t.hk
    have hil : (s.take i).length = i := by rw [List.length_take]; omega
    have hon : o.n = j := by have := t.ho.len; rw [bcs_len, outs_len] at this; omega
    rw [L11_0_eq]
    by_cases hc : i < s.length
    · rw [decide_eq_true (by omega), cond_true]
      obtain ⟨c, hci⟩ : ∃ c, s[i]? = some c := ⟨_, List.getElem?_eq_getElem hc⟩
      rw [ixS_of hci, Option.bind_some, c19 (n + 998), Option.bind_some]
      simp only
      cases hv : vl c with
      | none =>
        have hz : vlZ c = -1 := by unfold vlZ; rw [hv]
        rw [hz, show decide ((-1 : Int) < 0) = true from rfl, cond_true, readB_none (vals_none (i := i + 1) (by rw [vals_take hci, t.hk, hv]; rfl))]
        exact Told.none' t.kp
      | some k =>
        have hz : vlZ c = (k : Int) := by unfold vlZ; rw [hv]
        have h32 := (vl_lt hv).1
        have t' := t.read hci hv
        have hd : decide ((k : Int) < 0) = false := decide_eq_false (by omega)
        rw [hz, hd, cond_false, shl5, Option.bind_some, or5 bits h32]
        have e1 : IntKind.wrap .i64 ((nb : Int) + 5) = ((nb + 5 : Nat) : Int) := by rw [IntWalk.i64_in _ (by omega)]; rfl
        have e2 : IntKind.wrap .i64 ((i : Int) + 1) = ((i + 1 : Nat) : Int) := by rw [IntWalk.i64_in _ (by omega)]; rfl
        rw [e1, e2]
        by_cases h9 : nb + 5 ≥ 8
        · rw [decide_eq_true (by omega), cond_true]
          have e3 : IntKind.wrap .i64 (((nb + 5 : Nat) : Int) - 8) = ((nb + 5 - 8 : Nat) : Int) := by rw [IntWalk.i64_in _ (by omega)]; omega
          rw [e3, shrI_nat (k := .u64) (by rw [bits_u64]; omega), Option.bind_some]
          obtain ⟨v, hv2⟩ : ∃ v, v = bits * 32 % 18446744073709551616 + k := ⟨_, rfl⟩
          rw [← hv2] at t' ⊢
          have hw : IntKind.wrap .u8 ((v / 2 ^ (nb + 5 - 8) : Nat) : Int) = (((UInt8.ofNat (byK (ks ++ [k]) (8 * j))).toNat : Nat) : Int) := by
            have h32' : ∀ x ∈ ks ++ [k], x < 32 := fun x hx => vals_lt t'.hk x hx
            have hkl' : (ks ++ [k]).length = i + 1 := by rw [List.length_append]; simp; omega
            have hb := byK_num (ks ++ [k]) h32' (i + 1) (8 * j) (by omega) (by omega)
            rw [List.take_of_length_le (by omega), show 5 * (i + 1) - 8 - 8 * j = nb + 5 - 8 by omega] at hb
            have hlt2 := byK_lt (ks ++ [k]) (8 * j)
            have e : (UInt8.ofNat (byK (ks ++ [k]) (8 * j))).toNat = byK (ks ++ [k]) (8 * j) := by rw [UInt8.toNat_ofNat']; omega
            rw [e, hb, IntKind.wrap_u8]
            have hvv := t'.hv
            revert hvv
            generalize numK (ks ++ [k]) = y
            intro hvv
            have : nb + 5 - 8 = 0 ∨ nb + 5 - 8 = 1 ∨ nb + 5 - 8 = 2 ∨ nb + 5 - 8 = 3 ∨ nb + 5 - 8 = 4 := by omega
            rcases this with e | e | e | e | e <;> rw [e] <;> simp only [Nat.reducePow] <;> omega
          rw [hw]
          have ka : Kp h (h ++ [.row true 5 [.int .u8 (((UInt8.ofNat (byK (ks ++ [k]) (8 * j))).toNat : Nat) : Int)]]) [] := Kp.app _ _
          have hown2 := t'.ho.keep ka (fun x _ e => by cases e)
          have hnew : slCells (h ++ [.row true 5 [.int .u8 (((UInt8.ofNat (byK (ks ++ [k]) (8 * j))).toNat : Nat) : Int)]]) 1 ⟨some ⟨h.length, 0, none⟩, 1, 0⟩ = some (bcs [UInt8.ofNat (byK (ks ++ [k]) (8 * j))]) := by
            unfold slCells
            simp [cellsAt, rowOf, bcs]
          obtain ⟨o', h2', ha, ho2, hk2, hn2, hi2⟩ := app_own (by_ := 1) hown2 hnew (by simp only [bound]; omega) (by simp only [bound]; omega)
          rw [ha, Option.bind_some]
          have hlen := t.kp.len
          refine ih h2' (ks ++ [k]) o' (i + 1) (j + 1) v (nb + 5 - 8) ⟨(t.kp.trans ka (fun x hx => hx) (fun y hy => by cases hy)).trans hk2 (fun x hx => hx) (fun y hy h3 => by have := t.hs y hy; omega), fun x hx => ?_, ?_, t'.hi, t'.hk, by omega, t'.hlt, t'.hv⟩ (by omega) (by omega)
          · rcases hi2 x hx with h3 | h3
            · exact t.hs x h3
            · simp at h3; omega
          · rw [outs_succ, bcs_app]; exact ho2
        · rw [decide_eq_false (by omega), cond_false]
          exact ih h (ks ++ [k]) o (i + 1) j _ (nb + 5) t' (by omega) (by omega)
    · rw [decide_eq_false (by omega), cond_false]
      have hil' : i = s.length := by omega
      have hvs := t.hk
      rw [hil', List.take_length] at hvs
      have hj : j = 5 * s.length / 8 := by omega
      obtain ⟨h', h3, h4⟩ := c10 n t.ho.cells (by rw [outs_len]; omega)
      rw [h3, Option.bind_some]
      simp only
      rw [strEq_iff]
      have hk' := t.kp.trans h4 (fun x hx => hx) (fun y hy => by cases hy)
      unfold readB
      rw [hvs, Option.bind_some, ← hj]
      by_cases he : text (outs ks j) = s
      · rw [decide_eq_true he, Bool.not_true, cond_false, if_pos he]
        exact ⟨h', o, hk', t.hs, h4.cells t.ho.cells (fun x _ e => by cases e), (fun e => by cases e), rfl⟩
      · rw [decide_eq_false he, Bool.not_false, cond_true, if_neg he]
        exact Told.none' hk'
theorem e11 (n : Nat) (h : Heap) {s : List UInt8} (hl : s.length < 400) : Told h (readB s) (eF P tab (n + 1001) 11 [.string ⟨s.toArray⟩] h) := by
  have h2 : s.length < 0 + (n + 1000) := Nat.lt_of_lt_of_le hl (Nat.le_trans (Nat.le_add_left 400 (n + 600)) (by rw [Nat.zero_add, Nat.add_assoc]; exact Nat.le_refl _))
  rw [eF_body rfl rfl, f11_eq]
  have hsz : ((⟨s.toArray⟩ : ByteArray).size : Int) = (s.length : Int) := by simp [ByteArray.size]
  rw [hsz]
  have t : UAt h h s [] ⟨none, 0, 0⟩ 0 0 0 0 := ⟨Kp.refl _ _, (fun x hx => by cases hx), Own.nil _ _ _, Nat.zero_le _, (by rw [List.take_zero]; rfl), rfl, by decide, rfl⟩
  exact bytes_loop n hl (n + 1000) h [] ⟨none, 0, 0⟩ 0 0 0 0 t (by decide) h2
end Go.Proofs.Ytfkecgpcamhgkaa
