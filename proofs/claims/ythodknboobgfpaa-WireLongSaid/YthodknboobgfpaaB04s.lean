import Derived.Test.YthodknboobgfpaaB04q
set_option linter.unusedVariables false
set_option linter.unusedSimpArgs false
namespace Go.Proofs.Ythodknboobgfpaa
open Go.Proofs.Ythodknboobgfpaa.Sh Go.Proofs.Ythodknboobgfpaa.Sh.V Go.RowKit
/-! ### Long texts -/
theorem rep_bytes (k : Nat) : repV k [.int .u8 0] = bcs (List.replicate k 0) := by
  induction k with
  | zero => rfl
  | succ k ih => rw [repV, ih, List.replicate_succ', bcs, bcs, List.map_append]; rfl
theorem mk_bytes (H : VH) {k : Nat} (hk : k < 1000000) : V.mkD P false H 5 (k : Int) (k : Int) = some (.hp H.length 0 k, H ++ [.row 5 (bcs (List.replicate k 0))]) := by
  unfold V.mkD
  rw [holdV_eq, show P.bytesOf 5 = 1 by kernel_rfl, if_pos ⟨by omega, by omega, by simp only [bound]; omega, by rw [show IntKind.i64.max = 9223372036854775807 by kernel_rfl]; omega⟩, show V.zeroV P 5 = some [.int .u8 0] by kernel_rfl, Option.bind_some, if_pos (by kernel_rfl), cond_false, Int.toNat_natCast, rep_bytes]
theorem isH_str {H : VH} {s : VS} {l : List UInt8} (h : IsH H s l) : strV H 5 s = some ⟨l.toArray⟩ := by
  rcases h with ⟨rfl, rfl⟩ | ⟨j, rfl, hj⟩
  · rfl
  · unfold strV
    simp only
    by_cases h0 : l.length = 0
    · rw [if_pos h0, List.eq_nil_of_length_eq_zero h0]
    · rw [if_neg h0]
      unfold hpCells takeN
      rw [rowV_of hj, Option.bind_some, bcs_len, if_pos (by omega), Option.bind_some, List.drop_zero, List.take_of_length_le (by rw [bcs_len]; exact Nat.le_refl _)]
      have : (bcs l).map (fun v => [v]) = bs l := by unfold bcs bs; rw [List.map_map]; rfl
      rw [this, bytesOf_bs]
      rfl
theorem isH_set {H : VH} {s : VS} {l : List UInt8} (h : IsH H s l) {i : Nat} (hi : i < l.length) (b : UInt8) : ∃ j, s = .hp j 0 l.length ∧ ixV 1 s (i : Int) = some (.ob j i) ∧ ∃ H', stV H (.ob j i) [.int .u8 (b.toNat : Int)] = some H' ∧ IsH H' s (l.set i b) ∧ Kp H H' [j] := by
  rcases h with ⟨rfl, rfl⟩ | ⟨j, rfl, hj⟩
  · simp at hi
  · refine ⟨j, rfl, ?_, _, st_row hj (by rw [bcs_len]; simp only [List.length_singleton]; omega) rfl, .inr ⟨j, by rw [List.length_set], ?_⟩, Kp.set _ _ _⟩
    · simp only [ixV]
      rw [if_pos (by omega), Int.toNat_natCast, Nat.zero_add, Nat.mul_one]
    · rw [List.getElem?_set_self (lt_of_ob hj)]
      simp only [putAllV, bcs, List.map_set]
theorem isH_len {H : VH} {s : VS} {l : List UInt8} (h : IsH H s l) : s.len = l.length := by
  rcases h with ⟨rfl, rfl⟩ | ⟨i, rfl, _⟩ <;> rfl
theorem stays_ints {H : VH} {i : Nat} {e : TypeId} {cs : List V} (hr : H[i]? = some (.row e cs)) : ∀ (n off : Nat), off + n ≤ cs.length → (∀ v ∈ (cs.drop off).take n, ∃ m, v = .int .u8 m) → V.stays H (heldFrom i off (List.replicate n (.int .u8)) ((cs.drop off).take n)) = true
  | 0, off, _, _ => rfl
  | n + 1, off, hl, hv => by
    have hlt : off < cs.length := by omega
    rw [List.drop_eq_getElem_cons hlt, List.take_succ_cons] at hv ⊢
    obtain ⟨m, hm⟩ := hv _ (List.mem_cons_self ..)
    have ih := stays_ints hr n (off + 1) (by omega) (fun v h => hv v (List.mem_cons_of_mem _ h))
    rw [List.replicate_succ]
    show V.stays H ((.ob i off, .int .u8, cs[off]) :: heldFrom i (off + 1) (List.replicate n (.int .u8)) ((cs.drop (off + 1)).take n)) = true
    unfold V.stays
    rw [ih, ld_row hr, List.getElem?_eq_getElem hlt, Option.bind_some, hm, fd_int]
    simp only [V.fenc, same_self, Bool.and_true]
theorem stays_str {H H' : VH} {s : VS} {l : List UInt8} (h : IsH H s l) (h' : IsH H' s l) : V.stays H' (heldStr H s ++ []) = true := by
  rw [List.append_nil]
  rcases h with ⟨rfl, rfl⟩ | ⟨j, rfl, hj⟩
  · rfl
  · rcases h' with ⟨h1, _⟩ | ⟨j', h1, hj'⟩
    · cases h1
    · injection h1 with h1
      subst h1
      have hc : hpCells H j 0 l.length = some (((bcs l).drop 0).take l.length) := by
        unfold hpCells takeN
        rw [rowV_of hj, Option.bind_some, bcs_len, if_pos (by omega)]
      rw [heldStr_hp hc]
      refine stays_ints hj' l.length 0 (by rw [bcs_len]; omega) (fun v hv => ?_)
      have hv := List.mem_of_mem_take hv
      rw [List.drop_zero] at hv
      obtain ⟨b, _, rfl⟩ := List.mem_map.1 hv
      exact ⟨_, rfl⟩
def tick (c : Nat) : List (List UInt8) := (List.range c).map fun i => [UInt8.ofNat (i % 256)]
theorem tick_succ (c : Nat) : tick (c + 1) = tick c ++ [[UInt8.ofNat (c % 256)]] := by simp [tick, List.range_succ]
theorem tick_len (c : Nat) : (tick c).length = c := by simp [tick]
theorem tick_szs (c : Nat) : szs (tick c) = 3 * c := by
  unfold szs
  induction c with
  | zero => rfl
  | succ c ih => rw [tick_succ, List.map_append, List.flatten_append, List.length_append, ih]; simp [textI, numI]; omega
theorem l6_1 (n : Nat) (hn : 5000 ≤ n) {s7 : VS} {l : List UInt8} (hl : l.length < 4000) {c : Nat} (hc : c < 256) : ∀ (m i : Nat) {H : VH} {s9 : VS}, IsH H s7 l → Ap H 9 s9 (ss (tick i)) → i ≤ c → c < i + m →
    ∃ H', L6_1 (n + 60) m (c : Int) s7 s9 (i : Int) H = some (.bool true, H') := by
  intro m
  induction m with
  | zero => intros; omega
  | succ m ih =>
    intro i H s9 hh ha h1 h2
    rw [L6_1_eq, i64_nat (n := c) (by omega)]
    by_cases hi : i < c
    · rw [decide_eq_true (by omega), cond_true]
      have hz : strV H 5 (.fz [[.int .u8 (IntKind.wrap .u8 (i : Int))]] (.ex 1)) = some ⟨#[UInt8.ofNat (i % 256)]⟩ := by
        rw [bc_wrap, u8_ofNat]
        exact IsB.str (l := [UInt8.ofNat (i % 256)]) (.fz _ _) H 5
      rw [hz, Option.bind_some]
      obtain ⟨s2, H2, g1, g2, g3, _⟩ := ha.app (x := .fz [[.str ⟨#[UInt8.ofNat (i % 256)]⟩]] (.ex 1)) (sz := 1) (by_ := 16) (.fz _ _) (by rw [ss_len, tick_len]; simp only [bound, List.length_singleton]; omega) (by rw [ss_len, tick_len]; simp only [bound, List.length_singleton]; omega)
      rw [g1, Option.bind_some, inc_nat (by omega)]
      refine ih (i + 1) (hh.keep g3 (fun j hj ht => ?_)) ?_ (by omega) (by omega)
      · obtain ⟨g, hg⟩ := ha.tok_at ht
        rcases hh with ⟨h3, _⟩ | ⟨j', h3, h4⟩
        · rw [h3] at hj; cases hj
        · rw [h3] at hj; injection hj with hj; subst hj; rw [h4] at hg; cases hg
      · rw [tick_succ, ss, List.map_append]
        exact g2
    · rw [decide_eq_false (by omega), cond_false]
      have : i = c := by omega
      subst this
      have k0 : Kp H (H ++ [.row (30 + boxK) [.sl 5 .nil]]) [] := Kp.app _ _
      have hj : ∀ j, s7 = .hp j 0 l.length → j < H.length := by
        intro j hj
        rcases hh with ⟨h3, _⟩ | ⟨j', h3, h4⟩
        · rw [h3] at hj; cases hj
        · rw [h3] at hj; injection hj with hj; subst hj; exact lt_of_ob h4
      have h0 := hh.keep k0 (by simp)
      rw [isH_str h0, Option.bind_some]
      have hsz := tick_szs i
      have htl := tick_len i
      obtain ⟨H1, T1, g1, g2, g3, g4⟩ := e29 (n + 57) (WS.new H) l (by simp only [List.length_nil]; omega)
      rw [callD_ptr g1, Option.bind_some]
      have kp1 : Kp H H1 [] := k0.trans g3 (fun x hx _ => hx) (fun y hy hl => by rw [List.mem_singleton] at hy; omega)
      obtain ⟨H2, T2, q1, q2, q3, q4⟩ := e30 (n + 56) g2 (s := s9) (ls := tick i) ha.isE (by rw [List.nil_append, textI_len]; omega) (by omega)
      simp only
      rw [callD_ptr q1, Option.bind_some]
      have kp2 : Kp H H2 [] := kp1.trans q3 (fun x hx _ => hx) (fun y hy hl => by
        rcases List.mem_cons.1 hy with rfl | hy
        · omega
        · rcases g4 y hy with h5 | h5
          · cases h5
          · simp only [List.length_append] at h5; omega)
      have hlen2 : ([] ++ textI l ++ textsI (tick i)).length < 900000 := by
        simp only [List.nil_append, List.length_append, textI_len, textsI, List.length_cons]
        unfold szs at hsz
        omega
      obtain ⟨s', H3, r1, r2, r3, r4⟩ := e13 (n + 58) q2 (by omega)
      obtain ⟨s3, H4, r5, r6, X, r7, r8⟩ := callD_frz r1 r2
      simp only
      rw [r5, Option.bind_some]
      obtain ⟨k, H5, t1, t2, t3, t4, t5⟩ := e14 (n + 58) (H := H4) (Rd.ofB H4 r6) (by omega)
      simp only
      rw [callD_ptr t1, Option.bind_some]
      have kp3 : Kp H H4 [] := (kp2.trans r4 (fun x hx _ => hx) (fun y hy _ => hy)).trans r7 (fun x hx _ => hx) (fun y hy hl => by
        have := r3 y (r8 y hy); have := kp2.len; omega)
      have kp4 : Kp H H5 [] := kp3.trans t4 (fun x hx _ => hx) (fun y hy _ => hy)
      have h5 := hh.keep kp4 (by simp)
      have hkH : H.length ≤ k := Nat.le_trans kp3.len t3
      simp only
      rw [isH_str h5, Option.bind_some]
      rw [List.nil_append] at t2
      obtain ⟨H6, v1, v2, v3, v4⟩ := e20 (n + 55) t2 (by omega)
      rw [textS_app _ _ (by omega)] at v1 v2
      rw [callD_str v1, Option.bind_some]
      have nk : ∀ j, s7 = .hp j 0 l.length → j ∉ [k] := fun j h6 h7 => by have := hj j h6; rw [List.mem_singleton] at h7; omega
      have h6 := h5.keep v3 nk
      simp only
      rw [stays_str h5 h6, cond_true, strEq_self, cond_true]
      obtain ⟨s10, H7, w1, w1e, w2, w3⟩ := e23 (n + 54) v2 (by omega) 255
      rw [show ((255 : Nat) : Int) = 255 from rfl] at w1
      have e0 : textsS 255 (textsI (tick i)) false = (tick i, [], false) := by
        have := textsS_app (tick i) [] 255 (fun y hy => by
          obtain ⟨a, _, rfl⟩ := List.mem_map.1 hy; simp) (by omega) (by omega)
        rwa [List.append_nil] at this
      rw [e0] at w1e w2
      simp only at w1e w2
      rw [callD_sl w1, Option.bind_some]
      have h7 := h6.keep w3 nk
      simp only
      rw [stays_str h5 h7, cond_true, callD_bool (e22 (n + 59) w1e ha.isE (by omega) (by omega)), Option.bind_some]
      simp only
      rw [stays_str h5 h7, cond_true, cond_true, callD_int (e16 (n + 58) w2), Option.bind_some]
      simp only
      rw [stays_str h5 h7, cond_true]
      exact ⟨H7, rfl⟩
theorem l6_0 (n : Nat) (hn : 5000 ≤ n) (b : UInt8) {c k : Nat} (hc : c < 4000) (hk : k < 256) {s7 : VS} : ∀ (m i : Nat) {H : VH} {l : List UInt8}, IsH H s7 l → l.length = c → i ≤ c → c < i + m →
    ∃ H', L6_0 (n + 60) m (k : Int) (b.toNat : Int) s7 (i : Int) H = some (.bool true, H') := by
  intro m
  induction m with
  | zero => intros; omega
  | succ m ih =>
    intro i H l h hl h1 h2
    rw [L6_0_eq, isH_len h, hl]
    by_cases hi : i < c
    · rw [decide_eq_true (by omega), cond_true]
      obtain ⟨j, g1, g2, H', g3, g4, g5⟩ := isH_set h (i := i) (by omega) b
      rw [g2, Option.bind_some, g3, Option.bind_some, inc_nat (by omega)]
      exact ih (i + 1) g4 (by rw [List.length_set]; exact hl) (by omega) (by omega)
    · rw [decide_eq_false (by omega), cond_false]
      exact l6_1 n hn (l := l) (by omega) hk (n + 60) 0 h .nil (by omega) (by omega)
theorem wireLong (n : Nat) (hn : 5000 ≤ n) {a k : Nat} (_ha : a < 65536) (hk : k < 256) (b : UInt8) (H : VH) : ∃ H', vF P tab (n + 61) 6 [.int .u16 (a : Int), .int .u8 (k : Int), .int .u8 (b.toNat : Int)] H = some (.bool true, H') := by
  rw [vF_body rfl, f6_eq, c9 n H, Option.bind_some]
  simp only [Bool.not_true, cond_false]
  rw [show (4000 : Int) = ((4000 : Nat) : Int) from rfl, remI_nat (by decide), Option.bind_some, i64_nat (n := a % 4000) (by omega), mk_bytes H (by omega), Option.bind_some]
  exact l6_0 n hn b (c := a % 4000) (by omega) hk (n + 60) 0 (l := List.replicate (a % 4000) 0) (.inr ⟨H.length, by simp, by simp⟩) (by simp) (by omega) (by omega)
theorem wireLong_law (us : List V) (h : HasAs P [51, 5, 5] us) : ∃ n H', vF P tab n 6 us [] = some (.bool true, H') := by
  match us, h with
  | [u0, u1, u2], ⟨h0, h1, h2, _⟩ =>
    obtain ⟨x, rfl, hx⟩ := hasA_int (k := .u16) (by kernel_rfl) h0
    obtain ⟨y, rfl, hy⟩ := hasA_int (k := .u8) (by kernel_rfl) h1
    obtain ⟨z, rfl, hz⟩ := hasA_int (k := .u8) (by kernel_rfl) h2
    obtain ⟨x1, x2⟩ := wf_u16 hx
    obtain ⟨y1, y2⟩ := wf_u8 hy
    obtain ⟨a, rfl⟩ : ∃ a : Nat, x = (a : Int) := ⟨x.toNat, by omega⟩
    obtain ⟨k, rfl⟩ : ∃ a : Nat, y = (a : Int) := ⟨y.toNat, by omega⟩
    rw [u8_wf hz]
    exact ⟨_, wireLong 5000 (by omega) (by omega) (by omega) _ []⟩
end Go.Proofs.Ythodknboobgfpaa
