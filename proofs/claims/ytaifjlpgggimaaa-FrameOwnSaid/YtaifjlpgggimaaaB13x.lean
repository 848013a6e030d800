import Derived.Test.YtaifjlpgggimaaaB13q
set_option maxRecDepth 100000
set_option linter.unusedVariables false
set_option linter.unusedSimpArgs false
namespace Go.Proofs.Ytaifjlpgggimaaa
open Go.Proofs.Ytaifjlpgggimaaa.Sh Go.Proofs.Ytaifjlpgggimaaa.Sh.V Go.RowKit
/-! ### FrameOwn -/
theorem one_ok (n : Nat) (H : VH) : vF P tab (n + 60) 9 [] H = some (.bool true, H) := by kernel_rfl
theorem one_c (n : Nat) (H : VH) {β : Type} (f : Bool × VH → Option β) : ((callD (vF P tab (n + 60)) P false (.one (.flat .bool)) 9 [] H).bind f) = f (true, H) := by rw [callD_bool (one_ok n H)]; rfl
theorem n15 (n : Nat) (v : VS) (H : VH) : vF P tab (n + 3) 15 [.ptr .nil, .sl 5 v] H = some (.sl 25 .nil, H) := by
  rw [vF_body rfl, f15_eq, callD_bool (H' := H) (x := false) (by rw [vF_body rfl, f17_eq]; rfl), Option.bind_some]
  simp only [cond_false, VP.isNil, Bool.not_true]
  rw [L15_0_eq]
  rfl
theorem n17 (n : Nat) (H : VH) : vF P tab (n + 1) 17 [.ptr .nil] H = some (.bool false, H) := by rw [vF_body rfl, f17_eq]; rfl
theorem n16 (n : Nat) (H : VH) : vF P tab (n + 1) 16 [.ptr .nil] H = some (.int .i64 0, H) := by rw [vF_body rfl, f16_eq]; rfl
theorem bs_set (l : List UInt8) (i b : Nat) (hb : b < 256) : (bs l).set i [.int .u8 (b : Int)] = bs (l.set i (UInt8.ofNat b)) := by
  unfold bs
  rw [List.map_set]
  congr 1
  unfold bc
  rw [UInt8.toNat_ofNat', Nat.mod_eq_of_lt (by omega)]
theorem hr_no {H : VH} {e e' : TypeId} {sz sz' : Nat} {s q : VS} {es es' : List (List V)} (h : Hr H e sz s es) (h' : Hr H e' sz' q es') (hne : e ≠ e') : ∀ t ∈ hps q, t ∉ hps s := fun t ht hm => by
  obtain ⟨_, cs, hc⟩ := h.lt t hm
  obtain ⟨_, ds, hd⟩ := h'.lt t ht
  rw [hc] at hd
  injection hd with hd
  injection hd with hd _
  exact hne hd
theorem so_no {H : VH} {k : Nat} {sp sq : VS} {l m : List UInt8} (h : SO H k sp l) (h' : HB H sq m) : k ∉ hps sq := fun hm => by
  obtain ⟨_, cs, hc⟩ := h'.lt k hm
  rw [h.o] at hc
  injection hc with hc
  injection hc with hc _
  revert hc; decide
theorem l71 (n : Nat) (hn : 700 ≤ n) {s0 s5 : VS} {q : List UInt8} (hs0 : IsB s0 q) (hs5 : IsB s5 (textI q)) (hq : 1 ≤ q.length) (hq2 : q.length ≤ 100) {b : Nat} (hbb : b < 256) {k : Nat} {s9 sq sp : VS} : ∀ (m i : Nat) {H : VH} {l : List UInt8}, SO H k sp [] → Hr H 25 1 s9 [[.sl 5 sq]] → HB H sq l → l.length = q.length → (∀ t ∈ hps sq, t ∉ hps sp) → i ≤ l.length → l.length < i + m →
    ∃ H', L7_1 n m s0 (b : Int) s5 (.ob k 0) s9 (i : Int) H = some (.bool true, H') := by
  intro m
  induction m with
  | zero => intros; omega
  | succ m ih =>
    intro i H l h h9 hb hl hd hi hm
    have r9 : ∀ {β : Type} (f : VS → Option β), ((ixV 1 s9 0).bind fun p1 => (ldV (.flat (.slice 5)) H p1).bind f) = f sq := fun f => h9.rd1 (i := 0) (τ := .slice 5) (v := .sl 5 sq) rfl (fd_sl 5 sq) f
    rw [L7_1_eq, r9, hb.len, bs_len]
    by_cases c : i < l.length
    · have hdt : decide ((i : Int) < (l.length : Int)) = true := decide_eq_true (by omega)
      rw [hdt, cond_true, r9]
      obtain ⟨H1, a1, a2, a3, a4⟩ := Hr.set hb (i := i) (by rw [bs_len]; exact c) (z := [.int .u8 (b : Int)]) rfl rfl (fun h6 => L7_1 n m s0 (b : Int) s5 (.ob k 0) s9 (IntKind.wrap .i64 ((i : Int) + 1)) h6)
      rw [a1, inc_nat (by omega)]
      rw [bs_set _ _ _ hbb] at a2
      exact ih (i + 1) (h.keep a3 (so_no h hb) (fun t ht hm => hd t hm ht)) (h9.keep a3 (hr_no hb h9 (by decide))) a2 (by rw [List.length_set]; exact hl) hd (by rw [List.length_set]; omega) (by rw [List.length_set]; omega)
    · have hdt : decide ((i : Int) < (l.length : Int)) = false := decide_eq_false (by omega)
      rw [hdt, cond_false]
      obtain ⟨N, rfl⟩ : ∃ N, n = N + 2 := ⟨n - 2, by omega⟩
      obtain ⟨s', sq', sp', H1, a1, a2, a3, a4, a5, a6, a7, a8, a9⟩ := feed2 N (by omega) h (x := s5) (r := textI q) (fun k => RB.b hs5) (q := q) (by simp) hq (by omega)
      have r1 : ∀ {β : Type} (f : VS → Option β), ((ixV 1 s' 0).bind fun p1 => (ldV (.flat (.slice 5)) H1 p1).bind f) = f sq' := fun f => a2.rd1 (i := 0) (τ := .slice 5) (v := .sl 5 sq') rfl (fd_sl 5 sq') f
      have hne : q ≠ [] := fun h => by rw [h] at hq; simp at hq
      rw [callD_sl a1, Option.bind_some]
      simp only
      rw [a2.len, show (((([[V.sl 5 sq']] : List (List V)).length : Nat) : Int) == 1) = true from rfl, cond_true, r1, callD_bool (e21h (N + 1) a3 hne hs0 (by omega) (by omega)), Option.bind_some]
      simp only
      obtain ⟨M, rfl⟩ : ∃ M, N = M + 1 := ⟨N - 1, by omega⟩
      rw [cond_true, callD_sl (n15 M s5 H1), Option.bind_some]
      simp only
      rw [show ((((VS.nil).len : Nat) : Int) == 0) = true from rfl, cond_true, callD_bool (n17 (M + 2) H1), Option.bind_some]
      simp only
      rw [Bool.not_false, cond_true, callD_int (n16 (M + 2) H1), Option.bind_some]
      exact ⟨H1, rfl⟩
theorem l70 (n : Nat) (hn : 700 ≤ n) {s0 s5 : VS} {q : List UInt8} (hs0 : IsB s0 q) (hs5 : IsB s5 (textI q)) (hq : 1 ≤ q.length) (hq2 : q.length ≤ 100) {b : Nat} (hbb : b < 256) {k : Nat} {s6 sp : VS} : ∀ (m i : Nat) {H : VH} {l : List UInt8}, SO H k sp ((textI q).take (1 + q.length)) → HB H s6 l → l.length = 1 + q.length → (∀ t ∈ hps s6, t ∉ hps sp) → i ≤ l.length → l.length < i + m →
    ∃ H', L7_0 n m s0 (b : Int) s5 s6 (.ob k 0) (i : Int) H = some (.bool true, H') := by
  intro m
  induction m with
  | zero => intros; omega
  | succ m ih =>
    intro i H l h hb hl hd hi hm
    rw [L7_0_eq, hb.len, bs_len]
    have htl : (textI q).length = 2 + q.length := textI_len q
    by_cases c : i < l.length
    · have hdt : decide ((i : Int) < (l.length : Int)) = true := decide_eq_true (by omega)
      rw [hdt, cond_true]
      obtain ⟨H1, a1, a2, a3, a4⟩ := Hr.set hb (i := i) (by rw [bs_len]; exact c) (z := [.int .u8 (b : Int)]) rfl rfl (fun h6 => L7_0 n m s0 (b : Int) s5 s6 (.ob k 0) (IntKind.wrap .i64 ((i : Int) + 1)) h6)
      rw [a1, inc_nat (by omega)]
      rw [bs_set _ _ _ hbb] at a2
      exact ih (i + 1) (h.keep a3 (so_no h hb) (fun t ht hm => hd t hm ht)) a2 (by rw [List.length_set]; exact hl) hd (by rw [List.length_set]; omega) (by rw [List.length_set]; omega)
    · have hdt : decide ((i : Int) < (l.length : Int)) = false := decide_eq_false (by omega)
      obtain ⟨z3, c1, c2, _⟩ := IsE.cut hs5 (lo := 1 + q.length) (hi := (bs (textI q)).length) (by rw [bs_len]; omega) (Nat.le_refl _) (lo' := some ((1 + q.length : Nat) : Int)) (hi' := none) (mx' := none) (.inl rfl) (.inr ⟨rfl, rfl⟩) (.inl rfl) H 5 1
      rw [List.take_length, bs_drop] at c2
      have ew : IntKind.wrap .i64 (((textI q).length : Int) - 1) = ((1 + q.length : Nat) : Int) := by rw [i64_in (by omega)]; omega
      rw [hdt, cond_false, hs5.len, bs_len, ew, c1, Option.bind_some]
      obtain ⟨N, rfl⟩ : ∃ N, n = N + 2 := ⟨n - 2, by omega⟩
      obtain ⟨s', sq', sp', H1, a1, a2, a3, a4, a5, a6, a7, a8, a9⟩ := feed2 N (by omega) h (x := z3) (r := (textI q).drop (1 + q.length)) (fun k => RB.b c2) (q := q) (List.take_append_drop _ _) hq (by omega)
      have r1 : ∀ {β : Type} (f : VS → Option β), ((ixV 1 s' 0).bind fun p1 => (ldV (.flat (.slice 5)) H1 p1).bind f) = f sq' := fun f => a2.rd1 (i := 0) (τ := .slice 5) (v := .sl 5 sq') rfl (fd_sl 5 sq') f
      have hne : q ≠ [] := fun h => by rw [h] at hq; simp at hq
      rw [callD_sl a1, Option.bind_some]
      simp only
      rw [a2.len, show (((([[V.sl 5 sq']] : List (List V)).length : Nat) : Int) != 1) = false from rfl, cond_false, r1, callD_bool (e21h (N + 1) a3 hne hs0 (by omega) (by omega)), Option.bind_some]
      simp only
      rw [Bool.not_true, cond_false]
      obtain ⟨H2, g⟩ := l71 (N + 2) hn hs0 hs5 hq hq2 hbb (N + 2) 0 a4 a2 a3 rfl a8 (Nat.zero_le _) (by omega)
      rw [show ((0 : Nat) : Int) = 0 from rfl] at g
      exact ⟨H2, g⟩
theorem frameOwn (n : Nat) (hn : 700 ≤ n) {s0 : VS} {q : List UInt8} (hs0 : IsB s0 q) {b : Nat} (hbb : b < 256) (H : VH) : ∃ H', vF P tab (n + 61) 7 [.sl 5 s0, .int .u8 (b : Int)] H = some (.bool true, H') := by
  rw [vF_body rfl, f7_eq, one_c n, show (!(true, H).1) = false from rfl, cond_false, hs0.len, bs_len]
  by_cases c0 : q.length = 0
  · rw [show (((q.length : Nat) : Int) == 0) = true by rw [c0]; rfl, cond_true, one_c n]
    exact ⟨H, rfl⟩
  rw [show (((q.length : Nat) : Int) == 0) = false by rw [beq_eq_false_iff_ne]; omega, cond_false]
  by_cases c1 : 100 < q.length
  · have hd : decide ((q.length : Int) > 100) = true := decide_eq_true (by omega)
    rw [hd, cond_true, one_c n]
    exact ⟨H, rfl⟩
  have hd : decide ((q.length : Int) > 100) = false := decide_eq_false (by omega)
  have htl : (textI q).length = 2 + q.length := textI_len q
  obtain ⟨s5, a1, a2⟩ := e20h (n + 58) (H := H) hs0 (by omega)
  obtain ⟨z6, b1, b2, _⟩ := IsE.cut a2 (lo := 0) (hi := 1 + q.length) (by omega) (by rw [bs_len]; omega) (lo' := none) (hi' := some ((1 + q.length : Nat) : Int)) (mx' := none) (.inr ⟨rfl, rfl⟩) (.inl rfl) (.inl rfl) H 5 1
  rw [List.drop_zero, bs_take] at b2
  have ew : IntKind.wrap .i64 (((textI q).length : Int) - 1) = ((1 + q.length : Nat) : Int) := by rw [i64_in (by omega)]; omega
  obtain ⟨s7, H1, d1, d2, d3, d4⟩ := e11h (n + 59) (H := H) b2 (show IsB .nil [] from .nil) (by rw [List.length_take, List.length_nil]; omega)
  rw [List.append_nil] at d2
  rw [hd, cond_false, callD_sl a1, Option.bind_some]
  simp only
  rw [a2.len, bs_len, ew, b1, Option.bind_some, callD_sl d1, Option.bind_some]
  simp only
  have e13 : vF P tab (n + 60) 13 [] H1 = some (.ptr (.ob H1.length 0), H1 ++ [.row ST [.sl 5 .nil, .bool false]]) := by rw [vF_body rfl, f13_eq]
  have k1 : Kp H1 (H1 ++ [VO.row ST [.sl 5 .nil, .bool false]]) [] := Kp.app _ _
  have so : SO (H1 ++ [VO.row ST [.sl 5 .nil, .bool false]]) H1.length .nil [] := ⟨by simp, Hr.nil _ _ _⟩
  have hb := d2.keep k1 (fun t _ => by simp)
  rw [callD_ptr e13, Option.bind_some]
  simp only
  have ez : (textI q).take (1 + q.length) = numI ((q.length : Nat) : Int) ++ q.take (q.length - 1) := by
    unfold textI
    rw [List.take_append, numI_len]
    rw [List.take_of_length_le (by rw [numI_len]; omega)]
    congr 2
    omega
  obtain ⟨sp', H2, f1, f2, f3, f4⟩ := feed1 (n + 58) (by omega) so (x := s7) (r := (textI q).take (1 + q.length)) (fun kk => RB.h (hb.keep kk (fun t _ => by simp))) (m := q.length) (z := q.take (q.length - 1)) (by rw [List.nil_append]; exact ez) (by omega) (by omega) (by rw [List.length_take]; omega)
  rw [List.nil_append] at f2
  rw [callD_sl f1, Option.bind_some]
  simp only
  have hb2 := hb.keep f3 (fun t ht => by
    rw [List.mem_singleton]
    rintro rfl
    have := (d2.lt _ ht).1
    omega)
  obtain ⟨H3, g⟩ := l70 (n + 60) (by omega) hs0 a2 (by omega) (by omega) hbb (n + 60) 0 f2 hb2 (by rw [List.length_take]; omega) (fun t ht hm => by
    have h1 := (d2.lt t ht).1
    have h2 := f4 t hm
    rw [List.length_append] at h2
    omega) (Nat.zero_le _) (by rw [List.length_take]; omega)
  rw [show ((0 : Nat) : Int) = 0 from rfl] at g
  exact ⟨H3, g⟩
theorem frameOwn_law (us : List V) (h : HasAs P [25, 5] us) : ∃ n H', vF P tab n 7 us [] = some (.bool true, H') := by
  match us, h with
  | [u0, u1], ⟨h0, h1, _⟩ =>
    obtain ⟨s, l, rfl, i1, _⟩ := hasA_bytes (e := 5) (by kernel_rfl) (by kernel_rfl) h0
    obtain ⟨b, rfl, w⟩ := hasA_int (k := .u8) (by kernel_rfl) h1
    obtain ⟨p1, p2⟩ := wf_u8 w
    obtain ⟨c, rfl⟩ : ∃ c : Nat, b = (c : Int) := ⟨b.toNat, by omega⟩
    obtain ⟨N, hN⟩ : ∃ N, 700 ≤ N := ⟨700, Nat.le_refl _⟩
    exact ⟨_, frameOwn N hN i1 (by omega) []⟩
end Go.Proofs.Ytaifjlpgggimaaa
