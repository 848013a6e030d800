import Derived.Test.YtcnigofmjffamaaDoorB11rc
set_option maxRecDepth 100000
set_option linter.unusedVariables false
set_option linter.unusedSimpArgs false
namespace Go.Proofs.YtcnigofmjffamaaDoor
open Go.Proofs.YtcnigofmjffamaaDoor.Sh Go.Proofs.YtcnigofmjffamaaDoor.Sh.V Go.RowKit
/-! ### RequestMany -/
structure SB (H0 H : VH) (k : Nat) (sr : VS) (a : Nat) : Prop where
  kp : Kp H0 H []
  ob : H[k]? = some (.row QT [.int .u8 1, .str ⟨#[110]⟩, .str ⟨#[]⟩, .sl 5 .nil, .sl 9 sr, .sl 34 .nil])
  r : Hr H 9 1 sr (ss (List.replicate a [114]))
  fr : ∀ t ∈ hps sr, H0.length ≤ t
theorem l4s (N : Nat) (hN : 70000 ≤ N) {c1 k9 k : Nat} {H0 : VH} (hk : H0.length ≤ k) {so : VS} {es : List (List V)} (hst : ST H0 k9 so es) (hes : es.length ≤ 6) : ∀ (m j : Nat) {H : VH} {sr : VS}, SB H0 H k sr j → j ≤ c1 % 20 → c1 % 20 < j + m → ∃ H', L4_2 (N + 20) m c1 k9 k (j : Int) H = some (.bool true, H') := by
  intro m
  induction m with
  | zero => intros; omega
  | succ m ih =>
    intro j H sr h hj hm
    rw [L4_2_eq, show (20 : Int) = ((20 : Nat) : Int) from rfl, remI_nat (by decide), Option.bind_some, i64_nat (by omega)]
    by_cases c : j < c1 % 20
    · rw [decide_eq_true (by omega), cond_true]
      have l2 : ldV (.flat (.slice 9)) H (.ob k 4) = some sr := by rw [ld_row h.ob]; exact fd_sl 9 sr
      rw [l2, Option.bind_some]
      obtain ⟨s', H1, H2, b1, b2, b3, b4, b5, b6, b7⟩ := pushF (f := 4) (v := .str ⟨#[114]⟩) (by_ := 16) hk h.kp h.ob (by simp) (by decide) h.r h.fr rfl (by omega) (by rw [ss_len]; simp; omega)
      rw [b1, Option.bind_some]
      simp only
      rw [b2, Option.bind_some, inc_nat (by omega)]
      exact ih (j + 1) ⟨b3, b4, by rw [← ss_rep]; exact b5, b6⟩ (by omega) (by omega)
    · rw [decide_eq_false (by omega), cond_false]
      have hj2 : j = c1 % 20 := by omega
      rw [ld_q h.ob, Option.bind_some]
      simp only
      obtain ⟨s6, H1, a1, a2, a3⟩ := c15s (N + 9) (by omega) (a := j) (by omega) h.r
      rw [a1, Option.bind_some]
      simp only
      obtain ⟨t3, t4, t5, d1, d2⟩ := lone14 14 rfl (N + 5) (fun hs hl => b14 (N + 5) (by omega) hs hl) a2 (encS j (by omega)) H1
      rw [d1, Option.bind_some]
      simp only
      obtain ⟨H2, f1, _, _, _⟩ := box_new H1 QT (zs := Z6) (cs := [.int .u8 ((decP (encP (rS j))).1.kind : Int), .str ⟨(decP (encP (rS j))).1.root.toArray⟩, .str ⟨(decP (encP (rS j))).1.path.toArray⟩, .sl 5 t3, .sl 9 t4, .sl 34 t5]) rfl rfl
      have f2 := box_kp H1 QT (zs := Z6) (cs := [.int .u8 ((decP (encP (rS j))).1.kind : Int), .str ⟨(decP (encP (rS j))).1.root.toArray⟩, .str ⟨(decP (encP (rS j))).1.path.toArray⟩, .sl 5 t3, .sl 9 t4, .sl 34 t5]) rfl rfl f1
      rw [f1, Option.bind_some]
      have hst2 := ((hst.kp h.kp).kp a3).kp f2
      rw [ld_q hst2.ob, Option.bind_some]
      simp only
      obtain ⟨s7, H3, l, g1, g2, g3⟩ := c15r (N + 9) (by omega) hst2.o hes hst2.e
      rw [g1, Option.bind_some]
      simp only
      rw [e11 (N + 4) (by omega) g2 g3 H3, Option.bind_some]
      simp only [cond_true, Option.bind_some]
      refine ⟨H3, ?_⟩
      rw [decS j (by omega), i64_nat (by omega), ← hj2, beq_self_eq_true]
theorem l4 (N : Nat) (hN : 70000 ≤ N) {c0 c1 c2 c3 k9 : Nat} : ∀ (m i : Nat) {H : VH} {so : VS} {es : List (List V)}, ST H k9 so es → es.length = i → i ≤ c0 % 7 → c0 % 7 < i + m → ∃ H', L4_0 (N + 20) m c0 c1 c2 c3 k9 (i : Int) H = some (.bool true, H') := by
  intro m
  induction m with
  | zero => intros; omega
  | succ m ih =>
    intro i H so es hst hl hi hm
    rw [L4_0_eq, show (7 : Int) = ((7 : Nat) : Int) from rfl, remI_nat (by decide), Option.bind_some, i64_nat (by omega)]
    by_cases c : i < c0 % 7
    · rw [decide_eq_true (by omega), cond_true]
      obtain ⟨H1, a1, a2, a3, a4⟩ := box_new H OT (zs := [.str ⟨#[]⟩, .sl 5 .nil, .sl 9 .nil, .sl 3 .nil]) (cs := [.str ⟨#[110]⟩, .sl 5 .nil, .sl 9 .nil, .sl 3 .nil]) rfl rfl
      have a5 := box_kp H OT (zs := [.str ⟨#[]⟩, .sl 5 .nil, .sl 9 .nil, .sl 3 .nil]) (cs := [.str ⟨#[110]⟩, .sl 5 .nil, .sl 9 .nil, .sl 3 .nil]) rfl rfl a1
      rw [a1, Option.bind_some]
      rw [show (0 : Int) = ((0 : Nat) : Int) from rfl]
      refine l4r (N + 20) m (H0 := H) (Nat.le_refl _) (Q := fun z : VRes => ∃ H', z = some (.bool true, H')) ?_ (N + 20) 0 ⟨a5, a2, Hr.nil _ _ _, Hr.nil _ _ _, fun t ht => (by cases ht), fun t ht => (by cases ht)⟩ (by omega) (by omega)
      intro H2 sr hob
      rw [show (0 : Int) = ((0 : Nat) : Int) from rfl]
      refine l4n (N + 20) m (H0 := H) (Nat.le_refl _) (Q := fun z : VRes => ∃ H', z = some (.bool true, H')) ?_ (N + 20) 0 hob rfl (by omega) (by omega)
      intro H3 sr sn ns hob hns
      obtain ⟨so', H4, es', e1, e2, e3⟩ := fin4_eq (N + 20) m (s0 := (c0 : Int)) (s1 := (c1 : Int)) (s2 := (c2 : Int)) (s3 := (c3 : Int)) hst hl (by omega) (by omega) hob hns
      rw [e1]
      exact ih (i + 1) e2 e3 (by omega) (by omega)
    · rw [decide_eq_false (by omega), cond_false]
      obtain ⟨H1, a1, a2, a3, a4⟩ := box_new H QT (zs := Z6) (cs := [.int .u8 1, .str ⟨#[110]⟩, .str ⟨#[]⟩, .sl 5 .nil, .sl 9 .nil, .sl 34 .nil]) rfl rfl
      have a5 := box_kp H QT (zs := Z6) (cs := [.int .u8 1, .str ⟨#[110]⟩, .str ⟨#[]⟩, .sl 5 .nil, .sl 9 .nil, .sl 34 .nil]) rfl rfl a1
      rw [a1, Option.bind_some]
      rw [show (0 : Int) = ((0 : Nat) : Int) from rfl]
      exact l4s N hN (H0 := H) (Nat.le_refl _) hst (by omega) (N + 20) 0 ⟨a5, a2, Hr.nil _ _ _, fun t ht => by cases ht⟩ (by omega) (by omega)
theorem requestMany_law (us : List V) (h : HasAs P [5, 5, 5, 5] us) : ∃ n H', vF P tab n 4 us [] = some (.bool true, H') := by
  match us, h with
  | [u0, u1, u2, u3], ⟨h0, h1, h2, h3, _⟩ =>
    obtain ⟨x0, rfl, hx0⟩ := hasA_int (k := .u8) (by kernel_rfl) h0
    obtain ⟨x1, rfl, hx1⟩ := hasA_int (k := .u8) (by kernel_rfl) h1
    obtain ⟨x2, rfl, hx2⟩ := hasA_int (k := .u8) (by kernel_rfl) h2
    obtain ⟨x3, rfl, hx3⟩ := hasA_int (k := .u8) (by kernel_rfl) h3
    obtain ⟨y0, y0'⟩ := wf_u8 hx0
    obtain ⟨y1, y1'⟩ := wf_u8 hx1
    obtain ⟨y2, y2'⟩ := wf_u8 hx2
    obtain ⟨y3, y3'⟩ := wf_u8 hx3
    obtain ⟨c0, rfl⟩ : ∃ k : Nat, x0 = (k : Int) := ⟨x0.toNat, by omega⟩
    obtain ⟨c1, rfl⟩ : ∃ k : Nat, x1 = (k : Int) := ⟨x1.toNat, by omega⟩
    obtain ⟨c2, rfl⟩ : ∃ k : Nat, x2 = (k : Int) := ⟨x2.toNat, by omega⟩
    obtain ⟨c3, rfl⟩ : ∃ k : Nat, x3 = (k : Int) := ⟨x3.toNat, by omega⟩
    obtain ⟨N, hN⟩ : ∃ N, 70000 ≤ N := ⟨70000, Nat.le_refl _⟩
    obtain ⟨M, rfl⟩ : ∃ M, N = M + 40 := ⟨N - 40, by omega⟩
    refine ⟨M + 40 + 21, ?_⟩
    rw [vF_body rfl, f4_eq, callD_bool (lone_ok M []), Option.bind_some]
    simp only [Bool.not_true, cond_false]
    obtain ⟨H1, a1, a2, a3, a4⟩ := box_new [] QT (zs := Z6) (cs := [.int .u8 7, .str ⟨#[]⟩, .str ⟨#[]⟩, .sl 5 .nil, .sl 9 .nil, .sl 34 .nil]) rfl rfl
    rw [a1, Option.bind_some]
    rw [show (0 : Int) = ((0 : Nat) : Int) from rfl]
    exact l4 (M + 40) hN (M + 40 + 20) 0 ⟨a2, Hr.nil _ _ _, fun y hy => by cases hy⟩ rfl (by omega) (by omega)
end Go.Proofs.YtcnigofmjffamaaDoor
