import Derived.Test.YthodknboobgfpaaB04p
set_option linter.unusedVariables false
set_option linter.unusedSimpArgs false
namespace Go.Proofs.Ythodknboobgfpaa
open Go.Proofs.Ythodknboobgfpaa.Sh Go.Proofs.Ythodknboobgfpaa.Sh.V Go.RowKit
/-! ### What is read back -/
theorem takeS_app (p r : List UInt8) {c : Nat} (h : p.length = c) : takeS c (p ++ r) false = (p, r, false) := by
  unfold takeS
  rw [if_neg (by simp), if_neg (by simp only [List.length_append]; omega)]
  subst h
  simp
theorem numA_numI (x : Int) : numA 0 (numI x) = (x % 65536).toNat := by
  simp only [numA, numI, List.foldl_cons, List.foldl_nil, u8, UInt8.toNat_ofNat']
  omega
theorem numA_wideN {x : Nat} (hx : x < 18446744073709551616) : ∀ i, i ≤ 8 → numA 0 (wideN x i) = x / 2 ^ (64 - 8 * i) := by
  intro i
  induction i with
  | zero => intro _; simp only [wideN, List.range_zero, List.map_nil, numA, List.foldl_nil, Nat.mul_zero, Nat.sub_zero]; exact (Nat.div_eq_of_lt hx).symm
  | succ i ih =>
    intro h
    rw [wideN_succ, numA_snoc, ih (by omega), UInt8.toNat_ofNat']
    have e1 : x / 2 ^ (64 - 8 * i) = x / 2 ^ (56 - 8 * i) / 256 := by
      rw [Nat.div_div_eq_div_mul]
      congr 1
      rw [show 64 - 8 * i = (56 - 8 * i) + 8 by omega, Nat.pow_add]
    have e2 : 64 - 8 * (i + 1) = 56 - 8 * i := by omega
    have e3 : x / 2 ^ (56 - 8 * i) ≤ x := Nat.div_le_self _ _
    rw [e1, e2]
    generalize x / 2 ^ (56 - 8 * i) = y at *
    omega
theorem numA_wide {x : Nat} (hx : x < 18446744073709551616) : numA 0 (wideI x) = x := by
  have := numA_wideN hx 8 (by omega)
  simpa [wideI] using this
theorem textS_app (s r : List UInt8) (h : s.length < 65536) : textS (textI s ++ r) false = (s, r, false) := by
  unfold textS
  have e1 : takeS 2 (textI s ++ r) false = (numI (s.length : Int), s ++ r, false) := by
    rw [textI, List.append_assoc]
    exact takeS_app _ _ (by simp [numI])
  rw [e1]
  simp only [numA_numI]
  exact takeS_app _ _ (by omega)
theorem textsL_app : ∀ (ls : List (List UInt8)) (r : List UInt8) (acc : List (List UInt8)), (∀ y ∈ ls, y.length < 65536) → textsL ls.length ((ls.map textI).flatten ++ r) false acc = (acc ++ ls, r, false) := by
  intro ls
  induction ls with
  | nil => intro r acc _; simp [textsL]
  | cons a ls ih =>
    intro r acc h
    have e : ((a :: ls).map textI).flatten ++ r = textI a ++ ((ls.map textI).flatten ++ r) := by simp
    rw [List.length_cons, textsL, if_neg (by simp), e, textS_app a _ (h a (List.mem_cons_self ..))]
    simp only [Bool.false_eq_true, if_false]
    rw [ih r (acc ++ [a]) (fun y hy => h y (List.mem_cons_of_mem _ hy))]
    simp
theorem textsS_app (ls : List (List UInt8)) (r : List UInt8) (most : Nat) (h : ∀ y ∈ ls, y.length < 65536) (h1 : ls.length ≤ most) (h2 : ls.length < 256) : textsS most (textsI ls ++ r) false = (ls, r, false) := by
  have e1 : takeS 1 (textsI ls ++ r) false = ([u8 (ls.length : Int)], (ls.map textI).flatten ++ r, false) := by
    rw [textsI, List.cons_append]
    exact takeS_app [_] _ rfl
  have e2 : numA 0 [u8 (ls.length : Int)] = ls.length := by
    simp only [numA, List.foldl_cons, List.foldl_nil, u8_nat]; omega
  unfold textsS
  rw [e1]
  simp only [e2]
  rw [if_neg (by omega), textsL_app ls r [] h]
  simp
theorem encs_drop {l : List It} {i : Nat} {x : It} (h : l[i]? = some x) : encs (l.drop i) = x.enc ++ encs (l.drop (i + 1)) := by
  obtain ⟨hi, he⟩ := List.getElem?_eq_some_iff.1 h
  unfold encs
  rw [List.drop_eq_getElem_cons hi, he]
  simp
theorem l7 (n : Nat) (hn : 300 ≤ n) {s : VS} {l : List It} (hs : IsE s (ics l)) (hok : ∀ x ∈ l, x.ok) (hsm : ∀ x ∈ l, x.small) (h30 : l.length ≤ 30) {k : Nat} : ∀ (m i : Nat) {H : VH}, RS RT H k (encs (l.drop i)) false → i ≤ l.length → l.length < i + m →
    ∃ H', L7_0 (n + 60) m s (.ob k 0) (i : Int) H = some (.bool true, H') := by
  intro m
  induction m with
  | zero => intros; omega
  | succ m ih =>
    intro i H hr h1 h2
    rw [L7_0_eq, hs.len, ics_len]
    by_cases hi : i < l.length
    · rw [decide_eq_true (by omega), cond_true]
      obtain ⟨x, hx⟩ := get_of hi
      have hxm := List.mem_of_getElem? hx
      obtain ⟨k1, k2, k3⟩ := hok x hxm
      obtain ⟨j1, j2, j3⟩ := hsm x hxm
      obtain ⟨H3, q1, q2, q3, q4⟩ := it_new H x [.int .u8 0, .int .u64 0, .str ⟨#[]⟩, .sl 9 .nil] rfl
      rw [ix_it hs hx, Option.bind_some, ld_agg, Option.bind_some]
      simp only
      rw [show [V.int .u8 (x.k : Int), .int .u64 (x.n : Int), .str ⟨x.s.toArray⟩, .sl 9 x.v] = x.cells from rfl, q1, Option.bind_some, ld0 q2, Option.bind_some, show (5 : Int) = ((5 : Nat) : Int) from rfl, remI_nat (by decide), Option.bind_some]
      have kk : k < H.length := by obtain ⟨s, h, _⟩ := hr; exact lt_of_ob h
      have r1 := hr.keep q3 (by simp)
      rw [encs_drop hx] at r1
      have stay : ∀ {H7 : VH}, Kp H3 H7 [k] → H7[H.length]? = some (.row BT x.cells) := fun kp => kp.ob q2 (by simp; omega)
      have next : ∀ {H9 : VH}, RS RT H9 k (encs (l.drop (i + 1))) false → ∃ H', ((V.callD (vF P tab (n + 60)) P false (.one (.flat .bool)) 25 [.ptr (.ob k 0)] H9).bind fun r8 => (cond (!r8.1) (some (V.bool false, r8.2)) (L7_0 (n + 60) m s (.ob k 0) (IntKind.wrap .i64 ((i : Int) + 1)) r8.2))) = some (.bool true, H') := by
        intro H9 h9
        rw [c25 (n + 59) h9, Option.bind_some, inc_nat (by omega)]
        simp only [Bool.not_false, Bool.not_true, cond_false]
        exact ih (i + 1) h9 (by omega) (by omega)
      by_cases c0 : x.k % 5 = 0
      · have he : x.enc = [u8 (x.n : Int)] := by unfold It.enc; rw [if_pos c0]
        rw [he] at r1
        rw [show (((x.k % 5 : Nat) : Int) == 0) = true by rw [c0]; rfl, cond_true, ld1 q2, Option.bind_some]
        obtain ⟨H7, g1, g2, g3, g4⟩ := e15 (n + 56) r1 (by omega)
        rw [takeS_app [u8 (x.n : Int)] _ (c := 1) rfl] at g1 g2
        rw [callD_int g1, Option.bind_some]
        simp only
        rw [stays_int (ld1 (stay g3)), cond_true, wrap_u8]
        have : ((numA 0 [u8 (x.n : Int)] : Nat) : Int) = ((u8 (x.n : Int)).toNat : Int) := by simp [numA]
        rw [this]
        simp only [BEq.rfl, Bool.not_true, cond_false]
        exact next g2
      rw [show (((x.k % 5 : Nat) : Int) == 0) = false by rw [beq_eq_false_iff_ne]; omega, cond_false]
      by_cases c1 : x.k % 5 = 1
      · have he : x.enc = numI (IntKind.wrap .i64 (x.n : Int)) := by unfold It.enc; rw [if_neg c0, if_pos c1]
        rw [he] at r1
        rw [show (((x.k % 5 : Nat) : Int) == 1) = true by rw [c1]; rfl, cond_true, ld1 q2, Option.bind_some, show (65536 : Int) = ((65536 : Nat) : Int) from rfl, remI_nat (by decide), Option.bind_some]
        obtain ⟨H7, g1, g2, g3, g4⟩ := e18 (n + 56) r1 (by omega)
        rw [takeS_app (numI _) _ (c := 2) rfl] at g1 g2
        rw [callD_int g1, Option.bind_some]
        simp only
        rw [stays_int (ld1 (stay g3)), cond_true, numA_numI, wrap_low, i64_nat (n := x.n % 65536) (by omega)]
        have : (((x.n : Int) % 65536).toNat : Int) = ((x.n % 65536 : Nat) : Int) := by omega
        rw [this]
        simp only [BEq.rfl, Bool.not_true, cond_false]
        exact next g2
      rw [show (((x.k % 5 : Nat) : Int) == 1) = false by rw [beq_eq_false_iff_ne]; omega, cond_false]
      by_cases c2 : x.k % 5 = 2
      · have he : x.enc = wideI x.n := by unfold It.enc; rw [if_neg c0, if_neg c1, if_pos c2]
        rw [he] at r1
        rw [show (((x.k % 5 : Nat) : Int) == 2) = true by rw [c2]; rfl, cond_true, ld1 q2, Option.bind_some]
        obtain ⟨H7, g1, g2, g3, g4⟩ := e19 (n + 56) r1 (by omega)
        rw [takeS_app (wideI _) _ (c := 8) (wideN_len _ _)] at g1 g2
        rw [callD_int g1, Option.bind_some]
        simp only
        rw [stays_int (ld1 (stay g3)), cond_true, numA_wide k3]
        simp only [BEq.rfl, Bool.not_true, cond_false]
        exact next g2
      rw [show (((x.k % 5 : Nat) : Int) == 2) = false by rw [beq_eq_false_iff_ne]; omega, cond_false]
      by_cases c3 : x.k % 5 = 3
      · have he : x.enc = textI x.s := by unfold It.enc; rw [if_neg c0, if_neg c1, if_neg c2, if_pos c3]
        rw [he] at r1
        rw [show (((x.k % 5 : Nat) : Int) == 3) = true by rw [c3]; rfl, cond_true, ld2 q2, Option.bind_some]
        obtain ⟨H7, g1, g2, g3, g4⟩ := e20 (n + 55) r1 (by omega)
        rw [textS_app _ _ (by omega)] at g1 g2
        rw [callD_str g1, Option.bind_some]
        simp only
        rw [stays_str (ld2 (stay g3)), cond_true, strEq_self, Bool.not_true, cond_false]
        exact next g2
      · have he : x.enc = textsI x.l := by unfold It.enc; rw [if_neg c0, if_neg c1, if_neg c2, if_neg c3]
        rw [he] at r1
        rw [show (((x.k % 5 : Nat) : Int) == 3) = false by rw [beq_eq_false_iff_ne]; omega, cond_false, ld3 q2, Option.bind_some]
        obtain ⟨s', H7, g1, g1e, g2, g3⟩ := e23 (n + 54) r1 (by omega) 20
        rw [show ((20 : Nat) : Int) = 20 from rfl] at g1
        rw [textsS_app _ _ _ (fun y hy => by have := j3 y hy; omega) j2 (by omega)] at g1e g2
        rw [callD_sl g1, Option.bind_some]
        simp only
        rw [stays_sl (ld3 (stay g3)), cond_true, callD_bool (e22 (n + 59) g1e k1 (by simp only; omega) (by simp only; omega)), Option.bind_some]
        simp only
        rw [stays_sl (ld3 (stay g3)), cond_true, Bool.not_true, cond_false]
        exact next g2
    · rw [decide_eq_false (by omega), cond_false]
      have hd : encs (l.drop i) = [] := by rw [List.drop_eq_nil_of_le (by omega)]; rfl
      rw [hd] at hr
      rw [callD_int (e16 (n + 58) hr), Option.bind_some]
      rw [show (((endS [] false : Nat) : Int) == 0) = true from rfl, cond_true, callD_int (e26 (n + 59) hr), Option.bind_some]
      exact ⟨H, rfl⟩
theorem wireBack (n : Nat) (hn : 100000 ≤ n) {s : VS} {l : List It} (hs : IsE s (ics l)) (hok : ∀ x ∈ l, x.ok) (hl : l.length ≤ maxLen) (hl2 : l.length < n) (H : VH) : ∃ H', vF P tab (n + 61) 7 [.sl 58 s] H = some (.bool true, H') := by
  rw [vF_body rfl, f7_eq, c9 n H, Option.bind_some]
  simp only [Bool.not_true, cond_false]
  obtain ⟨b, g1, g2⟩ := e10 (n + 59) (by omega) (H := H) hs hok hl (by omega)
  rw [callD_bool g1, Option.bind_some]
  cases b with
  | false =>
    simp only [Bool.not_false, cond_true]
    rw [c9 n H, Option.bind_some]
    exact ⟨H, rfl⟩
  | true =>
    obtain ⟨g3, g4⟩ := g2 rfl
    simp only [Bool.not_true, cond_false]
    obtain ⟨s1, s2, q1, q2, q3⟩ := e11 (n + 29) (by omega) (H := H) hs hok g4 g3
    have he := encs_len g4
    have hm := maxLen_eq
    rw [callD_some (τ := .tup [(.flat (.slice 5)), (.flat (.slice 5))]) (x := (s1, s2, ())) _ q1 rfl, Option.bind_some]
    simp only
    rw [callD_bool (e31 (n + 59) q2 q3 (by omega) (by omega)), Option.bind_some]
    simp only [decide_true, Bool.not_true, cond_false]
    obtain ⟨k, H1, r1, r2, r3, r4, r5⟩ := e14 (n + 58) (Rd.ofB H q2) (by omega)
    rw [callD_ptr r1, Option.bind_some]
    exact l7 n (by omega) hs hok g4 g3 (n + 60) 0 r2 (by omega) (by omega)
theorem it_of {d : Nat} {y : List V} (h : HasT P d 58 y) : ∃ x : It, x.ok ∧ y = x.cells := by
  obtain ⟨d', _, hl, hf⟩ := hasT_sh [(5, 0, 1), (42, 1, 1), (9, 2, 1), (48, 3, 1)] (sz := 4) (by kernel_rfl) (by kernel_rfl) (by simp) h
  obtain ⟨a, h0, w0⟩ := hasT_int (k := .u8) (by kernel_rfl) (hf (5, 0, 1) (by simp))
  obtain ⟨b, h1, w1⟩ := hasT_int (k := .u64) (by kernel_rfl) (hf (42, 1, 1) (by simp))
  obtain ⟨c, h2, w2⟩ := hasT_str (by kernel_rfl) (hf (9, 2, 1) (by simp))
  obtain ⟨v, l, h3, w3, _⟩ := hasT_texts (e := 9) (by kernel_rfl) (by kernel_rfl) (hf (48, 3, 1) (by simp))
  match y, hl with
  | [y0, y1, y2, y3], _ =>
    simp only [List.drop_zero, List.drop_succ_cons, List.take_succ_cons, List.take_zero, List.cons.injEq, and_true] at h0 h1 h2 h3
    subst h0 h1 h2 h3
    obtain ⟨p1, p2⟩ := wf_u8 w0
    obtain ⟨p3, p4⟩ := wf_u64 w1
    refine ⟨⟨a.toNat, b.toNat, c.data.toList, l, v⟩, ⟨w3, by simp only; omega, by simp only; omega⟩, ?_⟩
    unfold It.cells
    simp only
    rw [Int.toNat_of_nonneg p1, Int.toNat_of_nonneg p3]
theorem items_of {v : V} (h : HasA P 22 v) : ∃ (s : VS) (l : List It), v = .sl 58 s ∧ IsE s (ics l) ∧ (∀ x ∈ l, x.ok) ∧ l.length ≤ maxLen := by
  obtain ⟨d, s, es, h1, h2, h3, h4⟩ := hasA_sl (e := 58) (by kernel_rfl) h
  obtain ⟨l, rfl, h5⟩ := lst_of (f := It.cells) (Q := It.ok) (es := es) (fun y hy => it_of (h4 y hy).1)
  exact ⟨s, l, h1, h2, h5, by simpa using h3⟩
theorem wireBack_law (us : List V) (h : HasAs P [22] us) : ∃ n H', vF P tab n 7 us [] = some (.bool true, H') := by
  match us, h with
  | [u0], ⟨h0, _⟩ =>
    obtain ⟨s, l, rfl, h1, h2, h3⟩ := items_of h0
    exact ⟨_, wireBack (100000 + l.length + 1) (by omega) h1 h2 h3 (by omega) []⟩
end Go.Proofs.Ythodknboobgfpaa
