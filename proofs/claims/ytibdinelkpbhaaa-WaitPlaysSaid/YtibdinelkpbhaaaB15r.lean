import Derived.Test.YtibdinelkpbhaaaEq
import Derived.Test.YtibdinelkpbhaaaVe
import Derived.Test.YtibdinelkpbhaaaVc
set_option maxRecDepth 100000
set_option linter.unusedVariables false
set_option linter.unusedSimpArgs false
namespace Go.Proofs.Ytibdinelkpbhaaa.R
open Go.Proofs.Ytibdinelkpbhaaa.Sh Go.Proofs.Ytibdinelkpbhaaa.Sh.V Go.RowKit Go.Proofs.Ytibdinelkpbhaaa.Sh.Lk
/-! ### The document's lines, as cells -/
def lnc (l : Ln) : List V := [.int .i64 l.o, sk l.k, .bool l.only, .bool l.waits, .bool l.goes]
def lns (m : List Ln) : List (List V) := m.map lnc
theorem lns_len (m : List Ln) : (lns m).length = m.length := by simp [lns]
abbrev IsL (s : VS) (m : List Ln) : Prop := IsE s (lns m)
theorem lns_get {m : List Ln} {i : Nat} {x : Ln} (h : m[i]? = some x) : (lns m)[i]? = some (lnc x) := by simp [lns, h]
theorem rl_0 {s : VS} {m : List Ln} (hs : IsL s m) {i : Nat} {x : Ln} (hx : m[i]? = some x) (H : VH) {β : Type} (f : Int → Option β) : ((ixV 5 s (i : Int)).bind fun p1 => (atO p1 0).bind fun p2 => (ldV (.flat (.int .i64)) H p2).bind f) = f x.o := by
  rw [hs.ix (lns_get hx) 5, Option.bind_some]
  show (V.fdec (.int .i64) (ik x.o)).bind f = _
  rw [fd_int]; rfl
theorem rl_1 {s : VS} {m : List Ln} (hs : IsL s m) {i : Nat} {x : Ln} (hx : m[i]? = some x) (H : VH) {β : Type} (f : ByteArray → Option β) : ((ixV 5 s (i : Int)).bind fun p1 => (atO p1 1).bind fun p2 => (ldV (.flat .str) H p2).bind f) = f ⟨x.k.toArray⟩ := by
  rw [hs.ix (lns_get hx) 5, Option.bind_some]; rfl
theorem rl_2 {s : VS} {m : List Ln} (hs : IsL s m) {i : Nat} {x : Ln} (hx : m[i]? = some x) (H : VH) {β : Type} (f : Bool → Option β) : ((ixV 5 s (i : Int)).bind fun p1 => (atO p1 2).bind fun p2 => (ldV (.flat .bool) H p2).bind f) = f x.only := by
  rw [hs.ix (lns_get hx) 5, Option.bind_some]; rfl
theorem rl_3 {s : VS} {m : List Ln} (hs : IsL s m) {i : Nat} {x : Ln} (hx : m[i]? = some x) (H : VH) {β : Type} (f : Bool → Option β) : ((ixV 5 s (i : Int)).bind fun p1 => (atO p1 3).bind fun p2 => (ldV (.flat .bool) H p2).bind f) = f x.waits := by
  rw [hs.ix (lns_get hx) 5, Option.bind_some]; rfl
theorem rl_4 {s : VS} {m : List Ln} (hs : IsL s m) {i : Nat} {x : Ln} (hx : m[i]? = some x) (H : VH) {β : Type} (f : Bool → Option β) : ((ixV 5 s (i : Int)).bind fun p1 => (atO p1 4).bind fun p2 => (ldV (.flat .bool) H p2).bind f) = f x.goes := by
  rw [hs.ix (lns_get hx) 5, Option.bind_some]; rfl
abbrev LnT : V.Ty1 := .agg [.int .i64, .str, .bool, .bool, .bool]
theorem dec_ln (x : Ln) : V.decs [.int .i64, .str, .bool, .bool, .bool] (lnc x) = some (x.o, ⟨x.k.toArray⟩, x.only, x.waits, x.goes, ()) := rfl
theorem rl_a {s : VS} {m : List Ln} (hs : IsL s m) {i : Nat} {x : Ln} (hx : m[i]? = some x) (H : VH) {β : Type} (f : V.aggT [.int .i64, .str, .bool, .bool, .bool] → Option β) : ((ixV 5 s (i : Int)).bind fun p1 => (ldV (.agg [.int .i64, .str, .bool, .bool, .bool]) H p1).bind f) = f (x.o, ⟨x.k.toArray⟩, x.only, x.waits, x.goes, ()) := by
  rw [hs.ix (lns_get hx) 5, Option.bind_some]; rfl
theorem take_snoc {α : Type} {l : List α} {i : Nat} {x : α} (hx : l[i]? = some x) : l.take (i + 1) = l.take i ++ [x] := by
  obtain ⟨h1, h2⟩ := List.getElem?_eq_some_iff.1 hx
  rw [List.take_succ_eq_append_getElem h1, h2]
theorem flt_snoc {α : Type} (p : α → Bool) (l : List α) (x : α) : (l ++ [x]).filter p = cond (p x) (l.filter p ++ [x]) (l.filter p) := by
  rw [List.filter_append]
  cases h : p x <;> simp [h]
theorem beq_dec (a b : Int) : (a == b) = decide (a = b) := rfl
/-! ### Numbers, rising, each once -/
theorem get_mem {α : Type} {l : List α} {i : Nat} {x : α} (h : l[i]? = some x) : x ∈ l := List.mem_of_getElem? h
def cands (out l : List Int) : List Int := l.filter (fun y => decide (∀ z ∈ out, z < y))
theorem mem_cands {out l : List Int} {y : Int} : y ∈ cands out l ↔ y ∈ l ∧ ∀ z ∈ out, z < y := by unfold cands; rw [List.mem_filter, decide_eq_true_eq]
/-- The best so far. -/
def Best (out l : List Int) (i : Nat) (b : Int) : Prop := (b = -1 ∧ ∀ j y, j < i → l[j]? = some y → ¬ ∀ z ∈ out, z < y) ∨ ∃ (k : Nat) (x : Int), b = (k : Int) ∧ l[k]? = some x ∧ (∀ z ∈ out, z < x) ∧ ∀ j y, j < i → l[j]? = some y → (∀ z ∈ out, z < y) → x ≤ y
theorem last_lt {out : List Int} (hs : out.Pairwise (fun a b => a < b)) {j : Nat} {w : Int} (hj : out[j]? = some w) (hl : j + 1 = out.length) (y : Int) : w < y ↔ ∀ z ∈ out, z < y := by
  constructor
  · intro h z hz
    obtain ⟨i, hi⟩ := List.mem_iff_getElem?.1 hz
    obtain ⟨h1, h2⟩ := List.getElem?_eq_some_iff.1 hi
    obtain ⟨h3, h4⟩ := List.getElem?_eq_some_iff.1 hj
    by_cases e : i = j
    · subst e; rw [← h2, h4]; exact h
    · have := List.pairwise_iff_getElem.1 hs i j h1 h3 (by omega)
      rw [h2, h4] at this; omega
  · intro h; exact h w (get_mem hj)
theorem Best.next {out l : List Int} {i : Nat} {b : Int} (h : Best out l i b) {x : Int} (hx : l[i]? = some x) (hn : ¬ ∀ z ∈ out, z < x) : Best out l (i + 1) b := by
  rcases h with ⟨rfl, h⟩ | ⟨k, w, rfl, h1, h2, h3⟩
  · refine .inl ⟨rfl, fun j y hj hy => ?_⟩
    by_cases e : j = i
    · subst e; rw [hx] at hy; injection hy with hy; rw [← hy]; exact hn
    · exact h j y (by omega) hy
  · refine .inr ⟨k, w, rfl, h1, h2, fun j y hj hy hc => ?_⟩
    by_cases e : j = i
    · subst e; rw [hx] at hy; injection hy with hy; rw [← hy] at hc; exact absurd hc hn
    · exact h3 j y (by omega) hy hc
theorem Best.first {out l : List Int} {i : Nat} (h : Best out l i (-1)) {x : Int} (hx : l[i]? = some x) (hc : ∀ z ∈ out, z < x) : Best out l (i + 1) (i : Int) := by
  rcases h with ⟨_, h⟩ | ⟨k, w, e, _⟩
  · refine .inr ⟨i, x, rfl, hx, hc, fun j y hj hy hcy => ?_⟩
    by_cases e : j = i
    · subst e; rw [hx] at hy; injection hy with hy; omega
    · exact absurd hcy (h j y (by omega) hy)
  · omega
theorem Best.less {out l : List Int} {i k : Nat} (h : Best out l i (k : Int)) {w x : Int} (hw : l[k]? = some w) (hx : l[i]? = some x) (hc : ∀ z ∈ out, z < x) (hl : x < w) : Best out l (i + 1) (i : Int) := by
  rcases h with ⟨e, _⟩ | ⟨k', w', e, h1, h2, h3⟩
  · omega
  · have : k = k' := by omega
    subst this
    rw [hw] at h1; injection h1 with h1; subst h1
    refine .inr ⟨i, x, rfl, hx, hc, fun j y hj hy hcy => ?_⟩
    by_cases e : j = i
    · subst e; rw [hx] at hy; injection hy with hy; omega
    · have := h3 j y (by omega) hy hcy; omega
theorem Best.more {out l : List Int} {i k : Nat} (h : Best out l i (k : Int)) {w x : Int} (hw : l[k]? = some w) (hx : l[i]? = some x) (hl : ¬ x < w) : Best out l (i + 1) (k : Int) := by
  rcases h with ⟨e, _⟩ | ⟨k', w', e, h1, h2, h3⟩
  · omega
  · have : k = k' := by omega
    subst this
    rw [hw] at h1; injection h1 with h1; subst h1
    refine .inr ⟨k, w, rfl, hw, h2, fun j y hj hy hcy => ?_⟩
    by_cases e : j = i
    · subst e; rw [hx] at hy; injection hy with hy; omega
    · exact h3 j y (by omega) hy hcy
theorem l58i (n m0 : Nat) {s0 s3 : VS} {l out : List Int} (hs : IsI s0 l) (ho : IsI s3 out) (hr : out.Pairwise (fun a b => a < b)) (hz : l.length < 1000000) (hz2 : out.length < 1000000) (H : VH) : ∀ (m i : Nat) (b : Int), i ≤ l.length → l.length < i + m → Best out l i b →
    ∃ m' b', Best out l l.length b' ∧ L56_1 n m0 m s0 s3 b (i : Int) H = L56_1 n m0 (m' + 1) s0 s3 b' (l.length : Int) H := by
  intro m
  induction m with
  | zero => intros; omega
  | succ m ih =>
    intro i b hi hm hb
    by_cases c : i < l.length
    · obtain ⟨x, hx⟩ := get_of c
      rw [L56_1_eq, isI_len hs]
      have hdt : decide ((i : Int) < (l.length : Int)) = true := decide_eq_true (by omega)
      rw [hdt, cond_true, inc_nat (by omega)]
      -- the part behind the question whether it comes behind the last
      have part : (∀ z ∈ out, z < x) → ∃ m' b', Best out l l.length b' ∧ (cond (decide (b < 0)) (L56_1 n m0 m s0 s3 (i : Int) ((i + 1 : Nat) : Int) H) ((ixV 1 s0 (i : Int)).bind fun p9 => (ldV (.flat (.int .i64)) H p9).bind fun x10 => (ixV 1 s0 b).bind fun p11 => (ldV (.flat (.int .i64)) H p11).bind fun x12 =>
          cond (decide ((x10 : Int) < x12)) (L56_1 n m0 m s0 s3 (i : Int) ((i + 1 : Nat) : Int) H) (L56_1 n m0 m s0 s3 b ((i + 1 : Nat) : Int) H))) = L56_1 n m0 (m' + 1) s0 s3 b' (l.length : Int) H := by
        intro hc
        have hb0 := hb
        rcases hb with ⟨rfl, _⟩ | ⟨k, w, rfl, h1, h2, h3⟩
        · rw [show decide ((-1 : Int) < 0) = true from rfl, cond_true]
          exact ih (i + 1) _ (by omega) (by omega) (hb0.first hx hc)
        · have hd0 : decide ((k : Int) < 0) = false := decide_eq_false (by omega)
          rw [hd0, cond_false, isI_rd hs hx, isI_rd hs h1]
          by_cases hl : x < w
          · rw [decide_eq_true hl, cond_true]
            exact ih (i + 1) _ (by omega) (by omega) (hb0.less h1 hx hc hl)
          · rw [decide_eq_false hl, cond_false]
            exact ih (i + 1) _ (by omega) (by omega) (hb0.more h1 hx hl)
      rw [isI_len ho]
      by_cases h0 : out.length = 0
      · have e0 : (((out.length : Nat) : Int) == 0) = true := by rw [h0]; rfl
        rw [e0, cond_true]
        have hn : out = [] := List.eq_nil_of_length_eq_zero h0
        exact part (by rw [hn]; intro z hz; cases hz)
      · have e0 : (((out.length : Nat) : Int) == 0) = false := by rw [beq_eq_false_iff_ne]; omega
        rw [e0, cond_false, isI_rd hs hx]
        obtain ⟨w, hw⟩ := get_of (l := out) (i := out.length - 1) (by omega)
        have e1 : IntKind.wrap .i64 (((out.length : Nat) : Int) - 1) = ((out.length - 1 : Nat) : Int) := by rw [i64_in (by omega)]; omega
        rw [e1, isI_rd ho hw]
        have hiff := last_lt hr hw (by omega) x
        by_cases hc : x > w
        · rw [decide_eq_true hc, cond_true]
          exact part (hiff.1 hc)
        · rw [decide_eq_false hc, cond_false]
          exact ih (i + 1) _ (by omega) (by omega) (hb.next hx (fun h => hc (hiff.2 h)))
    · have : i = l.length := by omega
      subst this
      exact ⟨m, b, hb, rfl⟩
theorem cands_snoc {out l : List Int} {x : Int} (hx : x ∈ l) (hc : ∀ z ∈ out, z < x) : (cands (out ++ [x]) l).length < (cands out l).length := by
  have e : cands (out ++ [x]) l = (cands out l).filter (fun y => decide (x < y)) := by
    unfold cands
    rw [List.filter_filter]
    refine List.filter_congr fun y _ => ?_
    rw [Bool.eq_iff_iff]
    simp only [Bool.and_eq_true, decide_eq_true_eq, List.mem_append, List.mem_singleton]
    constructor
    · intro h; exact ⟨h x (.inr rfl), fun z hz => h z (.inl hz)⟩
    · rintro ⟨h1, h2⟩ z (hz | rfl)
      · exact h2 z hz
      · exact h1
  rw [e]
  exact flt_lt (mem_cands.2 ⟨hx, hc⟩) (by simp)
theorem l58 (n : Nat) {s0 : VS} {l : List Int} (hs : IsI s0 l) (hz : l.length < 1000000) (hn : l.length < n) : ∀ (m : Nat) {H : VH} {s3 : VS} {out : List Int}, Aq H 3 s3 (out.map i1) → out.Pairwise (fun a b => a < b) → (∀ z ∈ out, z ∈ l) → (∀ y ∈ l, y ∈ out ∨ ∀ z ∈ out, z < y) → out.length + (cands out l).length ≤ l.length → (cands out l).length < m →
    ∃ s' H', L56_0 n m s0 s3 H = some (.sl 3 s', H') ∧ IsI s' (riseI l) ∧ Gx 3 H H' := by
  intro m
  induction m with
  | zero => intros; omega
  | succ m ih =>
    intro H s3 out ha hr h1 h2 hsum hm
    have ho : IsI s3 out := ha.isE
    rw [L56_0_eq]
    obtain ⟨m', b', hb, e⟩ := l58i n m hs ho hr hz (by omega) H n 0 (-1) (Nat.zero_le _) (by omega) (.inl ⟨rfl, fun j y hj _ => absurd hj (Nat.not_lt_zero _)⟩)
    rw [show ((0 : Nat) : Int) = 0 from rfl] at e
    rw [e, L56_1_eq, isI_len hs]
    have hdt : decide ((l.length : Int) < (l.length : Int)) = false := decide_eq_false (by omega)
    rw [hdt, cond_false]
    rcases hb with ⟨rfl, hno⟩ | ⟨k, w, rfl, g1, g2, g3⟩
    · rw [show decide ((-1 : Int) < 0) = true from rfl, cond_true]
      refine ⟨s3, H, rfl, ?_, Gx.refl _ _⟩
      have : out = riseI l := lt_eq hr (riseI_lt l) fun x => by
        rw [mem_riseI]
        refine ⟨h1 x, fun hx => ?_⟩
        rcases h2 x hx with h | h
        · exact h
        · obtain ⟨j, hj⟩ := List.mem_iff_getElem?.1 hx
          exact absurd h (hno j x (List.getElem?_eq_some_iff.1 hj).1 hj)
      rw [← this]; exact ho
    · have hd0 : decide ((k : Int) < 0) = false := decide_eq_false (by omega)
      rw [hd0, cond_false, isI_rd hs g1]
      have hwl := get_mem g1
      have hcl := cands_snoc hwl g2
      obtain ⟨s', H', a1, a2, a3⟩ := ha.push i1 (sz := 1) (by_ := 8) w (by decide) (by omega)
      have a1' : appD true H 1 8 3 s3 (.fz [[.int .i64 w]] (.ex 1)) = some (s', H') := a1
      rw [a1', Option.bind_some]
      obtain ⟨s4, H4, b1, b2, b3⟩ := ih a2 (by
        rw [List.pairwise_append]
        refine ⟨hr, List.pairwise_singleton _ _, fun a ha b hb => ?_⟩
        rw [List.mem_singleton.1 hb]; exact g2 a ha) (fun z hz => by
        rcases List.mem_append.1 hz with hz | hz
        · exact h1 z hz
        · rw [List.mem_singleton.1 hz]; exact hwl) (fun y hy => by
        rcases h2 y hy with h | h
        · exact .inl (List.mem_append.2 (.inl h))
        · obtain ⟨j, hj⟩ := List.mem_iff_getElem?.1 hy
          have := g3 j y (List.getElem?_eq_some_iff.1 hj).1 hj h
          by_cases e : y = w
          · exact .inl (List.mem_append.2 (.inr (List.mem_singleton.2 e)))
          · refine .inr fun z hz => ?_
            rcases List.mem_append.1 hz with hz | hz
            · exact h z hz
            · rw [List.mem_singleton.1 hz]; omega) (by rw [List.length_append, List.length_singleton]; omega) (by omega)
      exact ⟨s4, H4, b1, b2, a3.trans b3⟩
theorem e58 (n : Nat) {s0 : VS} {l : List Int} (hs : IsI s0 l) (hz : l.length < 1000000) (hn : l.length < n) (H : VH) : ∃ s', vF P tab (n + 1) 56 [.sl 3 s0] H = some (.sl 3 s', H) ∧ IsI s' (riseI l) := by
  have hb : ∃ s' H', bodyV P tab (vF P tab n) n 56 [.sl 3 s0.strip] [] = some (.sl 3 s', H') ∧ IsI s' (riseI l) := by
    rw [f56_eq]
    have hc : (cands [] l).length ≤ l.length := List.length_filter_le _ _
    obtain ⟨s', H', a, b, _⟩ := l58 n hs.strip hz hn n (H := []) (out := []) .nil .nil (fun z h => (by cases h)) (fun y _ => .inr (fun z h => (by cases h))) (by simpa using hc) (by omega)
    exact ⟨s', H', a, b⟩
  obtain ⟨s', H', g1, g2⟩ := hb
  exact ⟨s'.strip, lone_E (H := H) rfl (by simp [closed_slv 3 hs]) g1 g2⟩
theorem c58 (n : Nat) {s0 : VS} {l : List Int} (hs : IsI s0 l) (hz : l.length < 1000000) (hn : l.length < n) (H : VH) : ∃ s', V.callD (vF P tab (n + 1)) P false (.one (.flat (.slice 3))) 56 [.sl 3 s0] H = some (s', H) ∧ IsI s' (riseI l) := by
  obtain ⟨s', a, b⟩ := e58 n hs hz hn H
  exact ⟨s', callD_sl a, b⟩
/-! ### Texts, rising -/
theorem l38i (n m0 : Nat) {s0 s3 : VS} {l out : List Key} (hs : IsT s0 l) (ho : IsT s3 out) {i : Nat} {x : Key} (hx : l[i]? = some x) (hbl : out.length < 1000000) : ∀ (m k : Nat) {H : VH} {s5 : VS} {acc : List Key} {done : Bool}, Aq H 9 s5 (strs acc) → acc.length ≤ k + done.toNat → k ≤ out.length → out.length < k + m →
    ∃ s' H', L36_1 n m0 m s0 s3 (i : Int) s5 done (k : Int) H = L36_0 n m0 s0 s' (IntKind.wrap .i64 ((i : Int) + 1)) H' ∧ IsT s' (acc ++ if done = true then out.drop k else insR x (out.drop k)) := by
  intro m
  induction m with
  | zero => intros; omega
  | succ m ih =>
    intro k H s5 acc done h hal hk hm
    have hal2 : acc.length ≤ k + 1 := by cases done <;> simp at hal <;> omega
    have hal1 : done = false → acc.length ≤ k := fun e => by subst e; simpa using hal
    rw [L36_1_eq, isT_len ho]
    have app : ∀ {H : VH} {s5 : VS} {acc : List Key} (y : Key), Aq H 9 s5 (strs acc) → acc.length ≤ k + 2 → ∃ s' H', appD true H 1 16 9 s5 (.fz [[.str ⟨y.toArray⟩]] (.ex 1)) = some (s', H') ∧ Aq H' 9 s' (strs (acc ++ [y])) := by
      intro H s5 acc y h hal
      obtain ⟨s', H', g1, g2, _⟩ := h.appE (sz := 1) (by_ := 16) (x := .fz [[.str ⟨y.toArray⟩]] (.ex 1)) (.fz _ _) (by rw [strs_len]; simp only [bound, List.length_singleton]; omega) (by rw [strs_len]; simp only [bound, List.length_singleton]; omega)
      exact ⟨s', H', g1, by rw [strs_app]; exact g2⟩
    by_cases c : k < out.length
    · obtain ⟨o, hyo⟩ := get_of c
      obtain ⟨h1, h2⟩ := List.getElem?_eq_some_iff.1 hyo
      have hdt : decide ((k : Int) < (out.length : Int)) = true := decide_eq_true (by omega)
      rw [hdt, cond_true, List.drop_eq_getElem_cons h1, h2, inc_nat (by omega)]
      cases done with
      | true =>
        simp only [Bool.not_true, cond_false, cond_true]
        rw [isT_rd ho hyo]
        obtain ⟨s1, H1, g1, g2⟩ := app o h (by omega)
        rw [g1, Option.bind_some]
        obtain ⟨s', H', r1, r2⟩ := ih (k + 1) (done := true) g2 (by rw [List.length_append, List.length_singleton, Bool.toNat_true]; omega) (by omega) (by omega)
        refine ⟨s', H', r1, ?_⟩
        simp only [if_true] at r2 ⊢
        rw [List.append_assoc] at r2
        exact r2
      | false =>
        simp only [Bool.not_false, cond_false, cond_true]
        rw [isT_rd hs hx, isT_rd ho hyo, less_of]
        by_cases hlt : x < o
        · rw [decide_eq_true hlt, cond_true, isT_rd hs hx]
          have hal0 := hal1 rfl
          obtain ⟨s1, H1, g1, g2⟩ := app x h (by omega)
          rw [g1, Option.bind_some, isT_rd ho hyo]
          obtain ⟨s2, H2, g3, g4⟩ := app o g2 (by rw [List.length_append, List.length_singleton]; omega)
          simp only
          rw [g3, Option.bind_some]
          obtain ⟨s', H', r1, r2⟩ := ih (k + 1) (done := true) g4 (by simp only [List.length_append, List.length_singleton, Bool.toNat_true]; omega) (by omega) (by omega)
          refine ⟨s', H', r1, ?_⟩
          simp only [if_true] at r2
          simp only [Bool.false_eq_true, if_false, insR, if_pos hlt]
          simpa using r2
        · rw [decide_eq_false hlt, cond_false, isT_rd hs hx, isT_rd ho hyo, isT_rd ho hyo, strEq_iff]
          obtain ⟨s1, H1, g1, g2⟩ := app o h (by omega)
          rw [g1, Option.bind_some]
          obtain ⟨s', H', r1, r2⟩ := ih (k + 1) (done := decide (x = o)) g2 (by rw [List.length_append, List.length_singleton]; have := hal1 rfl; omega) (by omega) (by omega)
          refine ⟨s', H', r1, ?_⟩
          simp only [Bool.false_eq_true, if_false, insR, if_neg hlt]
          by_cases he : x = o
          · rw [if_pos he]
            simp only [he, decide_true, if_true] at r2
            simpa using r2
          · rw [if_neg he]
            simp only [he, decide_false, Bool.false_eq_true, if_false] at r2
            simpa using r2
    · have hdt : decide ((k : Int) < (out.length : Int)) = false := decide_eq_false (by omega)
      rw [hdt, cond_false, List.drop_eq_nil_of_le (by omega)]
      cases done with
      | true =>
        simp only [Bool.not_true, cond_false, if_true, List.append_nil]
        exact ⟨s5, H, rfl, h.isE⟩
      | false =>
        simp only [Bool.not_false, cond_true, Bool.false_eq_true, if_false, insR]
        rw [isT_rd hs hx]
        obtain ⟨s1, H1, g1, g2⟩ := app x h (by omega)
        rw [g1, Option.bind_some]
        exact ⟨s1, H1, rfl, g2.isE⟩
theorem l38 (n : Nat) {s0 : VS} {l : List Key} (hs : IsT s0 l) (hz : l.length < 900000) (hn : l.length < n) : ∀ (m i : Nat) {H : VH} {s3 : VS}, IsT s3 (riseS (l.take i)) → i ≤ l.length → l.length < i + m →
    ∃ s' H', L36_0 n m s0 s3 (i : Int) H = some (.sl 9 s', H') ∧ IsT s' (riseS l) := by
  intro m
  induction m with
  | zero => intros; omega
  | succ m ih =>
    intro i H s3 ho hi hm
    have hrl : (riseS (l.take i)).length ≤ i := by
      have h1 := riseS_len (l.take i)
      rw [List.length_take] at h1; omega
    rw [L36_0_eq, isT_len hs]
    by_cases c : i < l.length
    · obtain ⟨x, hx⟩ := get_of c
      obtain ⟨h1, h2⟩ := List.getElem?_eq_some_iff.1 hx
      have hdt : decide ((i : Int) < (l.length : Int)) = true := decide_eq_true (by omega)
      rw [hdt, cond_true]
      obtain ⟨s', H', g1, g2⟩ := l38i n m hs ho hx (by omega) n 0 (H := H) (acc := []) (done := false) .nil (Nat.zero_le _) (Nat.zero_le _) (by omega)
      rw [show ((0 : Nat) : Int) = 0 from rfl] at g1
      rw [g1, inc_nat (by omega)]
      refine ih (i + 1) ?_ (by omega) (by omega)
      have e : riseS (l.take (i + 1)) = insR x (riseS (l.take i)) := by
        rw [List.take_succ_eq_append_getElem h1, h2]
        unfold riseS
        rw [List.foldl_append]; rfl
      rw [e]
      simpa using g2
    · have : i = l.length := by omega
      subst this
      have hdt : decide ((l.length : Int) < (l.length : Int)) = false := decide_eq_false (by omega)
      rw [hdt, cond_false]
      rw [List.take_length] at ho
      exact ⟨s3, H, rfl, ho⟩
theorem e38 (n : Nat) {s0 : VS} {l : List Key} (hs : IsT s0 l) (hz : l.length < 900000) (hn : l.length < n) (H : VH) : ∃ s', vF P tab (n + 1) 36 [.sl 9 s0] H = some (.sl 9 s', H) ∧ IsT s' (riseS l) := by
  have hb : ∃ s' H', bodyV P tab (vF P tab n) n 36 [.sl 9 s0.strip] [] = some (.sl 9 s', H') ∧ IsT s' (riseS l) := by
    rw [f36_eq]
    exact l38 n hs.strip hz hn n 0 (by rw [List.take_zero]; exact .nil) (by omega) (by omega)
  obtain ⟨s', H', g1, g2⟩ := hb
  exact ⟨s'.strip, lone_E (H := H) rfl (by simp [closed_slv 9 hs]) g1 g2⟩
theorem c38 (n : Nat) {s0 : VS} {l : List Key} (hs : IsT s0 l) (hz : l.length < 900000) (hn : l.length < n) (H : VH) : ∃ s', V.callD (vF P tab (n + 1)) P false (.one (.flat (.slice 9))) 36 [.sl 9 s0] H = some (s', H) ∧ IsT s' (riseS l) := by
  obtain ⟨s', a, b⟩ := e38 n hs hz hn H
  exact ⟨s', callD_sl a, b⟩
theorem drop_cons {α : Type} {l : List α} {j : Nat} {y : α} (hy : l[j]? = some y) : l.drop j = y :: l.drop (j + 1) := by
  obtain ⟨hlt, he⟩ := List.getElem?_eq_some_iff.1 hy
  rw [List.drop_eq_getElem_cons hlt, he]
theorem flt_cons {α : Type} (p : α → Bool) (y : α) (r : List α) : (y :: r).filter p = cond (p y) (y :: r.filter p) (r.filter p) := by
  rw [List.filter_cons]; cases p y <;> rfl
abbrev bk (k : Key) : ByteArray := ⟨k.toArray⟩
/-! ### Queue -/
def selQ (p : Bool) (k : Key) (l : List Ln) : List Ln := l.filter (fun x => decide (x.k = k) && (x.waits && (x.goes == p)))
theorem l39i (n m0 : Nat) {s0 : VS} {m : List Ln} (hs : IsL s0 m) (k : Key) (q : Nat) (p : Bool) (hp : ((q : Int) == 0) = p) (hz : m.length < 100000) : ∀ (f j : Nat) {H : VH} {s5 : VS} {acc : List Ln}, Aq H 78 s5 (acc.map lnc) → acc.length + (m.drop j).length < 1000000 → j ≤ m.length → m.length < j + f →
    ∃ s' H', L37_1 n m0 f s0 (bk k) s5 (q : Int) (j : Int) H = L37_0 n m0 s0 (bk k) s' (IntKind.wrap .i64 ((q : Int) + 1)) H' ∧ Aq H' 78 s' ((acc ++ selQ p k (m.drop j)).map lnc) ∧ Gx 78 H H' := by
  intro f
  induction f with
  | zero => intros; omega
  | succ f ih =>
    intro j H s5 acc h hl hj hm
    rw [L37_1_eq, hs.len, lns_len]
    by_cases c : j < m.length
    · obtain ⟨x, hx⟩ := get_of c
      rw [drop_cons hx, List.length_cons] at hl
      have hdt : decide ((j : Int) < (m.length : Int)) = true := decide_eq_true (by omega)
      rw [hdt, cond_true, rl_1 hs hx, strEq_iff, inc_nat (by omega), drop_cons hx]
      have skip : (decide (x.k = k) && (x.waits && (x.goes == p))) = false → ∃ s' H', L37_1 n m0 f s0 (bk k) s5 (q : Int) ((j + 1 : Nat) : Int) H = L37_0 n m0 s0 (bk k) s' (IntKind.wrap .i64 ((q : Int) + 1)) H' ∧ Aq H' 78 s' ((acc ++ selQ p k (x :: m.drop (j + 1))).map lnc) ∧ Gx 78 H H' := by
        intro e
        have e2 : selQ p k (x :: m.drop (j + 1)) = selQ p k (m.drop (j + 1)) := by unfold selQ; rw [flt_cons, e]; rfl
        rw [e2]
        exact ih (j + 1) h (by omega) (by omega) (by omega)
      cases e1 : decide (x.k = k) with
      | false => rw [cond_false]; exact skip (by rw [e1]; rfl)
      | true =>
        rw [cond_true, rl_3 hs hx]
        cases e2 : x.waits with
        | false => rw [cond_false]; exact skip (by rw [e2]; simp)
        | true =>
          rw [cond_true, rl_4 hs hx, hp]
          cases e3 : x.goes == p with
          | false => rw [cond_false]; exact skip (by rw [e3]; simp)
          | true =>
            rw [cond_true, rl_a hs hx]
            obtain ⟨s', H', a1, a2, a3⟩ := h.push lnc (sz := 5) (by_ := 32) x (by decide) (by omega)
            have a1' : appD true H 5 32 78 s5 (.fz [[.int .i64 x.o, .str ⟨x.k.toArray⟩, .bool x.only, .bool x.waits, .bool x.goes]] (.ex 1)) = some (s', H') := a1
            simp only
            rw [a1', Option.bind_some]
            obtain ⟨s4, H4, b1, b2, b3⟩ := ih (j + 1) a2 (by rw [List.length_append, List.length_singleton]; omega) (by omega) (by omega)
            refine ⟨s4, H4, b1, ?_, a3.trans b3⟩
            have e4 : selQ p k (x :: m.drop (j + 1)) = x :: selQ p k (m.drop (j + 1)) := by unfold selQ; rw [flt_cons, e1, e2, e3]; rfl
            rw [e4, show acc ++ x :: selQ p k (m.drop (j + 1)) = acc ++ [x] ++ selQ p k (m.drop (j + 1)) by simp]
            exact b2
    · have hdt : decide ((j : Int) < (m.length : Int)) = false := decide_eq_false (by omega)
      rw [hdt, cond_false, List.drop_eq_nil_of_le (by omega)]
      exact ⟨s5, H, rfl, by simpa [selQ] using h, Gx.refl _ _⟩
theorem selQ_eq (m : List Ln) (k : Key) : selQ true k m ++ selQ false k m = qR m k := by
  unfold qR wq kl selQ
  rw [List.filter_filter, List.filter_filter]
  congr 1
  · refine List.filter_congr fun y _ => ?_
    cases decide (y.k = k) <;> cases y.waits <;> cases y.goes <;> rfl
  · refine List.filter_congr fun y _ => ?_
    cases decide (y.k = k) <;> cases y.waits <;> cases y.goes <;> rfl
theorem c39 (n : Nat) {s0 : VS} {m : List Ln} (hs : IsL s0 m) (k : Key) (hz : m.length < 100000) (hn : m.length + 10 < n) (H : VH) : ∃ s', V.callD (vF P tab (n + 1)) P false (.one (.flat (.slice 78))) 37 [.sl 78 s0, .str (bk k)] H = some (s', H) ∧ IsL s' (qR m k) := by
  have hb : ∃ s' H', bodyV P tab (vF P tab n) n 37 [.sl 78 s0.strip, .str (bk k)] [] = some (.sl 78 s', H') ∧ IsL s' (qR m k) := by
    rw [f37_eq]
    obtain ⟨n1, rfl⟩ : ∃ n1, n = n1 + 3 := ⟨n - 3, by omega⟩
    have hs' : IsL s0.strip m := hs.strip
    obtain ⟨s1, H1, a1, a2, a3⟩ := l39i (n1 + 3) (n1 + 2) hs' k 0 true rfl hz (n1 + 3) 0 (H := []) (acc := []) .nil (by simp; omega) (Nat.zero_le _) (by omega)
    have hle : (selQ true k m).length ≤ m.length := List.length_filter_le _ _
    obtain ⟨s2, H2, b1, b2, b3⟩ := l39i (n1 + 3) (n1 + 1) hs' k 1 false rfl hz (n1 + 3) 0 (H := H1) (acc := selQ true k m) (s5 := s1) (by simpa using a2) (by simp; omega) (Nat.zero_le _) (by omega)
    rw [L37_0_eq, show decide ((0 : Int) < 2) = true from rfl, cond_true]
    rw [show ((0 : Nat) : Int) = 0 from rfl] at a1
    rw [a1, show IntKind.wrap .i64 (0 + 1) = 1 from rfl, L37_0_eq, show decide ((1 : Int) < 2) = true from rfl, cond_true]
    rw [show ((1 : Nat) : Int) = 1 from rfl, show ((0 : Nat) : Int) = 0 from rfl] at b1
    rw [b1, show IntKind.wrap .i64 (1 + 1) = 2 from rfl, L37_0_eq, show decide ((2 : Int) < 2) = false from rfl, cond_false]
    refine ⟨s2, H2, rfl, ?_⟩
    rw [List.drop_zero, selQ_eq] at b2
    exact b2.isE
  obtain ⟨s', H', g1, g2⟩ := hb
  obtain ⟨x, y⟩ := lone_E (H := H) (args := [.sl 78 s0, .str (bk k)]) rfl (by simp [closed_slv 78 hs]; rfl) g1 g2
  exact ⟨s'.strip, callD_sl x, y⟩
/-! ### Who holds -/
theorem l43 (n : Nat) {s0 : VS} {m : List Ln} (hs : IsL s0 m) (k : Key) (hz : m.length < 100000) (hn : m.length < n) : ∀ (f j : Nat) {H : VH} {s6 : VS} {acc : List Int} {on : Bool}, Aq H 3 s6 (acc.map i1) → acc.length + (m.drop j).length ≤ m.length → j ≤ m.length → m.length < j + f →
    ∃ s' H', L55_0 (n + 1) f s0 (bk k) s6 on (j : Int) H = some (.tup [.sl 3 s', .bool (on || onlyR (m.drop j) k)], H') ∧ IsI s' (riseI (acc ++ hsR (m.drop j) k)) := by
  intro f
  induction f with
  | zero => intros; omega
  | succ f ih =>
    intro j H s6 acc on h hl hj hm
    rw [L55_0_eq, hs.len, lns_len]
    by_cases c : j < m.length
    · obtain ⟨x, hx⟩ := get_of c
      rw [drop_cons hx, List.length_cons] at hl
      have hdt : decide ((j : Int) < (m.length : Int)) = true := decide_eq_true (by omega)
      rw [hdt, cond_true, rl_1 hs hx, strEq_iff, inc_nat (by omega), drop_cons hx]
      have ek : ∀ b, hol (kl (x :: m.drop (j + 1)) k) = b → hol (kl (x :: m.drop (j + 1)) k) = b := fun _ h => h
      cases e1 : decide (x.k = k) with
      | false =>
        have e2 : kl (x :: m.drop (j + 1)) k = kl (m.drop (j + 1)) k := by unfold kl; rw [flt_cons, e1]; rfl
        have e3 : hsR (x :: m.drop (j + 1)) k = hsR (m.drop (j + 1)) k := by unfold hsR; rw [e2]
        have e4 : onlyR (x :: m.drop (j + 1)) k = onlyR (m.drop (j + 1)) k := by unfold onlyR; rw [e2]
        rw [cond_false, e3, e4]
        exact ih (j + 1) h (by omega) (by omega) (by omega)
      | true =>
        have e2 : kl (x :: m.drop (j + 1)) k = x :: kl (m.drop (j + 1)) k := by unfold kl; rw [flt_cons, e1]; rfl
        rw [cond_true, rl_3 hs hx]
        cases e5 : x.waits with
        | true =>
          have e3 : hsR (x :: m.drop (j + 1)) k = hsR (m.drop (j + 1)) k := by unfold hsR hol; rw [e2, flt_cons, e5]; rfl
          have e4 : onlyR (x :: m.drop (j + 1)) k = onlyR (m.drop (j + 1)) k := by unfold onlyR hol; rw [e2, flt_cons, e5]; rfl
          rw [Bool.not_true, cond_false, e3, e4]
          exact ih (j + 1) h (by omega) (by omega) (by omega)
        | false =>
          have e3 : hsR (x :: m.drop (j + 1)) k = x.o :: hsR (m.drop (j + 1)) k := by unfold hsR hol; rw [e2, flt_cons, e5]; rfl
          have e4 : onlyR (x :: m.drop (j + 1)) k = (x.only || onlyR (m.drop (j + 1)) k) := by unfold onlyR hol; rw [e2, flt_cons, e5]; rfl
          rw [Bool.not_false, cond_true, rl_0 hs hx, e3, e4]
          obtain ⟨s', H', a1, a2, a3⟩ := h.push i1 (sz := 1) (by_ := 8) x.o (by decide) (by omega)
          have a1' : appD true H 1 8 3 s6 (.fz [[.int .i64 x.o]] (.ex 1)) = some (s', H') := a1
          rw [a1', Option.bind_some]
          have fin : ∀ on', ∃ s4 H4, L55_0 (n + 1) f s0 (bk k) s' on' ((j + 1 : Nat) : Int) H' = some (.tup [.sl 3 s4, .bool (on' || onlyR (m.drop (j + 1)) k)], H4) ∧ IsI s4 (riseI (acc ++ x.o :: hsR (m.drop (j + 1)) k)) := fun on' => by
            obtain ⟨s4, H4, b1, b2⟩ := ih (j + 1) (on := on') a2 (by rw [List.length_append, List.length_singleton]; omega) (by omega) (by omega)
            refine ⟨s4, H4, b1, ?_⟩
            rw [show acc ++ x.o :: hsR (m.drop (j + 1)) k = acc ++ [x.o] ++ hsR (m.drop (j + 1)) k by simp]
            exact b2
          cases on with
          | true => rw [cond_true]; exact fin true
          | false =>
            rw [cond_false]
            simp only
            rw [rl_2 hs hx]
            have := fin x.only
            rw [Bool.false_or]
            exact this
    · have hdt : decide ((j : Int) < (m.length : Int)) = false := decide_eq_false (by omega)
      rw [hdt, cond_false, List.drop_eq_nil_of_le (by omega)]
      rw [List.drop_eq_nil_of_le (by omega), List.length_nil] at hl
      obtain ⟨s', a, b⟩ := c58 n (s0 := s6) (l := acc) h.isE (by omega) (by omega) H
      rw [a, Option.bind_some]
      refine ⟨s', H, ?_, by simpa [hsR, kl, hol] using b⟩
      simp [onlyR, kl, hol]
theorem c43 (n : Nat) {s0 : VS} {m : List Ln} (hs : IsL s0 m) (k : Key) (hz : m.length < 100000) (hn : m.length + 10 < n) (H : VH) : ∃ s', V.callD (vF P tab (n + 2)) P false (.tup [(.flat (.slice 3)), (.flat .bool)]) 55 [.sl 78 s0, .str (bk k)] H = some ((s', onlyR m k, ()), H) ∧ IsI s' (riseI (hsR m k)) := by
  have hb : ∃ s' H', bodyV P tab (vF P tab (n + 1)) (n + 1) 55 [.sl 78 s0.strip, .str (bk k)] [] = some (.tup [.sl 3 s', .bool (onlyR m k)], H') ∧ IsI s' (riseI (hsR m k)) := by
    rw [f55_eq]
    obtain ⟨s', H', a, b⟩ := l43 n (m := m) hs.strip k hz (by omega) (n + 1) 0 (H := []) (acc := []) (on := false) .nil (by simp) (Nat.zero_le _) (by omega)
    rw [List.drop_zero, Bool.false_or] at a
    exact ⟨s', H', a, by simpa using b⟩
  obtain ⟨s', H', g1, g2⟩ := hb
  have := vF_lone (H := H) (args := [.sl 78 s0, .str (bk k)]) rfl (by simp [closed_slv 78 hs]; rfl) g1 (by show (closedC (.sl 3 s') && _) = true; rw [closed_slv 3 g2]; rfl)
  exact ⟨s'.strip, callD_some (.tup [.sl 3 s'.strip, .bool (onlyR m k)]) this (dec_sb 3 _ _), g2.strip⟩
/-! ### May it hold now? -/
theorem ldb {H : VH} {p : Nat} {T : TypeId} {cs : List V} (h : H[p]? = some (.row T cs)) (off : Nat) (τ : V.FT) : ldV (.flat τ) H (.ob p off) = (cs[off]?).bind (V.fdec τ) := ld_row h τ
theorem c40 (n : Nat) {s0 : VS} {m : List Ln} (hs : IsL s0 m) (x : Ln) (hz : m.length < 100000) (hn : m.length + 10 < n) (H : VH) : V.callD (vF P tab (n + 3)) P false (.one (.flat .bool)) 38 [.sl 78 s0, .agg (lnc x)] H = some (mayR m x, H) := by
  refine callD_bool ?_
  refine vF_lone (r := .bool (mayR m x)) (H1 := [.row (78 + boxK) (lnc x)]) rfl (by simp [closed_slv 78 hs]; rfl) ?_ rfl
  show bodyV P tab (vF P tab (n + 2)) (n + 2) 38 [.sl 78 s0.strip, .agg [.int .i64 x.o, .str (bk x.k), .bool x.only, .bool x.waits, .bool x.goes]] [] = _
  rw [f38_eq]
  have hp : ([] ++ [VO.row (78 + boxK) (lnc x)] : VH)[([] : VH).length]? = some (.row (78 + boxK) (lnc x)) := rfl
  obtain ⟨s', a, b⟩ := c43 n (s0 := s0.strip) (m := m) hs.strip x.k hz hn [.row (78 + boxK) (lnc x)]
  have l1 : ldV (.flat .str) ([] ++ [VO.row (78 + boxK) (lnc x)] : VH) (.ob ([] : VH).length 1) = some (bk x.k) := ldb hp 1 .str
  have l4 : ldV (.flat .bool) [VO.row (78 + boxK) (lnc x)] (.ob ([] : VH).length 4) = some x.goes := ldb (H := [VO.row (78 + boxK) (lnc x)]) (p := 0) rfl 4 .bool
  have l2 : ldV (.flat .bool) [VO.row (78 + boxK) (lnc x)] (.ob ([] : VH).length 2) = some x.only := ldb (H := [VO.row (78 + boxK) (lnc x)]) (p := 0) rfl 2 .bool
  rw [show ([VO.row (78 + boxK) [.int .i64 x.o, .str (bk x.k), .bool x.only, .bool x.waits, .bool x.goes]] : VH) = [VO.row (78 + boxK) (lnc x)] from rfl, l1, Option.bind_some]
  rw [show ([] ++ [VO.row (78 + boxK) (lnc x)] : VH) = [VO.row (78 + boxK) (lnc x)] from rfl, a, Option.bind_some]
  simp only
  rw [l4, Option.bind_some, l2, Option.bind_some, isI_len b]
  unfold mayR
  have e1 : (((riseI (hsR m x.k)).length : Int) == 1) = decide ((riseI (hsR m x.k)).length = 1) := by rw [beq_dec]; exact decide_eq_decide.2 (by omega)
  have e0 : (((riseI (hsR m x.k)).length : Int) == 0) = decide ((riseI (hsR m x.k)).length = 0) := by rw [beq_dec]; exact decide_eq_decide.2 (by omega)
  rw [e1, e0]
  cases x.goes <;> cases x.only <;> rfl
/-! ### give -/
theorem lnb0 {H : VH} {p : Nat} {T : TypeId} {x : Ln} (h : H[p]? = some (.row T (lnc x))) : ldV (.flat (.int .i64)) H (.ob p 0) = some x.o := by rw [ldb h]; exact fd_int .i64 _
theorem lnb1 {H : VH} {p : Nat} {T : TypeId} {x : Ln} (h : H[p]? = some (.row T (lnc x))) : ldV (.flat .str) H (.ob p 1) = some (bk x.k) := ldb h 1 .str
theorem lnb2 {H : VH} {p : Nat} {T : TypeId} {x : Ln} (h : H[p]? = some (.row T (lnc x))) : ldV (.flat .bool) H (.ob p 2) = some x.only := ldb h 2 .bool
theorem lnba {H : VH} {p : Nat} {T : TypeId} {x : Ln} (h : H[p]? = some (.row T (lnc x))) : ldV (.agg [.int .i64, .str, .bool, .bool, .bool]) H (.ob p 0) = some (x.o, bk x.k, x.only, x.waits, x.goes, ()) := by
  simp only [ldV, rowV_of h, Option.bind_some]
  rfl
theorem giveR_cons (y x : Ln) (r : List Ln) : giveR (y :: r) x = cond (hit x.o x.k y) (giveR r x) (y :: giveR r x) := by
  unfold giveR
  rw [flt_cons]
  cases hit x.o x.k y <;> rfl
theorem l41 (n : Nat) {s0 : VS} {m : List Ln} (hs : IsL s0 m) (x : Ln) (p : Nat) (hz : m.length < 100000) : ∀ (f j : Nat) {H : VH} {s5 : VS} {acc : List Ln}, H[p]? = some (.row (78 + boxK) (lnc x)) → Aq H 78 s5 (acc.map lnc) → acc.length + (m.drop j).length ≤ m.length → j ≤ m.length → m.length < j + f →
    ∃ s' H', L39_0 n f s0 p s5 (j : Int) H = some (.sl 78 s', H') ∧ IsL s' (acc ++ giveR (m.drop j) x) := by
  intro f
  induction f with
  | zero => intros; omega
  | succ f ih =>
    intro j H s5 acc hp h hl hj hm
    rw [L39_0_eq, hs.len, lns_len]
    by_cases c : j < m.length
    · obtain ⟨y, hy⟩ := get_of c
      rw [drop_cons hy, List.length_cons] at hl
      have hdt : decide ((j : Int) < (m.length : Int)) = true := decide_eq_true (by omega)
      rw [hdt, cond_true, rl_a hs hy, inc_nat (by omega), drop_cons hy, giveR_cons]
      obtain ⟨H1, a1, a2, a3, a4⟩ := box_new H (78 + boxK) (zs := [.int .i64 0, .str ⟨#[]⟩, .bool false, .bool false, .bool false]) (cs := lnc y) rfl rfl
      have a1' : stV (H ++ [.row (78 + boxK) [.int .i64 0, .str ⟨#[]⟩, .bool false, .bool false, .bool false]]) (.ob H.length 0) [.int .i64 y.o, .str ⟨y.k.toArray⟩, .bool y.only, .bool y.waits, .bool y.goes] = some H1 := a1
      simp only
      rw [a1', Option.bind_some, lnb0 a2, Option.bind_some, lnb0 ((a3 78).rx _ _ _ hp), Option.bind_some, beq_dec]
      have h1 := a4 78 _ _ h
      have hp1 := (a3 78).rx _ _ _ hp
      obtain ⟨s', H', b1, b2, b3⟩ := h1.push lnc (sz := 5) (by_ := 32) y (by decide) (by omega)
      have b1' : appD true H1 5 32 78 s5 (.fz [[.int .i64 y.o, .str (bk y.k), .bool y.only, .bool y.waits, .bool y.goes]] (.ex 1)) = some (s', H') := b1
      have keep : ∃ s4 H4, L39_0 n f s0 p s' ((j + 1 : Nat) : Int) H' = some (.sl 78 s4, H4) ∧ IsL s4 (acc ++ y :: giveR (m.drop (j + 1)) x) := by
        obtain ⟨s4, H4, c1, c2⟩ := ih (j + 1) (b3.rx _ _ _ hp1) b2 (by rw [List.length_append, List.length_singleton]; omega) (by omega) (by omega)
        refine ⟨s4, H4, c1, ?_⟩
        rw [show acc ++ y :: giveR (m.drop (j + 1)) x = acc ++ [y] ++ giveR (m.drop (j + 1)) x by simp]
        exact c2
      unfold hit
      cases e1 : decide (y.o = x.o) with
      | true =>
        rw [cond_true, lnb1 a2, Option.bind_some, lnb1 hp1, Option.bind_some, strEq_iff, Bool.true_and]
        cases e2 : decide (y.k = x.k) with
        | true =>
          rw [cond_true, cond_true]
          exact ih (j + 1) hp1 h1 (by omega) (by omega) (by omega)
        | false =>
          rw [cond_false, cond_false, lnba a2, Option.bind_some]
          simp only
          rw [b1', Option.bind_some]
          exact keep
      | false =>
        rw [cond_false, Bool.false_and, cond_false, lnba a2, Option.bind_some]
        simp only
        rw [b1', Option.bind_some]
        exact keep
    · have hdt : decide ((j : Int) < (m.length : Int)) = false := decide_eq_false (by omega)
      rw [List.drop_eq_nil_of_le (by omega)] at hl ⊢
      rw [hdt, cond_false, lnb0 hp, Option.bind_some, lnb1 hp, Option.bind_some, lnb2 hp, Option.bind_some]
      obtain ⟨s', H', b1, b2, b3⟩ := h.push lnc (sz := 5) (by_ := 32) (⟨x.o, x.k, x.only, false, false⟩ : Ln) (by decide) (by rw [List.length_nil] at hl; omega)
      have b1' : appD true H 5 32 78 s5 (.fz [[.int .i64 x.o, .str (bk x.k), .bool x.only, .bool false, .bool false]] (.ex 1)) = some (s', H') := b1
      rw [b1', Option.bind_some]
      exact ⟨s', H', rfl, b2.isE⟩
theorem c41 (n : Nat) {s0 : VS} {m : List Ln} (hs : IsL s0 m) (x : Ln) (hz : m.length < 100000) (hn : m.length + 10 < n) (H : VH) : ∃ s', V.callD (vF P tab (n + 1)) P false (.one (.flat (.slice 78))) 39 [.sl 78 s0, .agg (lnc x)] H = some (s', H) ∧ IsL s' (giveR m x) := by
  have hb : ∃ s' H', bodyV P tab (vF P tab n) n 39 [.sl 78 s0.strip, .agg (lnc x)] [] = some (.sl 78 s', H') ∧ IsL s' (giveR m x) := by
    show ∃ s' H', bodyV P tab (vF P tab n) n 39 [.sl 78 s0.strip, .agg [.int .i64 x.o, .str (bk x.k), .bool x.only, .bool x.waits, .bool x.goes]] [] = some (.sl 78 s', H') ∧ _
    rw [f39_eq]
    obtain ⟨s', H', a, b⟩ := l41 n (m := m) hs.strip x 0 hz n 0 (H := [.row (78 + boxK) (lnc x)]) (acc := []) rfl .nil (by simp) (Nat.zero_le _) (by omega)
    exact ⟨s', H', a, by simpa using b⟩
  obtain ⟨s', H', g1, g2⟩ := hb
  obtain ⟨a, b⟩ := lone_E (H := H) (args := [.sl 78 s0, .agg (lnc x)]) rfl (by simp [closed_slv 78 hs]; rfl) g1 g2
  exact ⟨s'.strip, callD_sl a, b⟩
/-! ### For what one waits -/
def wsr (w : Option Ln) : ByteArray × Bool × Bool := match w with | some l => (bk l.k, l.only, true) | none => (⟨#[]⟩, false, false)
theorem st2 {H : VH} {p : Nat} {T : TypeId} {u v : V} (h : H[p]? = some (.row T [u, v])) (a : ByteArray) (b : Bool) : stV H (.ob p 0) [.str a, .bool b] = some (H.set p (.row T [.str a, .bool b])) := by rw [st_row h (by simp) rfl]; rfl
theorem ld2 {H : VH} {p : Nat} {T : TypeId} {a : ByteArray} {b : Bool} (h : H[p]? = some (.row T [.str a, .bool b])) : ldV (.agg [.str, .bool]) H (.ob p 0) = some (a, b, ()) := by
  simp only [ldV, rowV_of h, Option.bind_some]
  rfl
theorem waitsR_cons (y : Ln) (r : List Ln) (o : Int) : waitsR (y :: r) o = cond (decide (y.o = o) && y.waits) (some y) (waitsR r o) := by
  unfold waitsR
  rw [List.find?_cons]
  cases decide (y.o = o) && y.waits <;> rfl
theorem l42 (n : Nat) {s0 : VS} {m : List Ln} (hs : IsL s0 m) (o : Int) {p : Nat} {H : VH} {u v : V} (hp : H[p]? = some (.row (49 + boxK) [u, v])) (hz : m.length < 100000) : ∀ (f j : Nat), j ≤ m.length → m.length < j + f →
    ∃ H', L40_0 n f s0 o p (j : Int) H = some (.tup [.agg [.str (wsr (waitsR (m.drop j) o)).1, .bool (wsr (waitsR (m.drop j) o)).2.1], .bool (wsr (waitsR (m.drop j) o)).2.2], H') := by
  intro f
  induction f with
  | zero => intros; omega
  | succ f ih =>
    intro j hj hm
    rw [L40_0_eq, hs.len, lns_len]
    by_cases c : j < m.length
    · obtain ⟨y, hy⟩ := get_of c
      have hdt : decide ((j : Int) < (m.length : Int)) = true := decide_eq_true (by omega)
      rw [hdt, cond_true, rl_0 hs hy, inc_nat (by omega), drop_cons hy, waitsR_cons, beq_dec]
      cases e1 : decide (y.o = o) with
      | false => rw [cond_false, Bool.false_and, cond_false]; exact ih (j + 1) (by omega) (by omega)
      | true =>
        rw [cond_true, rl_3 hs hy, Bool.true_and]
        cases e2 : y.waits with
        | false => rw [cond_false, cond_false]; exact ih (j + 1) (by omega) (by omega)
        | true =>
          rw [cond_true, cond_true, rl_1 hs hy, rl_2 hs hy, st2 hp, Option.bind_some, ld2 (List.getElem?_set_self (lt_of_ob hp)), Option.bind_some]
          exact ⟨_, rfl⟩
    · have hdt : decide ((j : Int) < (m.length : Int)) = false := decide_eq_false (by omega)
      rw [hdt, cond_false, List.drop_eq_nil_of_le (by omega), st2 hp, Option.bind_some, ld2 (List.getElem?_set_self (lt_of_ob hp)), Option.bind_some]
      exact ⟨_, rfl⟩
theorem c42 (n : Nat) {s0 : VS} {m : List Ln} (hs : IsL s0 m) (o : Int) (hz : m.length < 100000) (hn : m.length + 10 < n) (H : VH) : V.callD (vF P tab (n + 1)) P false (.tup [(.agg [.str, .bool]), (.flat .bool)]) 40 [.sl 78 s0, .int .i64 o] H = some (((((wsr (waitsR m o)).1, (wsr (waitsR m o)).2.1, ())), (wsr (waitsR m o)).2.2, ()), H) := by
  have hb : ∃ H', bodyV P tab (vF P tab n) n 40 [.sl 78 s0.strip, .int .i64 o] [] = some (.tup [.agg [.str (wsr (waitsR m o)).1, .bool (wsr (waitsR m o)).2.1], .bool (wsr (waitsR m o)).2.2], H') := by
    rw [f40_eq]
    exact l42 n (m := m) hs.strip o (p := 0) (H := [.row (49 + boxK) [.str ⟨#[]⟩, .bool false]]) rfl hz n 0 (Nat.zero_le _) (by omega)
  obtain ⟨H', g1⟩ := hb
  have := vF_lone (H := H) (args := [.sl 78 s0, .int .i64 o]) rfl (by simp [closed_slv 78 hs]; rfl) g1 rfl
  exact callD_some (.tup [.agg [.str (wsr (waitsR m o)).1, .bool (wsr (waitsR m o)).2.1], .bool (wsr (waitsR m o)).2.2]) this rfl
/-! ### Owners, keys -/
theorem stays_stp {H : VH} {p : VP} {τ : V.FT} {x : τ.T} (h : ldV (.flat τ) H p = some x) (r : Held) : V.stays H ((p, τ, V.fenc τ x) :: r) = V.stays H r := by
  rw [V.stays_cons, h]
  simp only [V.same_self, Bool.true_and]
theorem stays_k (H : VH) (k : Key) : V.stays H (hj (heldOf (.fz [sk k]) [.str] [.str (bk k)]) []) = true := rfl
/-! ### What one holds -/
def k2 (p : Key × Bool) : List V := [sk p.1, .bool p.2]
/-! ### For whom one waits -/
theorem l451 (n : Nat) {s9 : VS} {q : List Ln} (hq : IsL s9 q) (o : Int) (hz : q.length < 100000) : ∀ (f j : Nat) {H : VH} {s7 : VS} {acc : List Int}, Aq H 3 s7 (acc.map i1) → acc.length + (q.drop j).length < 900000 → acc.length + (q.drop j).length < n → j ≤ q.length → q.length < j + f →
    ∃ s' H', L42_1 (n + 1) f o s7 s9 (j : Int) H = some (.sl 3 s', H') ∧ IsI s' (riseI (acc ++ ((q.drop j).map (·.o)).takeWhile (fun a => !decide (a = o)))) := by
  intro f
  induction f with
  | zero => intros; omega
  | succ f ih =>
    intro j H s7 acc h hl hl2 hj hm
    have fin : ∃ s' H', ((V.callD (vF P tab (n + 1)) P false (.one (.flat (.slice 3))) 56 [.sl 3 s7] H).bind fun r8 => some (V.sl 3 r8.1, r8.2)) = some (.sl 3 s', H') ∧ IsI s' (riseI acc) := by
      obtain ⟨s', a, b⟩ := c58 n (s0 := s7) (l := acc) h.isE (by omega) (by omega) H
      rw [a, Option.bind_some]
      exact ⟨s', H, rfl, b⟩
    rw [L42_1_eq, hq.len, lns_len]
    by_cases c : j < q.length
    · obtain ⟨y, hy⟩ := get_of c
      rw [drop_cons hy, List.length_cons] at hl hl2
      have hdt : decide ((j : Int) < (q.length : Int)) = true := decide_eq_true (by omega)
      rw [hdt, cond_true, rl_0 hq hy, inc_nat (by omega), drop_cons hy, bne_dec, List.map_cons, List.takeWhile_cons]
      cases e1 : decide (y.o = o) with
      | true =>
        rw [Bool.not_true, cond_false]
        simp only [Bool.false_eq_true, if_false, List.append_nil]
        exact fin
      | false =>
        rw [Bool.not_false, cond_true, rl_0 hq hy]
        simp only [if_true]
        obtain ⟨s', H', a1, a2, a3⟩ := h.push i1 (sz := 1) (by_ := 8) y.o (by decide) (by omega)
        have a1' : appD true H 1 8 3 s7 (.fz [[.int .i64 y.o]] (.ex 1)) = some (s', H') := a1
        rw [a1', Option.bind_some]
        obtain ⟨s4, H4, b1, b2⟩ := ih (j + 1) a2 (by rw [List.length_append, List.length_singleton]; omega) (by rw [List.length_append, List.length_singleton]; omega) (by omega) (by omega)
        refine ⟨s4, H4, b1, ?_⟩
        rw [show ∀ r : List Int, acc ++ y.o :: r = acc ++ [y.o] ++ r from fun r => by simp]
        exact b2
    · have hdt : decide ((j : Int) < (q.length : Int)) = false := decide_eq_false (by omega)
      rw [hdt, cond_false, List.drop_eq_nil_of_le (by omega)]
      simp only [List.map_nil, List.takeWhile_nil, List.append_nil]
      exact fin
/-! ### Ahead -/
theorem nb0 {H : VH} {p : Nat} {T : TypeId} {a : ByteArray} {b : Bool} (h : H[p]? = some (.row T [.str a, .bool b])) : ldV (.flat .str) H (.ob p 0) = some a := ldb h 0 .str
theorem nb1 {H : VH} {p : Nat} {T : TypeId} {a : ByteArray} {b : Bool} (h : H[p]? = some (.row T [.str a, .bool b])) : ldV (.flat .bool) H (.ob p 1) = some b := ldb h 1 .bool
def aheadH (m : List Ln) (o : Int) (k : Key) (only : Bool) : List Int := (m.filter (fun l => decide (l.k = k) && !l.waits && !decide (l.o = o) && (only || l.only))).map (·.o)
theorem l450 (n : Nat) {s0 : VS} {m : List Ln} (hs : IsL s0 m) (o : Int) {k : Key} {only : Bool} {p : Nat} (hz : m.length ≤ 1000) (hn : 3 * m.length + 10 < n) : ∀ (f j : Nat) {H : VH} {s7 : VS} {acc : List Int}, H[p]? = some (.row (49 + boxK) [.str (bk k), .bool only]) → Aq H 3 s7 (acc.map i1) → acc.length + (m.drop j).length ≤ m.length → j ≤ m.length → m.length < j + f →
    ∃ s' H', L42_0 (n + 1) f s0 o p s7 (j : Int) H = some (.sl 3 s', H') ∧ IsI s' (riseI (acc ++ aheadH (m.drop j) o k only ++ ((qR m k).map (·.o)).takeWhile (fun a => !decide (a = o)))) := by
  intro f
  induction f with
  | zero => intros; omega
  | succ f ih =>
    intro j H s7 acc hp h hl hj hm
    rw [L42_0_eq, hs.len, lns_len]
    by_cases c : j < m.length
    · obtain ⟨y, hy⟩ := get_of c
      rw [drop_cons hy, List.length_cons] at hl
      have hdt : decide ((j : Int) < (m.length : Int)) = true := decide_eq_true (by omega)
      rw [hdt, cond_true, rl_1 hs hy, inc_nat (by omega), drop_cons hy, nb0 hp, Option.bind_some, strEq_iff]
      have skip : (decide (y.k = k) && !y.waits && !decide (y.o = o) && (only || y.only)) = false → ∃ s' H', L42_0 (n + 1) f s0 o p s7 ((j + 1 : Nat) : Int) H = some (.sl 3 s', H') ∧ IsI s' (riseI (acc ++ aheadH (y :: m.drop (j + 1)) o k only ++ ((qR m k).map (·.o)).takeWhile (fun a => !decide (a = o)))) := by
        intro e
        have e2 : aheadH (y :: m.drop (j + 1)) o k only = aheadH (m.drop (j + 1)) o k only := by unfold aheadH; rw [flt_cons, e]; rfl
        rw [e2]
        exact ih (j + 1) hp h (by omega) (by omega) (by omega)
      have put : (decide (y.k = k) && !y.waits && !decide (y.o = o) && (only || y.only)) = true → ∃ s' H', ((appD true H 1 8 3 s7 (.fz [[.int .i64 y.o]] (.ex 1))).bind fun r15 => L42_0 (n + 1) f s0 o p r15.1 ((j + 1 : Nat) : Int) r15.2) = some (.sl 3 s', H') ∧ IsI s' (riseI (acc ++ aheadH (y :: m.drop (j + 1)) o k only ++ ((qR m k).map (·.o)).takeWhile (fun a => !decide (a = o)))) := by
        intro e
        have e2 : aheadH (y :: m.drop (j + 1)) o k only = y.o :: aheadH (m.drop (j + 1)) o k only := by unfold aheadH; rw [flt_cons, e]; rfl
        obtain ⟨s', H', a1, a2, a3⟩ := h.push i1 (sz := 1) (by_ := 8) y.o (by decide) (by omega)
        have a1' : appD true H 1 8 3 s7 (.fz [[.int .i64 y.o]] (.ex 1)) = some (s', H') := a1
        rw [a1', Option.bind_some]
        obtain ⟨s4, H4, b1, b2⟩ := ih (j + 1) (a3.rx _ _ _ hp) a2 (by rw [List.length_append, List.length_singleton]; omega) (by omega) (by omega)
        refine ⟨s4, H4, b1, ?_⟩
        rw [e2, show ∀ r : List Int, acc ++ y.o :: r = acc ++ [y.o] ++ r from fun r => by simp]
        exact b2
      cases e1 : decide (y.k = k) with
      | false => rw [cond_false]; exact skip (by rw [e1]; rfl)
      | true =>
        rw [cond_true, rl_3 hs hy]
        cases e2 : y.waits with
        | true => rw [Bool.not_true, cond_false]; exact skip (by rw [e2]; simp)
        | false =>
          rw [Bool.not_false, cond_true, rl_0 hs hy, bne_dec]
          cases e3 : decide (y.o = o) with
          | true => rw [Bool.not_true, cond_false]; exact skip (by rw [e3]; simp)
          | false =>
            rw [Bool.not_false, cond_true, nb1 hp, Option.bind_some]
            cases e4 : only with
            | true =>
              rw [cond_true, rl_0 hs hy]
              have := put (by rw [e1, e2, e3, e4]; rfl)
              rw [e4] at this
              exact this
            | false =>
              rw [cond_false, rl_2 hs hy]
              cases e5 : y.only with
              | true =>
                rw [cond_true, rl_0 hs hy]
                have := put (by rw [e1, e2, e3, e4, e5]; rfl)
                rw [e4] at this
                exact this
              | false =>
                rw [cond_false]
                have := skip (by rw [e4, e5]; simp)
                rw [e4] at this
                exact this
    · have hdt : decide ((j : Int) < (m.length : Int)) = false := decide_eq_false (by omega)
      rw [List.drop_eq_nil_of_le (by omega)] at hl
      rw [hdt, cond_false, List.drop_eq_nil_of_le (by omega), nb0 hp, Option.bind_some]
      rw [List.length_nil] at hl
      obtain ⟨s', a, b⟩ := c39 n hs k (by omega) (by omega) H
      rw [a, Option.bind_some]
      have hq := qR_len m k
      obtain ⟨s4, H4, c1, c2⟩ := l451 n b o (by omega) (n + 1) 0 h (by rw [List.drop_zero]; omega) (by rw [List.drop_zero]; omega) (Nat.zero_le _) (by omega)
      refine ⟨s4, H4, c1, ?_⟩
      rw [List.drop_zero] at c2
      simpa [aheadH] using c2
theorem c45 (n : Nat) {s0 : VS} {m : List Ln} (hs : IsL s0 m) (o : Int) (hz : m.length ≤ 1000) (hn : 3 * m.length + 10 < n) (H : VH) : ∃ s', V.callD (vF P tab (n + 2)) P false (.one (.flat (.slice 3))) 42 [.sl 78 s0, .int .i64 o] H = some (s', H) ∧ IsI s' (aheadR m o) := by
  have hb : ∃ s' H', bodyV P tab (vF P tab (n + 1)) (n + 1) 42 [.sl 78 s0.strip, .int .i64 o] [] = some (.sl 3 s', H') ∧ IsI s' (aheadR m o) := by
    have hs' : IsL s0.strip m := hs.strip
    rw [f42_eq, c42 n hs' o (by omega) (by omega) [], Option.bind_some]
    obtain ⟨H1, a1, a2, a3, a4⟩ := box_new [] (49 + boxK) (zs := [.str ⟨#[]⟩, .bool false]) (cs := [.str (wsr (waitsR m o)).1, .bool (wsr (waitsR m o)).2.1]) rfl rfl
    simp only
    rw [a1, Option.bind_some]
    cases hw : waitsR m o with
    | none =>
      refine ⟨.nil, H1, rfl, ?_⟩
      unfold aheadR
      rw [hw]
      exact .nil
    | some x =>
      rw [hw] at a2
      obtain ⟨s', H', b1, b2⟩ := l450 n hs' o (k := x.k) (only := x.only) (p := 0) hz hn (n + 1) 0 (H := H1) (acc := []) a2 .nil (by simp) (Nat.zero_le _) (by omega)
      refine ⟨s', H', b1, ?_⟩
      unfold aheadR
      rw [hw]
      exact b2
  obtain ⟨s', H', g1, g2⟩ := hb
  obtain ⟨a, b⟩ := lone_E (H := H) (args := [.sl 78 s0, .int .i64 o]) rfl (by simp [closed_slv 78 hs]; rfl) g1 g2
  exact ⟨s'.strip, callD_sl a, b⟩
/-! ### Ask -/
theorem l230 (n : Nat) {s0 : VS} {m : List Ln} (hs : IsL s0 m) (o : Int) {k : Key} {only : Bool} {p : Nat} {H : VH} (hp : H[p]? = some (.row (49 + boxK) [.str (bk k), .bool only])) (hz : m.length < 100000) : ∀ (f j : Nat) (a b : Bool), j ≤ m.length → m.length < j + f →
    ∃ f', L20_0 n f s0 o p a b (j : Int) H = L20_0 n (f' + 1) s0 o p (hasR o k (m.drop j) a b).1 (hasR o k (m.drop j) a b).2 (m.length : Int) H := by
  intro f
  induction f with
  | zero => intros; omega
  | succ f ih =>
    intro j a b hj hm
    by_cases c : j < m.length
    · obtain ⟨y, hy⟩ := get_of c
      have hdt : decide ((j : Int) < (m.length : Int)) = true := decide_eq_true (by omega)
      rw [L20_0_eq, hs.len, lns_len, hdt, cond_true, rl_0 hs hy, inc_nat (by omega), drop_cons hy, beq_dec]
      show ∃ f', _ = L20_0 n (f' + 1) s0 o p (hasR o k (m.drop (j + 1)) (cond (hit o k y) true a) (cond (hit o k y) y.only b)).1 (hasR o k (m.drop (j + 1)) (cond (hit o k y) true a) (cond (hit o k y) y.only b)).2 (m.length : Int) H
      unfold hit
      cases e1 : decide (y.o = o) with
      | false => rw [cond_false, Bool.false_and, cond_false, cond_false]; exact ih (j + 1) _ _ (by omega) (by omega)
      | true =>
        rw [cond_true, rl_1 hs hy, nb0 hp, Option.bind_some, strEq_iff, Bool.true_and]
        cases e2 : decide (y.k = k) with
        | false => rw [cond_false, cond_false, cond_false]; exact ih (j + 1) _ _ (by omega) (by omega)
        | true => rw [cond_true, cond_true, cond_true, rl_2 hs hy]; exact ih (j + 1) _ _ (by omega) (by omega)
    · have : j = m.length := by omega
      subst this
      rw [List.drop_eq_nil_of_le (Nat.le_refl _)]
      exact ⟨f, rfl⟩
theorem lenz (l : List Ln) : (((l.length : Nat) : Int) == 0) = l.isEmpty := by cases l <;> simp; omega
theorem c23 (n : Nat) {s0 : VS} {m : List Ln} (hs : IsL s0 m) (o : Int) (k : Key) (only : Bool) (hz : m.length < 100000) (hn : m.length + 30 < n) (H : VH) : ∃ s', V.callD (vF P tab (n + 4)) P false (.tup [(.flat (.slice 78)), (.flat .bool)]) 20 [.sl 78 s0, .int .i64 o, .agg [.str (bk k), .bool only]] H = some ((s', (askR m o k only).2, ()), H) ∧ IsL s' (askR m o k only).1 := by
  have hb : ∃ s' H', bodyV P tab (vF P tab (n + 3)) (n + 3) 20 [.sl 78 s0.strip, .int .i64 o, .agg [.str (bk k), .bool only]] [] = some (.tup [.sl 78 s', .bool (askR m o k only).2], H') ∧ IsL s' (askR m o k only).1 := by
    have hs' : IsL s0.strip m := hs.strip
    generalize s0.strip = t0 at hs'
    rw [f20_eq, c42 (n + 2) hs' o hz (by omega) _, Option.bind_some]
    obtain ⟨H0, e0⟩ : ∃ H0 : VH, H0 = ([] ++ [VO.row (49 + boxK) [.str (bk k), .bool only]] : VH) := ⟨_, rfl⟩
    have hp0 : H0[0]? = some (.row (49 + boxK) [.str (bk k), .bool only]) := by rw [e0]; rfl
    simp only
    rw [← e0]
    obtain ⟨H1, a1, a2, a3, a4⟩ := box_new H0 (49 + boxK) (zs := [.str ⟨#[]⟩, .bool false]) (cs := [.str (wsr (waitsR m o)).1, .bool (wsr (waitsR m o)).2.1]) rfl rfl
    rw [a1, Option.bind_some]
    have hp : H1[0]? = some (.row (49 + boxK) [.str (bk k), .bool only]) := (a3 0).rx _ _ _ hp0
    unfold askR
    cases hw : waitsR m o with
    | some x => exact ⟨t0, H1, rfl, hs'⟩
    | none =>
      show ∃ s' H', L20_0 (n + 3) (n + 3) t0 o 0 false false 0 H1 = _ ∧ _
      obtain ⟨f', ef⟩ := l230 (n + 3) hs' o hp hz (n + 3) 0 false false (Nat.zero_le _) (by omega)
      rw [show ((0 : Nat) : Int) = 0 from rfl, List.drop_zero] at ef
      rw [ef, L20_0_eq, hs'.len, lns_len]
      have hdt : decide ((m.length : Int) < (m.length : Int)) = false := decide_eq_false (by omega)
      rw [hdt, cond_false]
      unfold lnA
      obtain ⟨a, ea⟩ : ∃ a, a = (hasR o k m false false).1 := ⟨_, rfl⟩
      obtain ⟨b, eb⟩ : ∃ b, b = (hasR o k m false false).2 := ⟨_, rfl⟩
      rw [← ea, ← eb]
      obtain ⟨H2, b1, b2, b3, b4⟩ := box_new H1 (78 + boxK) (zs := [.int .i64 0, .str ⟨#[]⟩, .bool false, .bool false, .bool false]) (cs := lnc ⟨o, k, only, true, a⟩) rfl rfl
      have b1' : stV (H1 ++ [.row (78 + boxK) [.int .i64 0, .str ⟨#[]⟩, .bool false, .bool false, .bool false]]) (.ob H1.length 0) [.int .i64 o, .str (bk k), .bool only, .bool true, .bool a] = some H2 := b1
      have hp2 : H2[0]? = some (.row (49 + boxK) [.str (bk k), .bool only]) := (b3 0).rx _ _ _ hp
      have c40' := c40 n hs' ⟨o, k, only, true, a⟩ hz (by omega) H2
      obtain ⟨sg, g1, g2⟩ := c41 (n + 2) hs' ⟨o, k, only, true, a⟩ hz (by omega) H2
      obtain ⟨sq, q1, q2⟩ := c39 (n + 2) hs' k hz (by omega) H2
      have add : ∃ s' H', ((appD true H2 5 32 78 .nil t0).bind fun r26 => (ldV (.agg [.int .i64, .str, .bool, .bool, .bool]) r26.2 (.ob H1.length 0)).bind fun x27 => (appD true r26.2 5 32 78 r26.1 (.fz [[.int .i64 x27.1, .str x27.2.1, .bool x27.2.2.1, .bool x27.2.2.2.1, .bool x27.2.2.2.2.1]] (.ex 1))).bind fun r28 => some (V.tup [.sl 78 r28.1, .bool false], r28.2)) = some (.tup [.sl 78 s', .bool false], H') ∧ IsL s' (m ++ [⟨o, k, only, true, a⟩]) := by
        obtain ⟨s1, K1, u1, u2, u3⟩ := (Aq.nil (H := H2) (e := 78)).pushs lnc (l := []) (r := m) (sz := 5) (by_ := 32) hs' (by decide) (by simp; omega)
        rw [List.nil_append] at u2
        obtain ⟨s2, K2, v1, v2, v3⟩ := u2.push lnc (sz := 5) (by_ := 32) ⟨o, k, only, true, a⟩ (by decide) (by omega)
        have v1' : appD true K1 5 32 78 s1 (.fz [[.int .i64 o, .str (bk k), .bool only, .bool true, .bool a]] (.ex 1)) = some (s2, K2) := v1
        rw [u1, Option.bind_some]
        simp only
        rw [lnba (u3.rx _ _ _ b2), Option.bind_some]
        simp only
        rw [v1', Option.bind_some]
        exact ⟨s2, K2, rfl, v2.isE⟩
      cases a with
      | true =>
        rw [cond_true, Bool.true_and, Bool.true_or, Bool.and_true]
        cases b with
        | true => rw [cond_true, Bool.true_or, cond_true]; exact ⟨t0, H1, rfl, hs'⟩
        | false =>
          rw [cond_false, nb1 hp, Option.bind_some, Bool.false_or]
          cases only with
          | false => rw [Bool.not_false, cond_true, cond_true]; exact ⟨t0, H1, rfl, hs'⟩
          | true =>
            rw [Bool.not_true, cond_false, cond_false, nb0 hp, Option.bind_some, Option.bind_some, b1', Option.bind_some, lnba b2, Option.bind_some]
            simp only
            rw [show [V.sl 78 t0, .agg [.int .i64 o, .str (bk k), .bool true, .bool true, .bool true]] = [V.sl 78 t0, .agg (lnc ⟨o, k, true, true, true⟩)] from rfl]
            rw [c40', Option.bind_some]
            simp only
            cases hmay : mayR m ⟨o, k, true, true, true⟩ with
            | true =>
              rw [cond_true, cond_true, cond_true, lnba b2, Option.bind_some]
              simp only
              rw [show [V.sl 78 t0, .agg [.int .i64 o, .str (bk k), .bool true, .bool true, .bool true]] = [V.sl 78 t0, .agg (lnc ⟨o, k, true, true, true⟩)] from rfl]
              rw [g1, Option.bind_some]
              exact ⟨sg, H2, rfl, g2⟩
            | false =>
              rw [cond_false, cond_false]
              exact add
      | false =>
        rw [cond_false, Bool.false_and, cond_false, Bool.false_or]
        rw [nb0 hp, Option.bind_some, nb1 hp, Option.bind_some, b1', Option.bind_some, lnba b2, Option.bind_some]
        simp only
        rw [show [V.sl 78 t0, .agg [.int .i64 o, .str (bk k), .bool only, .bool true, .bool false]] = [V.sl 78 t0, .agg (lnc ⟨o, k, only, true, false⟩)] from rfl]
        rw [c40', Option.bind_some]
        simp only
        cases hmay : mayR m ⟨o, k, only, true, false⟩ with
        | true =>
          rw [cond_true, cond_false, Bool.true_and, nb0 hp2, Option.bind_some, q1, Option.bind_some]
          simp only
          rw [q2.len, lns_len, lenz]
          cases hq : (qR m k).isEmpty with
          | true =>
            rw [cond_true, cond_true, lnba b2, Option.bind_some]
            simp only
            rw [show [V.sl 78 t0, .agg [.int .i64 o, .str (bk k), .bool only, .bool true, .bool false]] = [V.sl 78 t0, .agg (lnc ⟨o, k, only, true, false⟩)] from rfl]
            rw [g1, Option.bind_some]
            exact ⟨sg, H2, rfl, g2⟩
          | false =>
            rw [cond_false, cond_false]
            exact add
        | false =>
          rw [cond_false, Bool.false_and, cond_false]
          exact add
  obtain ⟨s', H', g1, g2⟩ := hb
  have := vF_lone (H := H) (args := [.sl 78 s0, .int .i64 o, .agg [.str (bk k), .bool only]]) rfl (by show (closedC (.sl 78 s0) && _) = true; rw [closed_slv 78 hs]; rfl) g1 (by show (closedC (.sl 78 s') && _) = true; rw [closed_slv 78 g2]; rfl)
  exact ⟨s'.strip, callD_some (.tup [.sl 78 s'.strip, .bool (askR m o k only).2]) this (dec_sb 78 _ _), g2.strip⟩
/-! ### Free -/
theorem l222 (n : Nat) {s7 : VS} {ks : List Key} (hk : IsT s7 ks) {i : Nat} {k : Key} (hi : ks[i]? = some k) (m0 : Nat) : ∀ (N f : Nat) {H : VH} {s6 s9 : VS} {m : List Ln} {acc : List Int}, IsL s6 m → m.length ≤ 1000 → m.length + 10 < n → (qR m k).length ≤ N → N < f → Aq H 3 s9 (acc.map i1) → acc.length + N < 100000000 →
    ∃ s' t' H', L19_2 (n + 3) m0 f s6 s7 s9 (i : Int) H = L19_1 (n + 3) m0 s' s7 t' (IntKind.wrap .i64 ((i : Int) + 1)) H' ∧ IsL s' (letR N m k).1 ∧ Aq H' 3 t' ((acc ++ (letR N m k).2).map i1) := by
  intro N
  induction N with
  | zero =>
    intro f H s6 s9 m acc hs hz hn hN hf h hl
    obtain ⟨f, rfl⟩ : ∃ f1, f = f1 + 1 := ⟨f - 1, by omega⟩
    have hq : qR m k = [] := List.eq_nil_of_length_eq_zero (by omega)
    obtain ⟨sq, q1, q2⟩ := c39 (n + 2) hs k (by omega) (by omega) H
    rw [L19_2_eq, isT_rd hk hi, q1, Option.bind_some]
    simp only
    rw [q2.len, lns_len, hq, show (((([] : List Ln).length : Nat) : Int) == 0) = true from rfl, cond_true]
    exact ⟨s6, s9, H, rfl, hs, by simpa [letR] using h⟩
  | succ N ih =>
    intro f H s6 s9 m acc hs hz hn hN hf h hl
    obtain ⟨f, rfl⟩ : ∃ f1, f = f1 + 1 := ⟨f - 1, by omega⟩
    obtain ⟨sq, q1, q2⟩ := c39 (n + 2) hs k (by omega) (by omega) H
    rw [L19_2_eq, isT_rd hk hi, q1, Option.bind_some]
    simp only
    rw [q2.len, lns_len, lenz]
    unfold letR
    cases hq : qR m k with
    | nil =>
      rw [show ([] : List Ln).isEmpty = true from rfl, cond_true]
      exact ⟨s6, s9, H, rfl, hs, by simpa using h⟩
    | cons x r =>
      rw [show (x :: r).isEmpty = false from rfl, cond_false]
      rw [hq] at q2
      have hx0 : (x :: r)[0]? = some x := rfl
      have hixa : ∀ {β : Type} (g : V.aggT [.int .i64, .str, .bool, .bool, .bool] → Option β), ((ixV 5 sq 0).bind fun p1 => (ldV (.agg [.int .i64, .str, .bool, .bool, .bool]) H p1).bind g) = g (x.o, ⟨x.k.toArray⟩, x.only, x.waits, x.goes, ()) := fun g => rl_a q2 hx0 H g
      rw [hixa]
      simp only
      rw [show [V.sl 78 s6, .agg [.int .i64 x.o, .str ⟨x.k.toArray⟩, .bool x.only, .bool x.waits, .bool x.goes]] = [V.sl 78 s6, .agg (lnc x)] from rfl]
      rw [c40 n hs x (by omega) hn H, Option.bind_some]
      simp only
      cases hm : mayR m x with
      | false =>
        rw [Bool.not_false, cond_true, cond_false]
        exact ⟨s6, s9, H, rfl, hs, by simpa using h⟩
      | true =>
        rw [Bool.not_true, cond_false, cond_true, hixa]
        simp only
        rw [show [V.sl 78 s6, .agg [.int .i64 x.o, .str ⟨x.k.toArray⟩, .bool x.only, .bool x.waits, .bool x.goes]] = [V.sl 78 s6, .agg (lnc x)] from rfl]
        obtain ⟨sg, g1, g2⟩ := c41 (n + 2) hs x (by omega) (by omega) H
        rw [g1, Option.bind_some]
        have hixo : ∀ {β : Type} (g : Int → Option β), ((ixV 5 sq 0).bind fun p1 => (atO p1 0).bind fun p2 => (ldV (.flat (.int .i64)) H p2).bind g) = g x.o := fun g => rl_0 q2 hx0 H g
        simp only
        rw [hixo]
        obtain ⟨s', H', a1, a2, a3⟩ := h.push i1 (sz := 1) (by_ := 8) x.o (by decide) (by omega)
        have a1' : appD true H 1 8 3 s9 (.fz [[.int .i64 x.o]] (.ex 1)) = some (s', H') := a1
        rw [a1', Option.bind_some]
        have hlt := qR_lt hq
        have hmem : x ∈ m := (mem_qR.1 (by rw [hq]; exact List.mem_cons_self ..)).1
        have hgl := giveR_len' hmem
        obtain ⟨s4, t4, H4, b1, b2, b3⟩ := ih f g2 (by omega) (by omega) (by omega) (by omega) a2 (by rw [List.length_append, List.length_singleton]; omega)
        refine ⟨s4, t4, H4, b1, b2, ?_⟩
        rw [show ∀ r : List Int, acc ++ x.o :: r = acc ++ [x.o] ++ r from fun r => by simp]
        exact b3
theorem l221 (n : Nat) {s7 : VS} {ks : List Key} (hk : IsT s7 ks) (hkz : ks.length ≤ 1000) : ∀ (f i : Nat) {H : VH} {s6 s9 : VS} {m : List Ln} {acc : List Int}, IsL s6 m → m.length ≤ 1000 → m.length + 10 < n → Aq H 3 s9 (acc.map i1) → acc.length ≤ i * 1000 → i ≤ ks.length → ks.length < i + f →
    ∃ s' t' H', L19_1 (n + 3) f s6 s7 s9 (i : Int) H = some (.tup [.sl 78 s', .sl 3 t'], H') ∧ IsL s' (freeKR (ks.drop i) m).1 ∧ IsI t' (acc ++ (freeKR (ks.drop i) m).2) := by
  intro f
  induction f with
  | zero => intros; omega
  | succ f ih =>
    intro i H s6 s9 m acc hs hz hn h hl hi hm
    rw [L19_1_eq, isT_len hk]
    by_cases c : i < ks.length
    · obtain ⟨k, hx⟩ := get_of c
      have hdt : decide ((i : Int) < (ks.length : Int)) = true := decide_eq_true (by omega)
      rw [hdt, cond_true, drop_cons hx]
      have hq := qR_len m k
      obtain ⟨s', t', H', a1, a2, a3⟩ := l222 n hk hx f (qR m k).length (n + 3) hs hz hn (Nat.le_refl _) (by omega) h (by omega)
      obtain ⟨d1, d2⟩ := letR_len (qR m k).length m k
      rw [a1, inc_nat (by omega)]
      obtain ⟨s4, t4, H4, b1, b2, b3⟩ := ih (i + 1) a2 (by omega) (by omega) a3 (by rw [List.length_append]; omega) (by omega) (by omega)
      refine ⟨s4, t4, H4, b1, b2, ?_⟩
      show IsI t4 (acc ++ ((letR (qR m k).length m k).2 ++ _))
      rw [← List.append_assoc]
      exact b3
    · have hdt : decide ((i : Int) < (ks.length : Int)) = false := decide_eq_false (by omega)
      rw [hdt, cond_false, List.drop_eq_nil_of_le (by omega)]
      exact ⟨s6, s9, H, rfl, hs, by rw [show (freeKR [] m).2 = [] from rfl, List.append_nil]; exact h.isE⟩
theorem l220 (n : Nat) {s0 : VS} {m : List Ln} (hs : IsL s0 m) (o : Int) (hz : m.length ≤ 1000) (hn : m.length + 10 < n) : ∀ (f j : Nat) {H : VH} {s6 s7 : VS} {acc : List Ln} {ks : List Key}, Aq H 78 s6 (acc.map lnc) → Aq H 9 s7 (ks.map k1) → acc.length + ks.length + (m.drop j).length ≤ m.length → j ≤ m.length → m.length < j + f →
    ∃ s' t' H', L19_0 (n + 3) f s0 o s6 s7 (j : Int) H = some (.tup [.sl 78 s', .sl 3 t'], H') ∧ IsL s' (freeKR (riseS (ks ++ (ofO (m.drop j) o).map (·.k))) (acc ++ notO (m.drop j) o)).1 ∧ IsI t' (freeKR (riseS (ks ++ (ofO (m.drop j) o).map (·.k))) (acc ++ notO (m.drop j) o)).2 := by
  intro f
  induction f with
  | zero => intros; omega
  | succ f ih =>
    intro j H s6 s7 acc ks h6 h7 hl hj hm
    rw [L19_0_eq, hs.len, lns_len]
    by_cases c : j < m.length
    · obtain ⟨y, hy⟩ := get_of c
      rw [drop_cons hy, List.length_cons] at hl
      have hdt : decide ((j : Int) < (m.length : Int)) = true := decide_eq_true (by omega)
      rw [hdt, cond_true, rl_0 hs hy, inc_nat (by omega), drop_cons hy, beq_dec]
      cases e1 : decide (y.o = o) with
      | true =>
        have e2 : ofO (y :: m.drop (j + 1)) o = y :: ofO (m.drop (j + 1)) o := by unfold ofO; rw [flt_cons, e1]; rfl
        have e3 : notO (y :: m.drop (j + 1)) o = notO (m.drop (j + 1)) o := by unfold notO; rw [flt_cons, e1]; rfl
        rw [cond_true, rl_1 hs hy, e2, e3]
        obtain ⟨s', H', a1, a2, a3⟩ := h7.push k1 (sz := 1) (by_ := 16) y.k (by decide) (by omega)
        have a1' : appD true H 1 16 9 s7 (.fz [[.str ⟨y.k.toArray⟩]] (.ex 1)) = some (s', H') := a1
        rw [a1', Option.bind_some]
        obtain ⟨s4, t4, H4, b1, b2, b3⟩ := ih (j + 1) (h6.gx a3 (by decide)) a2 (by rw [List.length_append, List.length_singleton]; omega) (by omega) (by omega)
        rw [List.map_cons, show ∀ r : List Key, ks ++ y.k :: r = ks ++ [y.k] ++ r from fun r => by simp]
        exact ⟨s4, t4, H4, b1, b2, b3⟩
      | false =>
        have e2 : ofO (y :: m.drop (j + 1)) o = ofO (m.drop (j + 1)) o := by unfold ofO; rw [flt_cons, e1]; rfl
        have e3 : notO (y :: m.drop (j + 1)) o = y :: notO (m.drop (j + 1)) o := by unfold notO; rw [flt_cons, e1]; rfl
        rw [cond_false, rl_a hs hy, e2, e3]
        obtain ⟨s', H', a1, a2, a3⟩ := h6.push lnc (sz := 5) (by_ := 32) y (by decide) (by omega)
        have a1' : appD true H 5 32 78 s6 (.fz [[.int .i64 y.o, .str ⟨y.k.toArray⟩, .bool y.only, .bool y.waits, .bool y.goes]] (.ex 1)) = some (s', H') := a1
        simp only
        rw [a1', Option.bind_some]
        obtain ⟨s4, t4, H4, b1, b2, b3⟩ := ih (j + 1) a2 (h7.gx a3 (by decide)) (by rw [List.length_append, List.length_singleton]; omega) (by omega) (by omega)
        rw [show ∀ r : List Ln, acc ++ y :: r = acc ++ [y] ++ r from fun r => by simp]
        exact ⟨s4, t4, H4, b1, b2, b3⟩
    · have hdt : decide ((j : Int) < (m.length : Int)) = false := decide_eq_false (by omega)
      rw [List.drop_eq_nil_of_le (by omega)] at hl ⊢
      rw [List.length_nil] at hl
      rw [hdt, cond_false]
      obtain ⟨sk, a, b⟩ := c38 (n + 2) (s0 := s7) (l := ks) h7.isE (by omega) (by omega) H
      rw [a, Option.bind_some]
      have hle := riseS_len ks
      have h6' : IsL s6 acc := h6.isE
      obtain ⟨s4, t4, H4, c1, c2, c3⟩ := l221 n b (by omega) (n + 3) 0 (H := H) h6' (by omega) (by omega) (acc := []) .nil (by simp) (Nat.zero_le _) (by omega)
      refine ⟨s4, t4, H4, c1, ?_, ?_⟩
      · rw [List.drop_zero] at c2
        rw [show notO [] o = [] from rfl, show ofO [] o = [] from rfl, List.map_nil, List.append_nil, List.append_nil]; exact c2
      · rw [List.drop_zero, List.nil_append] at c3
        rw [show notO [] o = [] from rfl, show ofO [] o = [] from rfl, List.map_nil, List.append_nil, List.append_nil]; exact c3
theorem c22 (n : Nat) {s0 : VS} {m : List Ln} (hs : IsL s0 m) (o : Int) (hz : m.length ≤ 1000) (hn : m.length + 10 < n) (H : VH) : ∃ s' t', V.callD (vF P tab (n + 4)) P false (.tup [(.flat (.slice 78)), (.flat (.slice 3))]) 19 [.sl 78 s0, .int .i64 o] H = some ((s', t', ()), H) ∧ IsL s' (freeR m o).1 ∧ IsI t' (freeR m o).2 := by
  have hb : ∃ s' t' H', bodyV P tab (vF P tab (n + 3)) (n + 3) 19 [.sl 78 s0.strip, .int .i64 o] [] = some (.tup [.sl 78 s', .sl 3 t'], H') ∧ IsL s' (freeR m o).1 ∧ IsI t' (freeR m o).2 := by
    rw [f19_eq]
    exact l220 n (m := m) hs.strip o hz hn (n + 3) 0 (H := []) (acc := []) (ks := []) .nil .nil (by simp) (Nat.zero_le _) (by omega)
  obtain ⟨s', t', H', g1, g2, g3⟩ := hb
  have := vF_lone (H := H) (args := [.sl 78 s0, .int .i64 o]) rfl (by show (closedC (.sl 78 s0) && _) = true; rw [closed_slv 78 hs]; rfl) g1 (by show (closedC (.sl 78 s') && (closedC (.sl 3 t') && true)) = true; rw [closed_slv 78 g2, closed_slv 3 g3]; rfl)
  exact ⟨s'.strip, t'.strip, callD_some (.tup [.sl 78 s'.strip, .sl 3 t'.strip]) this (dec_ss 78 3 _ _), g2.strip, g3.strip⟩
end Go.Proofs.Ytibdinelkpbhaaa.R
