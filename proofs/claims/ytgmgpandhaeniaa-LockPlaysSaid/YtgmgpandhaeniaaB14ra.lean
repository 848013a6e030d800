import Derived.Test.YtgmgpandhaeniaaEq
import Derived.Test.YtgmgpandhaeniaaVe
import Derived.Test.YtgmgpandhaeniaaVc
set_option maxRecDepth 100000
set_option linter.unusedVariables false
set_option linter.unusedSimpArgs false
namespace Go.Proofs.Ytgmgpandhaeniaa.R
open Go.Proofs.Ytgmgpandhaeniaa.Sh Go.Proofs.Ytgmgpandhaeniaa.Sh.V Go.RowKit Go.Proofs.Ytgmgpandhaeniaa.Sh.Lk
/-! ### The document's lines, as cells -/
def lnc (l : Ln) : List V := [.int .i64 l.o, sk l.k, .bool l.only, .bool l.waits, .bool l.goes]
def lns (m : List Ln) : List (List V) := m.map lnc
theorem lns_len (m : List Ln) : (lns m).length = m.length := by simp [lns]
abbrev IsL (s : VS) (m : List Ln) : Prop := IsE s (lns m)
theorem lns_get {m : List Ln} {i : Nat} {x : Ln} (h : m[i]? = some x) : (lns m)[i]? = some (lnc x) := by simp [lns, h]
theorem rl_0 {s : VS} {m : List Ln} (hs : IsL s m) {i : Nat} {x : Ln} (hx : m[i]? = some x) (H : VH) {β : Type} (f : Int → Option β) : ((ixV 5 s (i : Int)).bind fun p1 => (atO p1 0).bind fun p2 => (ldV (.flat (.int .i64)) H p2).bind f) = f x.o := by
  rw [hs.ix (lns_get hx) 5, Option.bind_some]
  show (V.fdec (.int .i64) (ik x.o)).bind f = _
  rw [fd_int]; rfl
theorem rl_1 {s : VS} {m : List Ln} (hs : IsL s m) {i : Nat} {x : Ln} (hx : m[i]? = some x) (H : VH) {β : Type} (f : ByteArray → Option β) : ((ixV 5 s (i : Int)).bind fun p1 => (atO p1 1).bind fun p2 => (ldV (.flat .str) H p2).bind f) = f ⟨x.k.toArray⟩ := by
  rw [hs.ix (lns_get hx) 5, Option.bind_some]; rfl
theorem rl_2 {s : VS} {m : List Ln} (hs : IsL s m) {i : Nat} {x : Ln} (hx : m[i]? = some x) (H : VH) {β : Type} (f : Bool → Option β) : ((ixV 5 s (i : Int)).bind fun p1 => (atO p1 2).bind fun p2 => (ldV (.flat .bool) H p2).bind f) = f x.only := by
  rw [hs.ix (lns_get hx) 5, Option.bind_some]; rfl
theorem rl_3 {s : VS} {m : List Ln} (hs : IsL s m) {i : Nat} {x : Ln} (hx : m[i]? = some x) (H : VH) {β : Type} (f : Bool → Option β) : ((ixV 5 s (i : Int)).bind fun p1 => (atO p1 3).bind fun p2 => (ldV (.flat .bool) H p2).bind f) = f x.waits := by
  rw [hs.ix (lns_get hx) 5, Option.bind_some]; rfl
theorem rl_4 {s : VS} {m : List Ln} (hs : IsL s m) {i : Nat} {x : Ln} (hx : m[i]? = some x) (H : VH) {β : Type} (f : Bool → Option β) : ((ixV 5 s (i : Int)).bind fun p1 => (atO p1 4).bind fun p2 => (ldV (.flat .bool) H p2).bind f) = f x.goes := by
  rw [hs.ix (lns_get hx) 5, Option.bind_some]; rfl
abbrev LnT : V.Ty1 := .agg [.int .i64, .str, .bool, .bool, .bool]
theorem dec_ln (x : Ln) : V.decs [.int .i64, .str, .bool, .bool, .bool] (lnc x) = some (x.o, ⟨x.k.toArray⟩, x.only, x.waits, x.goes, ()) := rfl
theorem rl_a {s : VS} {m : List Ln} (hs : IsL s m) {i : Nat} {x : Ln} (hx : m[i]? = some x) (H : VH) {β : Type} (f : V.aggT [.int .i64, .str, .bool, .bool, .bool] → Option β) : ((ixV 5 s (i : Int)).bind fun p1 => (ldV (.agg [.int .i64, .str, .bool, .bool, .bool]) H p1).bind f) = f (x.o, ⟨x.k.toArray⟩, x.only, x.waits, x.goes, ()) := by
  rw [hs.ix (lns_get hx) 5, Option.bind_some]; rfl
theorem take_snoc {α : Type} {l : List α} {i : Nat} {x : α} (hx : l[i]? = some x) : l.take (i + 1) = l.take i ++ [x] := by
  obtain ⟨h1, h2⟩ := List.getElem?_eq_some_iff.1 hx
  rw [List.take_succ_eq_append_getElem h1, h2]
theorem flt_snoc {α : Type} (p : α → Bool) (l : List α) (x : α) : (l ++ [x]).filter p = cond (p x) (l.filter p ++ [x]) (l.filter p) := by
  rw [List.filter_append]
  cases h : p x <;> simp [h]
theorem beq_dec (a b : Int) : (a == b) = decide (a = b) := rfl
/-! ### Numbers, rising, each once -/
theorem get_mem {α : Type} {l : List α} {i : Nat} {x : α} (h : l[i]? = some x) : x ∈ l := List.mem_of_getElem? h
def cands (out l : List Int) : List Int := l.filter (fun y => decide (∀ z ∈ out, z < y))
theorem mem_cands {out l : List Int} {y : Int} : y ∈ cands out l ↔ y ∈ l ∧ ∀ z ∈ out, z < y := by unfold cands; rw [List.mem_filter, decide_eq_true_eq]
/-- The best so far. -/
def Best (out l : List Int) (i : Nat) (b : Int) : Prop := (b = -1 ∧ ∀ j y, j < i → l[j]? = some y → ¬ ∀ z ∈ out, z < y) ∨ ∃ (k : Nat) (x : Int), b = (k : Int) ∧ l[k]? = some x ∧ (∀ z ∈ out, z < x) ∧ ∀ j y, j < i → l[j]? = some y → (∀ z ∈ out, z < y) → x ≤ y
theorem last_lt {out : List Int} (hs : out.Pairwise (fun a b => a < b)) {j : Nat} {w : Int} (hj : out[j]? = some w) (hl : j + 1 = out.length) (y : Int) : w < y ↔ ∀ z ∈ out, z < y := by
  constructor
  · intro h z hz
    obtain ⟨i, hi⟩ := List.mem_iff_getElem?.1 hz
    obtain ⟨h1, h2⟩ := List.getElem?_eq_some_iff.1 hi
    obtain ⟨h3, h4⟩ := List.getElem?_eq_some_iff.1 hj
    by_cases e : i = j
    · subst e; rw [← h2, h4]; exact h
    · have := List.pairwise_iff_getElem.1 hs i j h1 h3 (by omega)
      rw [h2, h4] at this; omega
  · intro h; exact h w (get_mem hj)
theorem Best.next {out l : List Int} {i : Nat} {b : Int} (h : Best out l i b) {x : Int} (hx : l[i]? = some x) (hn : ¬ ∀ z ∈ out, z < x) : Best out l (i + 1) b := by
  rcases h with ⟨rfl, h⟩ | ⟨k, w, rfl, h1, h2, h3⟩
  · refine .inl ⟨rfl, fun j y hj hy => ?_⟩
    by_cases e : j = i
    · subst e; rw [hx] at hy; injection hy with hy; rw [← hy]; exact hn
    · exact h j y (by omega) hy
  · refine .inr ⟨k, w, rfl, h1, h2, fun j y hj hy hc => ?_⟩
    by_cases e : j = i
    · subst e; rw [hx] at hy; injection hy with hy; rw [← hy] at hc; exact absurd hc hn
    · exact h3 j y (by omega) hy hc
theorem Best.first {out l : List Int} {i : Nat} (h : Best out l i (-1)) {x : Int} (hx : l[i]? = some x) (hc : ∀ z ∈ out, z < x) : Best out l (i + 1) (i : Int) := by
  rcases h with ⟨_, h⟩ | ⟨k, w, e, _⟩
  · refine .inr ⟨i, x, rfl, hx, hc, fun j y hj hy hcy => ?_⟩
    by_cases e : j = i
    · subst e; rw [hx] at hy; injection hy with hy; omega
    · exact absurd hcy (h j y (by omega) hy)
  · omega
theorem Best.less {out l : List Int} {i k : Nat} (h : Best out l i (k : Int)) {w x : Int} (hw : l[k]? = some w) (hx : l[i]? = some x) (hc : ∀ z ∈ out, z < x) (hl : x < w) : Best out l (i + 1) (i : Int) := by
  rcases h with ⟨e, _⟩ | ⟨k', w', e, h1, h2, h3⟩
  · omega
  · have : k = k' := by omega
    subst this
    rw [hw] at h1; injection h1 with h1; subst h1
    refine .inr ⟨i, x, rfl, hx, hc, fun j y hj hy hcy => ?_⟩
    by_cases e : j = i
    · subst e; rw [hx] at hy; injection hy with hy; omega
    · have := h3 j y (by omega) hy hcy; omega
theorem Best.more {out l : List Int} {i k : Nat} (h : Best out l i (k : Int)) {w x : Int} (hw : l[k]? = some w) (hx : l[i]? = some x) (hl : ¬ x < w) : Best out l (i + 1) (k : Int) := by
  rcases h with ⟨e, _⟩ | ⟨k', w', e, h1, h2, h3⟩
  · omega
  · have : k = k' := by omega
    subst this
    rw [hw] at h1; injection h1 with h1; subst h1
    refine .inr ⟨k, w, rfl, hw, h2, fun j y hj hy hcy => ?_⟩
    by_cases e : j = i
    · subst e; rw [hx] at hy; injection hy with hy; omega
    · exact h3 j y (by omega) hy hcy
theorem l58i (n m0 : Nat) {s0 s3 : VS} {l out : List Int} (hs : IsI s0 l) (ho : IsI s3 out) (hr : out.Pairwise (fun a b => a < b)) (hz : l.length < 1000000) (hz2 : out.length < 1000000) (H : VH) : ∀ (m i : Nat) (b : Int), i ≤ l.length → l.length < i + m → Best out l i b →
    ∃ m' b', Best out l l.length b' ∧ L58_1 n m0 m s0 s3 b (i : Int) H = L58_1 n m0 (m' + 1) s0 s3 b' (l.length : Int) H := by
  intro m
  induction m with
  | zero => intros; omega
  | succ m ih =>
    intro i b hi hm hb
    by_cases c : i < l.length
    · obtain ⟨x, hx⟩ := get_of c
      rw [L58_1_eq, isI_len hs]
      have hdt : decide ((i : Int) < (l.length : Int)) = true := decide_eq_true (by omega)
      rw [hdt, cond_true, inc_nat (by omega)]
      -- the part behind the question whether it comes behind the last
      have part : (∀ z ∈ out, z < x) → ∃ m' b', Best out l l.length b' ∧ (cond (decide (b < 0)) (L58_1 n m0 m s0 s3 (i : Int) ((i + 1 : Nat) : Int) H) ((ixV 1 s0 (i : Int)).bind fun p9 => (ldV (.flat (.int .i64)) H p9).bind fun x10 => (ixV 1 s0 b).bind fun p11 => (ldV (.flat (.int .i64)) H p11).bind fun x12 =>
          cond (decide ((x10 : Int) < x12)) (L58_1 n m0 m s0 s3 (i : Int) ((i + 1 : Nat) : Int) H) (L58_1 n m0 m s0 s3 b ((i + 1 : Nat) : Int) H))) = L58_1 n m0 (m' + 1) s0 s3 b' (l.length : Int) H := by
        intro hc
        have hb0 := hb
        rcases hb with ⟨rfl, _⟩ | ⟨k, w, rfl, h1, h2, h3⟩
        · rw [show decide ((-1 : Int) < 0) = true from rfl, cond_true]
          exact ih (i + 1) _ (by omega) (by omega) (hb0.first hx hc)
        · have hd0 : decide ((k : Int) < 0) = false := decide_eq_false (by omega)
          rw [hd0, cond_false, isI_rd hs hx, isI_rd hs h1]
          by_cases hl : x < w
          · rw [decide_eq_true hl, cond_true]
            exact ih (i + 1) _ (by omega) (by omega) (hb0.less h1 hx hc hl)
          · rw [decide_eq_false hl, cond_false]
            exact ih (i + 1) _ (by omega) (by omega) (hb0.more h1 hx hl)
      rw [isI_len ho]
      by_cases h0 : out.length = 0
      · have e0 : (((out.length : Nat) : Int) == 0) = true := by rw [h0]; rfl
        rw [e0, cond_true]
        have hn : out = [] := List.eq_nil_of_length_eq_zero h0
        exact part (by rw [hn]; intro z hz; cases hz)
      · have e0 : (((out.length : Nat) : Int) == 0) = false := by rw [beq_eq_false_iff_ne]; omega
        rw [e0, cond_false, isI_rd hs hx]
        obtain ⟨w, hw⟩ := get_of (l := out) (i := out.length - 1) (by omega)
        have e1 : IntKind.wrap .i64 (((out.length : Nat) : Int) - 1) = ((out.length - 1 : Nat) : Int) := by rw [i64_in (by omega)]; omega
        rw [e1, isI_rd ho hw]
        have hiff := last_lt hr hw (by omega) x
        by_cases hc : x > w
        · rw [decide_eq_true hc, cond_true]
          exact part (hiff.1 hc)
        · rw [decide_eq_false hc, cond_false]
          exact ih (i + 1) _ (by omega) (by omega) (hb.next hx (fun h => hc (hiff.2 h)))
    · have : i = l.length := by omega
      subst this
      exact ⟨m, b, hb, rfl⟩
theorem cands_snoc {out l : List Int} {x : Int} (hx : x ∈ l) (hc : ∀ z ∈ out, z < x) : (cands (out ++ [x]) l).length < (cands out l).length := by
  have e : cands (out ++ [x]) l = (cands out l).filter (fun y => decide (x < y)) := by
    unfold cands
    rw [List.filter_filter]
    refine List.filter_congr fun y _ => ?_
    rw [Bool.eq_iff_iff]
    simp only [Bool.and_eq_true, decide_eq_true_eq, List.mem_append, List.mem_singleton]
    constructor
    · intro h; exact ⟨h x (.inr rfl), fun z hz => h z (.inl hz)⟩
    · rintro ⟨h1, h2⟩ z (hz | rfl)
      · exact h2 z hz
      · exact h1
  rw [e]
  exact flt_lt (mem_cands.2 ⟨hx, hc⟩) (by simp)
theorem l58 (n : Nat) {s0 : VS} {l : List Int} (hs : IsI s0 l) (hz : l.length < 1000000) (hn : l.length < n) : ∀ (m : Nat) {H : VH} {s3 : VS} {out : List Int}, Aq H 3 s3 (out.map i1) → out.Pairwise (fun a b => a < b) → (∀ z ∈ out, z ∈ l) → (∀ y ∈ l, y ∈ out ∨ ∀ z ∈ out, z < y) → out.length + (cands out l).length ≤ l.length → (cands out l).length < m →
    ∃ s' H', L58_0 n m s0 s3 H = some (.sl 3 s', H') ∧ IsI s' (riseI l) ∧ Gx 3 H H' := by
  intro m
  induction m with
  | zero => intros; omega
  | succ m ih =>
    intro H s3 out ha hr h1 h2 hsum hm
    have ho : IsI s3 out := ha.isE
    rw [L58_0_eq]
    obtain ⟨m', b', hb, e⟩ := l58i n m hs ho hr hz (by omega) H n 0 (-1) (Nat.zero_le _) (by omega) (.inl ⟨rfl, fun j y hj _ => absurd hj (Nat.not_lt_zero _)⟩)
    rw [show ((0 : Nat) : Int) = 0 from rfl] at e
    rw [e, L58_1_eq, isI_len hs]
    have hdt : decide ((l.length : Int) < (l.length : Int)) = false := decide_eq_false (by omega)
    rw [hdt, cond_false]
    rcases hb with ⟨rfl, hno⟩ | ⟨k, w, rfl, g1, g2, g3⟩
    · rw [show decide ((-1 : Int) < 0) = true from rfl, cond_true]
      refine ⟨s3, H, rfl, ?_, Gx.refl _ _⟩
      have : out = riseI l := lt_eq hr (riseI_lt l) fun x => by
        rw [mem_riseI]
        refine ⟨h1 x, fun hx => ?_⟩
        rcases h2 x hx with h | h
        · exact h
        · obtain ⟨j, hj⟩ := List.mem_iff_getElem?.1 hx
          exact absurd h (hno j x (List.getElem?_eq_some_iff.1 hj).1 hj)
      rw [← this]; exact ho
    · have hd0 : decide ((k : Int) < 0) = false := decide_eq_false (by omega)
      rw [hd0, cond_false, isI_rd hs g1]
      have hwl := get_mem g1
      have hcl := cands_snoc hwl g2
      obtain ⟨s', H', a1, a2, a3⟩ := ha.push i1 (sz := 1) (by_ := 8) w (by decide) (by omega)
      have a1' : appD true H 1 8 3 s3 (.fz [[.int .i64 w]] (.ex 1)) = some (s', H') := a1
      rw [a1', Option.bind_some]
      obtain ⟨s4, H4, b1, b2, b3⟩ := ih a2 (by
        rw [List.pairwise_append]
        refine ⟨hr, List.pairwise_singleton _ _, fun a ha b hb => ?_⟩
        rw [List.mem_singleton.1 hb]; exact g2 a ha) (fun z hz => by
        rcases List.mem_append.1 hz with hz | hz
        · exact h1 z hz
        · rw [List.mem_singleton.1 hz]; exact hwl) (fun y hy => by
        rcases h2 y hy with h | h
        · exact .inl (List.mem_append.2 (.inl h))
        · obtain ⟨j, hj⟩ := List.mem_iff_getElem?.1 hy
          have := g3 j y (List.getElem?_eq_some_iff.1 hj).1 hj h
          by_cases e : y = w
          · exact .inl (List.mem_append.2 (.inr (List.mem_singleton.2 e)))
          · refine .inr fun z hz => ?_
            rcases List.mem_append.1 hz with hz | hz
            · exact h z hz
            · rw [List.mem_singleton.1 hz]; omega) (by rw [List.length_append, List.length_singleton]; omega) (by omega)
      exact ⟨s4, H4, b1, b2, a3.trans b3⟩
theorem e58 (n : Nat) {s0 : VS} {l : List Int} (hs : IsI s0 l) (hz : l.length < 1000000) (hn : l.length < n) (H : VH) : ∃ s', vF P tab (n + 1) 58 [.sl 3 s0] H = some (.sl 3 s', H) ∧ IsI s' (riseI l) := by
  have hb : ∃ s' H', bodyV P tab (vF P tab n) n 58 [.sl 3 s0.strip] [] = some (.sl 3 s', H') ∧ IsI s' (riseI l) := by
    rw [f58_eq]
    have hc : (cands [] l).length ≤ l.length := List.length_filter_le _ _
    obtain ⟨s', H', a, b, _⟩ := l58 n hs.strip hz hn n (H := []) (out := []) .nil .nil (fun z h => (by cases h)) (fun y _ => .inr (fun z h => (by cases h))) (by simpa using hc) (by omega)
    exact ⟨s', H', a, b⟩
  obtain ⟨s', H', g1, g2⟩ := hb
  exact ⟨s'.strip, lone_E (H := H) rfl (by simp [closed_slv 3 hs]) g1 g2⟩
theorem c58 (n : Nat) {s0 : VS} {l : List Int} (hs : IsI s0 l) (hz : l.length < 1000000) (hn : l.length < n) (H : VH) : ∃ s', V.callD (vF P tab (n + 1)) P false (.one (.flat (.slice 3))) 58 [.sl 3 s0] H = some (s', H) ∧ IsI s' (riseI l) := by
  obtain ⟨s', a, b⟩ := e58 n hs hz hn H
  exact ⟨s', callD_sl a, b⟩
end Go.Proofs.Ytgmgpandhaeniaa.R
