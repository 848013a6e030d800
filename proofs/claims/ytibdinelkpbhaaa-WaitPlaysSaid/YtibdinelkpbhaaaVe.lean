/- A table of locks: the document's lines, in plain Lean. -/
import Derived.Test.YtibdinelkpbhaaaVd
set_option linter.unusedVariables false
set_option linter.unusedSimpArgs false
namespace Go.Proofs.Ytibdinelkpbhaaa.Sh.Lk
open Go.Proofs.Ytibdinelkpbhaaa.Sh.V
/-! ### The document's locks, in plain Lean -/
structure Ln where
  o : Int
  k : Key
  only : Bool
  waits : Bool
  goes : Bool
def kl (m : List Ln) (k : Key) : List Ln := m.filter (fun l => decide (l.k = k))
def hol (ls : List Ln) : List Ln := ls.filter (fun l => !l.waits)
def wq (ls : List Ln) : List Ln := ls.filter (fun l => l.waits && l.goes) ++ ls.filter (fun l => l.waits && !l.goes)
def hsR (m : List Ln) (k : Key) : List Int := (hol (kl m k)).map (·.o)
def onlyR (m : List Ln) (k : Key) : Bool := (hol (kl m k)).any (·.only)
def qR (m : List Ln) (k : Key) : List Ln := wq (kl m k)
def riseI (l : List Int) : List Int := dedupI (sortI l)
def waitsR (m : List Ln) (o : Int) : Option Ln := m.find? (fun l => decide (l.o = o) && l.waits)
def mayR (m : List Ln) (x : Ln) : Bool := cond x.goes (decide ((riseI (hsR m x.k)).length = 1)) (cond x.only (decide ((riseI (hsR m x.k)).length = 0)) (!onlyR m x.k))
def hit (o : Int) (k : Key) (y : Ln) : Bool := decide (y.o = o) && decide (y.k = k)
def giveR (m : List Ln) (x : Ln) : List Ln := m.filter (fun y => !hit x.o x.k y) ++ [⟨x.o, x.k, x.only, false, false⟩]
def hasR (o : Int) (k : Key) : List Ln → Bool → Bool → Bool × Bool
  | [], a, b => (a, b)
  | y :: l, a, b => hasR o k l (cond (hit o k y) true a) (cond (hit o k y) y.only b)
def lnA (m : List Ln) (o : Int) (k : Key) (only : Bool) : Ln := ⟨o, k, only, true, (hasR o k m false false).1⟩
def askR (m : List Ln) (o : Int) (k : Key) (only : Bool) : List Ln × Bool :=
  match waitsR m o with
  | some _ => (m, false)
  | none => cond ((hasR o k m false false).1 && ((hasR o k m false false).2 || !only)) (m, true)
      (cond (mayR m (lnA m o k only) && ((hasR o k m false false).1 || (qR m k).isEmpty)) (giveR m (lnA m o k only), true) (m ++ [lnA m o k only], false))
def letR : Nat → List Ln → Key → List Ln × List Int
  | 0, m, k => (m, [])
  | n + 1, m, k =>
    match qR m k with
    | [] => (m, [])
    | x :: _ => cond (mayR m x) ((letR n (giveR m x) k).1, x.o :: (letR n (giveR m x) k).2) (m, [])
def freeKR : List Key → List Ln → List Ln × List Int
  | [], m => (m, [])
  | k :: ks, m => ((freeKR ks (letR (qR m k).length m k).1).1, (letR (qR m k).length m k).2 ++ (freeKR ks (letR (qR m k).length m k).1).2)
def ofO (m : List Ln) (o : Int) : List Ln := m.filter (fun l => decide (l.o = o))
def notO (m : List Ln) (o : Int) : List Ln := m.filter (fun l => !decide (l.o = o))
def freeR (m : List Ln) (o : Int) : List Ln × List Int := freeKR (riseS ((ofO m o).map (·.k))) (notO m o)
def holdsR (m : List Ln) (o : Int) : List (Key × Bool) :=
  (riseS ((m.filter (fun l => decide (l.o = o) && !l.waits)).map (·.k))).flatMap fun k => (m.filter (fun l => decide (l.o = o) && !l.waits && decide (l.k = k))).map fun l => (k, l.only)
def aheadR (m : List Ln) (o : Int) : List Int :=
  match waitsR m o with
  | none => []
  | some x => riseI (((m.filter (fun l => decide (l.k = x.k) && !l.waits && !decide (l.o = o) && (x.only || l.only))).map (·.o)) ++ ((qR m x.k).map (·.o)).takeWhile (fun a => !decide (a = o)))
def keysR (m : List Ln) : List Key := riseS (m.map (·.k))
/-! ### Sizes of the document's -/
theorem kl_giveR_ne (m : List Ln) (x : Ln) {k : Key} (h : x.k ≠ k) : kl (giveR m x) k = kl m k := by
  unfold kl giveR
  rw [List.filter_append, List.filter_filter]
  have e : (List.filter (fun l : Ln => decide (l.k = k)) [⟨x.o, x.k, x.only, false, false⟩]) = [] := by simp [h]
  rw [e, List.append_nil]
  refine List.filter_congr fun y _ => ?_
  by_cases hy : y.k = k
  · have : hit x.o x.k y = false := by unfold hit; rw [decide_eq_false (p := y.k = x.k) (fun e => h (by rw [← e, hy])), Bool.and_false]
    rw [this, decide_eq_true hy]; rfl
  · rw [decide_eq_false hy]; rfl
theorem kl_giveR (m : List Ln) (x : Ln) : kl (giveR m x) x.k = (kl m x.k).filter (fun y => !decide (y.o = x.o)) ++ [⟨x.o, x.k, x.only, false, false⟩] := by
  unfold kl giveR
  rw [List.filter_append, List.filter_filter, List.filter_filter]
  have e : (List.filter (fun l : Ln => decide (l.k = x.k)) [⟨x.o, x.k, x.only, false, false⟩]) = [⟨x.o, x.k, x.only, false, false⟩] := by simp
  rw [e]
  congr 1
  refine List.filter_congr fun y _ => ?_
  unfold hit
  cases decide (y.k = x.k) <;> cases decide (y.o = x.o) <;> rfl
theorem mem_wq {ls : List Ln} {x : Ln} : x ∈ wq ls ↔ x ∈ ls ∧ x.waits = true := by
  unfold wq
  rw [List.mem_append, List.mem_filter, List.mem_filter]
  cases x.waits <;> cases x.goes <;> simp
theorem mem_qR {m : List Ln} {k : Key} {x : Ln} : x ∈ qR m k ↔ x ∈ m ∧ x.k = k ∧ x.waits = true := by
  unfold qR
  rw [mem_wq]
  unfold kl
  rw [List.mem_filter, decide_eq_true_eq]
  constructor
  · rintro ⟨⟨a, b⟩, c⟩; exact ⟨a, b, c⟩
  · rintro ⟨a, b, c⟩; exact ⟨⟨a, b⟩, c⟩
theorem wq_filter (ls : List Ln) (p : Ln → Bool) : wq (ls.filter p) = (wq ls).filter p := by
  unfold wq
  rw [List.filter_append, List.filter_filter, List.filter_filter, List.filter_filter, List.filter_filter]
  congr 1 <;> exact List.filter_congr fun y _ => Bool.and_comm _ _
theorem hol_filter (ls : List Ln) (p : Ln → Bool) : hol (ls.filter p) = (hol ls).filter p := by
  unfold hol
  rw [List.filter_filter, List.filter_filter]
  exact List.filter_congr fun y _ => Bool.and_comm _ _
theorem wq_app_h (ls : List Ln) {x : Ln} (h : x.waits = false) : wq (ls ++ [x]) = wq ls := by
  unfold wq
  rw [List.filter_append, List.filter_append]
  have e1 : List.filter (fun l : Ln => l.waits && l.goes) [x] = [] := by simp [h]
  have e2 : List.filter (fun l : Ln => l.waits && !l.goes) [x] = [] := by simp [h]
  rw [e1, e2, List.append_nil, List.append_nil]
theorem hol_app_h (ls : List Ln) {x : Ln} (h : x.waits = false) : hol (ls ++ [x]) = hol ls ++ [x] := by
  unfold hol
  rw [List.filter_append]
  congr 1
  simp [h]
theorem hol_app_w (ls : List Ln) {x : Ln} (h : x.waits = true) : hol (ls ++ [x]) = hol ls := by
  unfold hol
  rw [List.filter_append]
  simp [h]
theorem qR_give (m : List Ln) (x : Ln) : qR (giveR m x) x.k = (qR m x.k).filter (fun y => !decide (y.o = x.o)) := by
  unfold qR
  rw [kl_giveR, wq_app_h _ rfl, wq_filter]
theorem flt_lt {α : Type} {p : α → Bool} {l : List α} {x : α} (hx : x ∈ l) (hp : p x = false) : (l.filter p).length < l.length := by
  induction l with
  | nil => cases hx
  | cons y l ih =>
    rcases List.mem_cons.1 hx with rfl | hx
    · rw [List.filter_cons, hp]
      have := List.length_filter_le p l
      simp only [Bool.false_eq_true, if_false, List.length_cons]; omega
    · have := ih hx
      rw [List.filter_cons]
      split <;> simp only [List.length_cons] <;> omega
theorem qR_lt {m : List Ln} {k : Key} {x : Ln} {r : List Ln} (h : qR m k = x :: r) : (qR (giveR m x) k).length < (qR m k).length := by
  have hx : x ∈ qR m k := by rw [h]; exact List.mem_cons_self ..
  have hk := (mem_qR.1 hx).2.1
  rw [← hk]
  rw [← hk] at hx
  rw [qR_give]
  exact flt_lt hx (by simp)
theorem giveR_len (m : List Ln) (x : Ln) : (giveR m x).length ≤ m.length + 1 := by
  unfold giveR
  have := List.length_filter_le (fun y => !hit x.o x.k y) m
  simp only [List.length_append, List.length_singleton]; omega
theorem giveR_len' {m : List Ln} {x : Ln} (hx : x ∈ m) : (giveR m x).length ≤ m.length := by
  unfold giveR
  have := flt_lt (p := fun y => !hit x.o x.k y) hx (by simp [hit])
  simp only [List.length_append, List.length_singleton]; omega
theorem letR_len : ∀ (n : Nat) (m : List Ln) (k : Key), (letR n m k).1.length ≤ m.length ∧ (letR n m k).2.length ≤ n
  | 0, m, k => ⟨Nat.le_refl _, Nat.le_refl _⟩
  | n + 1, m, k => by
    unfold letR
    cases h : qR m k with
    | nil => exact ⟨Nat.le_refl _, Nat.zero_le _⟩
    | cons x r =>
      simp only
      have hx : x ∈ m := (mem_qR.1 (by rw [h]; exact List.mem_cons_self ..)).1
      obtain ⟨a, b⟩ := letR_len n (giveR m x) k
      have := giveR_len' hx
      cases mayR m x with
      | true => simp only [cond_true, List.length_cons]; omega
      | false => simp only [cond_false]; exact ⟨Nat.le_refl _, Nat.zero_le _⟩
theorem qR_len (m : List Ln) (k : Key) : (qR m k).length ≤ m.length := by
  unfold qR wq
  rw [List.length_append]
  have h1 : ∀ l : List Ln, (l.filter (fun l => l.waits && l.goes)).length + (l.filter (fun l => l.waits && !l.goes)).length ≤ l.length := by
    intro l
    induction l with
    | nil => simp
    | cons y l ih =>
      rw [List.filter_cons, List.filter_cons]
      cases y.waits <;> cases y.goes <;> simp <;> omega
  exact Nat.le_trans (h1 _) (List.length_filter_le _ _)
theorem askR_len (m : List Ln) (o : Int) (k : Key) (only : Bool) : (askR m o k only).1.length ≤ m.length + 1 := by
  unfold askR
  cases waitsR m o with
  | some _ => exact Nat.le_succ _
  | none =>
    simp only
    cases ((hasR o k m false false).1 && ((hasR o k m false false).2 || !only)) with
    | true => exact Nat.le_succ _
    | false =>
      rw [cond_false]
      cases (mayR m (lnA m o k only) && ((hasR o k m false false).1 || (qR m k).isEmpty)) with
      | true => exact giveR_len _ _
      | false => simp
theorem freeKR_len : ∀ (ks : List Key) (m : List Ln), (freeKR ks m).1.length ≤ m.length ∧ (freeKR ks m).2.length ≤ ks.length * m.length
  | [], m => ⟨Nat.le_refl _, by simp [freeKR]⟩
  | k :: ks, m => by
    obtain ⟨a, b⟩ := letR_len (qR m k).length m k
    obtain ⟨c, d⟩ := freeKR_len ks (letR (qR m k).length m k).1
    have e := qR_len m k
    unfold freeKR
    simp only [List.length_append, List.length_cons]
    have : ks.length * (letR (qR m k).length m k).1.length ≤ ks.length * m.length := Nat.mul_le_mul_left _ a
    rw [Nat.succ_mul]
    omega
theorem freeR_len (m : List Ln) (o : Int) : (freeR m o).1.length ≤ m.length := Nat.le_trans (freeKR_len _ _).1 (List.length_filter_le _ _)
end Go.Proofs.Ytibdinelkpbhaaa.Sh.Lk
namespace Go.Proofs.Ytibdinelkpbhaaa.Sh.Lk
open Go.Proofs.Ytibdinelkpbhaaa.Sh.V
/-! ### A table is the document's -/
theorem mem_riseI {l : List Int} {x : Int} : x ∈ riseI l ↔ x ∈ l := by unfold riseI; rw [mem_dedup, mem_sortI]
theorem riseI_lt (l : List Int) : (riseI l).Pairwise (fun a b => a < b) := dedup_lt (sortI_sorted l)
theorem lt_eq : ∀ {a b : List Int}, a.Pairwise (fun x y => x < y) → b.Pairwise (fun x y => x < y) → (∀ x, x ∈ a ↔ x ∈ b) → a = b := fun {a b} ha hb h =>
  List.Perm.eq_of_pairwise (le := fun a b => a ≤ b) (fun a b _ _ h1 h2 => Int.le_antisymm h1 h2) (ha.imp fun h => Int.le_of_lt h) (hb.imp fun h => Int.le_of_lt h)
    ((List.perm_ext_iff_of_nodup (ha.imp fun h e => by omega) (hb.imp fun h e => by omega)).2 h)
theorem riseI_congr {a b : List Int} (h : ∀ x, x ∈ a ↔ x ∈ b) : riseI a = riseI b := lt_eq (riseI_lt a) (riseI_lt b) (fun x => by rw [mem_riseI, mem_riseI, h])
theorem sort_lt {l : List Int} (h : l.Nodup) : (sortI l).Pairwise (fun a b => a < b) := by
  have h1 := sortI_sorted l
  have h2 : (sortI l).Nodup := (sortI_perm l).nodup_iff.2 h
  exact (List.pairwise_and_iff.2 ⟨h1, h2⟩).imp fun ⟨a, b⟩ => by omega
theorem riseI_nd {l : List Int} (h : l.Nodup) : riseI l = sortI l := lt_eq (riseI_lt l) (sort_lt h) (fun x => by rw [mem_riseI, mem_sortI])
def wtL (l : Ln) : Wt := ⟨l.o, l.only, l.goes⟩
/-- A lock is lines. -/
structure RK (x : Lk) (ls : List Ln) : Prop where
  h : x.hs = sortI ((hol ls).map (·.o))
  o : x.only = (hol ls).any (·.only)
  q : x.q = (wq ls).map wtL
theorem RK.zero : RK lk0 [] := ⟨rfl, rfl, rfl⟩
theorem RK.mem {x : Lk} {ls : List Ln} (r : RK x ls) {o : Int} : o ∈ x.hs ↔ ∃ l ∈ ls, l.waits = false ∧ l.o = o := by
  rw [r.h, mem_sortI, List.mem_map]
  constructor
  · rintro ⟨l, hl, e⟩
    have := List.mem_filter.1 hl
    exact ⟨l, this.1, by simpa using this.2, e⟩
  · rintro ⟨l, hl, h1, e⟩
    exact ⟨l, List.mem_filter.2 ⟨hl, by simp [h1]⟩, e⟩
theorem RK.len {x : Lk} {ls : List Ln} (r : RK x ls) : x.hs.length = (hol ls).length := by rw [r.h, sortI_len, List.length_map]
theorem RK.may {x : Lk} {m : List Ln} {k : Key} (r : RK x (kl m k)) (hn : x.hs.Nodup) (l : Ln) (hk : l.k = k) : mayR m l = mayP x (wtL l) := by
  subst hk
  have e : riseI (hsR m l.k) = x.hs := by
    rw [riseI_nd ((sortI_perm _).nodup_iff.1 (by rw [← show x.hs = sortI (hsR m l.k) from r.h]; exact hn))]
    exact r.h.symm
  unfold mayR mayP
  rw [e]
  show _ = cond l.goes _ (cond l.only _ (!x.only))
  rw [r.o]
  rfl
/-- What an empty lock has. -/
theorem RK.nil {ls : List Ln} (r : RK lk0 ls) : ls = [] := by
  have h1 : hol ls = [] := List.eq_nil_of_length_eq_zero (by rw [← r.len]; rfl)
  have h2 : wq ls = [] := by
    have := congrArg List.length r.q
    rw [List.length_map] at this
    exact List.eq_nil_of_length_eq_zero this.symm
  cases ls with
  | nil => rfl
  | cons y l =>
    exfalso
    cases hw : y.waits with
    | false =>
      have : y ∈ hol (y :: l) := List.mem_filter.2 ⟨List.mem_cons_self .., by simp [hw]⟩
      rw [h1] at this; cases this
    | true =>
      have : y ∈ wq (y :: l) := mem_wq.2 ⟨List.mem_cons_self .., hw⟩
      rw [h2] at this; cases this
theorem flt_self {α : Type} {p : α → Bool} {l : List α} (h : ∀ x ∈ l, p x = true) : l.filter p = l := List.filter_eq_self.2 h
/-- One gets it. -/
theorem RK.give {x : Lk} {m : List Ln} {l : Ln} (r : RK x (kl m l.k)) (hn : x.hs.Nodup) (hup : l.goes = true → l.o ∈ x.hs) (hnu : l.goes = false → l.o ∉ x.hs) (hm : mayP x (wtL l) = true) (q' : List Wt)
    (hq : q' = (wq ((kl m l.k).filter (fun y => !decide (y.o = l.o)))).map wtL) : RK ⟨(giveP x (wtL l)).hs, l.only, q'⟩ (kl (giveR m l) l.k) := by
  have ho := r.o
  have hh := r.h
  have hle := r.len
  refine ⟨?_, ?_, ?_⟩
  · show (giveP x (wtL l)).hs = _
    rw [kl_giveR, hol_app_h _ rfl, hol_filter, List.map_append]
    unfold giveP
    cases hg : l.goes with
    | true =>
      have hm := hm
      unfold mayP at hm
      rw [show (wtL l).up = l.goes from rfl, hg, cond_true] at hm
      have h1 := of_decide_eq_true hm
      rw [show (wtL l).up = l.goes from rfl, hg, cond_true]
      have hin := hup hg
      match hx : x.hs, h1 with
      | [a], _ =>
        rw [hx] at hin
        have ea := List.mem_singleton.1 hin
        rw [hx] at hh hle
        match hl : hol (kl m l.k), hle with
        | [y], _ =>
          rw [hl] at hh
          have : [a] = [y.o] := hh
          injection this with e _
          rw [List.filter_cons, show (!decide (y.o = l.o)) = false by rw [← e, ← ea]; simp]
          simp only [Bool.false_eq_true, if_false, List.filter_nil, List.map_nil, List.nil_append, List.map_cons]
          rw [← ea]
          rfl
    | false =>
      have hni := hnu hg
      rw [show (wtL l).up = l.goes from rfl, hg, cond_false, flt_self (fun y hy => ?_)]
      · rw [hh]
        refine sortI_eq ?_ (sortI_sorted _)
        exact ((sortI_perm _).append_right _).trans (sortI_perm _).symm
      · have : y.o ≠ l.o := fun e => hni (by rw [hh, mem_sortI]; exact List.mem_map.2 ⟨y, hy, e⟩)
        simpa using this
  · show l.only = _
    rw [kl_giveR, hol_app_h _ rfl, hol_filter, List.any_append]
    have h2 : ((hol (kl m l.k)).filter (fun y => !decide (y.o = l.o))).any (·.only) = true → l.only = true := by
      intro h
      obtain ⟨y, hy, hyo⟩ := List.any_eq_true.1 h
      have hy := List.mem_filter.1 hy
      have hxo : x.only = true := by rw [ho]; exact List.any_eq_true.2 ⟨y, hy.1, hyo⟩
      unfold mayP at hm
      rw [show (wtL l).up = l.goes from rfl, show (wtL l).only = l.only from rfl, hxo] at hm
      cases hg : l.goes with
      | true =>
        exfalso
        rw [hg, cond_true] at hm
        have h1 := of_decide_eq_true hm
        have hin := hup hg
        rw [hle] at h1
        match hl : hol (kl m l.k), h1 with
        | [z], _ =>
          rw [hl] at hh hy
          rw [hh] at hin
          have e1 : l.o = z.o := List.mem_singleton.1 hin
          have e2 : y = z := List.mem_singleton.1 hy.1
          have := hy.2
          rw [e2, e1] at this
          simp at this
      | false =>
        rw [hg, cond_false] at hm
        cases hlo : l.only with
        | true => rfl
        | false => rw [hlo] at hm; exact hm
    cases h3 : ((hol (kl m l.k)).filter (fun y => !decide (y.o = l.o))).any (·.only) with
    | true => rw [h2 h3]; rfl
    | false => simp
  · show q' = _
    rw [kl_giveR, wq_app_h _ rfl]
    exact hq
/-! ### All of a table -/
/-- Lines tell who waits, but for some. -/
def HW (E : Int → Prop) (ws : List (Int × Key)) (m : List Ln) : Prop := ∀ o k, ¬ E o → getM ws o = some k → ∃ l ∈ m, l.waits = true ∧ l.o = o ∧ l.k = k
theorem HW.give {E : Int → Prop} {ws : List (Int × Key)} {m : List Ln} (h : HW E ws m) (x : Ln) (hn : (ws.map (·.1)).Nodup) : HW E (cutA ws x.o) (giveR m x) := by
  intro o k hE hg
  rw [getM_cut hn] at hg
  by_cases e : o = x.o
  · rw [if_pos e] at hg; cases hg
  · rw [if_neg e] at hg
    obtain ⟨l, hl, h1, h2, h3⟩ := h o k hE hg
    refine ⟨l, ?_, h1, h2, h3⟩
    unfold giveR
    refine List.mem_append.2 (.inl (List.mem_filter.2 ⟨hl, ?_⟩))
    unfold hit
    rw [decide_eq_false (p := l.o = x.o) (fun e2 => e (by rw [← h2, e2]))]; rfl
theorem head_q {ls : List Ln} {w : Wt} {q : List Wt} (h : w :: q = (wq ls).map wtL) : ∃ x r, wq ls = x :: r ∧ w = wtL x ∧ q = r.map wtL := by
  cases hw : wq ls with
  | nil => rw [hw] at h; cases h
  | cons x r =>
    rw [hw] at h
    injection h with a b
    exact ⟨x, r, rfl, a, b⟩
theorem flt_tail {x : Ln} {r : List Ln} (h : ((x :: r).map (fun l => l.o)).Nodup) : (x :: r).filter (fun y => !decide (y.o = x.o)) = r := by
  rw [List.map_cons, List.nodup_cons] at h
  rw [List.filter_cons, show (!decide (x.o = x.o)) = false by simp]
  simp only [Bool.false_eq_true, if_false]
  refine flt_self fun y hy => ?_
  have : y.o ≠ x.o := fun e => h.1 (List.mem_map.2 ⟨y, hy, e⟩)
  simpa using this
/-- Letting, on both sides. -/
theorem let_rel (E : Int → Prop) (k : Key) : ∀ (q : List Wt) (hs : List Int) (only : Bool) (ws : List (Int × Key)) (m : List Ln) (n : Nat), RK ⟨hs, only, q⟩ (kl m k) → hs.Nodup → (∀ w ∈ q, w.up = true → w.o ∈ hs) → (∀ w ∈ q, w.up = false → w.o ∉ hs) → (q.map (·.o)).Nodup → (ws.map (·.1)).Nodup → HW E ws m → q.length ≤ n →
    RK (letP q hs only ws).1 (kl (letR n m k).1 k) ∧ (letP q hs only ws).2.2 = (letR n m k).2 ∧ HW E (letP q hs only ws).2.1 (letR n m k).1 ∧ ∀ k', k' ≠ k → kl (letR n m k).1 k' = kl m k'
  | [], hs, only, ws, m, n, r, hn, hu, hnu, hq, hw, hW, hl => by
    have e : qR m k = [] := by
      have := congrArg List.length r.q
      rw [List.length_map] at this
      exact List.eq_nil_of_length_eq_zero this.symm
    have e2 : letR n m k = (m, []) := by
      cases n with
      | zero => rfl
      | succ n => unfold letR; rw [e]
    rw [e2]
    exact ⟨r, rfl, hW, fun _ _ => rfl⟩
  | w :: q, hs, only, ws, m, 0, r, hn, hu, hnu, hq, hw, hW, hl => by simp at hl
  | w :: q, hs, only, ws, m, n + 1, r, hn, hu, hnu, hq, hw, hW, hl => by
    obtain ⟨x, rr, e1, e2, e3⟩ := head_q r.q
    have hqr : qR m k = x :: rr := e1
    have hxk : x.k = k := (mem_qR.1 (show x ∈ qR m k by rw [hqr]; exact List.mem_cons_self ..)).2.1
    have hmay := r.may hn x hxk
    rw [letP_cons]
    unfold letR
    rw [hqr]
    simp only
    rw [hmay, e2]
    cases hm : mayP ⟨hs, only, wtL x :: q⟩ (wtL x) with
    | false =>
      show RK ⟨hs, only, wtL x :: q⟩ (kl m k) ∧ ([] : List Int) = [] ∧ HW E ws m ∧ ∀ k', k' ≠ k → kl m k' = kl m k'
      rw [← e2]
      exact ⟨r, rfl, hW, fun _ _ => rfl⟩
    | true =>
      simp only [cond_true]
      subst e2
      have hup := hu (wtL x) (List.mem_cons_self ..)
      have hnup := hnu (wtL x) (List.mem_cons_self ..)
      obtain ⟨g1, g2, g3⟩ := may_give (x := ⟨hs, only, q⟩) (w := wtL x) hm hup
      rw [List.map_cons, List.nodup_cons] at hq
      have hnd : ((x :: rr).map (fun l => l.o)).Nodup := by
        rw [List.map_cons, List.nodup_cons]
        have e4 : q.map (·.o) = rr.map (fun l => l.o) := by rw [e3, List.map_map]; rfl
        rw [e4] at hq
        exact hq
      have r' : RK ⟨(giveP ⟨hs, only, q⟩ (wtL x)).hs, x.only, q⟩ (kl (giveR m x) k) := by
        subst hxk
        refine RK.give (x := ⟨hs, only, wtL x :: q⟩) r hn hup hnup hm q ?_
        rw [wq_filter, e1, flt_tail hnd, e3]
      have hgn : (giveP ⟨hs, only, q⟩ (wtL x)).hs.Nodup := give_nd (x := ⟨hs, only, q⟩) hn hnup
      obtain ⟨a1, a2, a3, a4⟩ := let_rel E k q (giveP ⟨hs, only, q⟩ (wtL x)).hs x.only (cutA ws x.o) (giveR m x) n r' hgn
        (fun z hz hzu => g3 _ (hu z (List.mem_cons_of_mem _ hz) hzu))
        (fun z hz hzu h => by
          rcases give_mem h with h | h
          · exact hnu z (List.mem_cons_of_mem _ hz) hzu h
          · exact hq.1 (List.mem_map.2 ⟨z, hz, h⟩)) hq.2 (nodup_cut hw _) (hW.give x hw) (by simp only [List.length_cons] at hl; omega)
      refine ⟨a1, ?_, a3, fun k' hk => ?_⟩
      · show x.o :: _ = x.o :: _
        rw [show (wtL x).only = x.only from rfl, show (wtL x).o = x.o from rfl, a2]
      · rw [a4 k' hk, kl_giveR_ne m x (fun e => hk (by rw [← e, hxk]))]
end Go.Proofs.Ytibdinelkpbhaaa.Sh.Lk
namespace Go.Proofs.Ytibdinelkpbhaaa.Sh.Lk
open Go.Proofs.Ytibdinelkpbhaaa.Sh.V
structure Rel (t : Tb) (m : List Ln) : Prop where
  r : ∀ k, RK (lkOf t k) (kl m k)
  w : HW (fun _ => False) t.ws m
  ne : ∀ k x, getM t.m k = some x → x.hs.length + x.q.length ≠ 0
theorem Rel.zero : Rel ⟨[], []⟩ [] := ⟨fun k => RK.zero, fun o k _ h => (by cases h), fun k x h => (by cases h)⟩
theorem nd_inj {α β : Type} {f : α → β} : ∀ {l : List α}, (l.map f).Nodup → ∀ {a b : α}, a ∈ l → b ∈ l → f a = f b → a = b
  | [], _, _, _, h, _, _ => by cases h
  | y :: l, hn, a, b, ha, hb, e => by
    rw [List.map_cons, List.nodup_cons] at hn
    rcases List.mem_cons.1 ha with h0 | ha
    · subst h0
      rcases List.mem_cons.1 hb with h1 | hb
      · exact h1.symm
      · exact absurd (List.mem_map.2 ⟨b, hb, e.symm⟩) hn.1
    · rcases List.mem_cons.1 hb with h1 | hb
      · exact absurd (List.mem_map.2 ⟨a, ha, by rw [e, h1]⟩) hn.1
      · exact nd_inj hn.2 ha hb e
theorem mem_kl {m : List Ln} {k : Key} {l : Ln} : l ∈ kl m k ↔ l ∈ m ∧ l.k = k := by unfold kl; rw [List.mem_filter, decide_eq_true_eq]
theorem mem_hol {ls : List Ln} {l : Ln} : l ∈ hol ls ↔ l ∈ ls ∧ l.waits = false := by unfold hol; rw [List.mem_filter]; simp
section
variable {t : Tb} {m : List Ln} {S : List Int}
theorem Rel.q_mem (h : Rel t m) {l : Ln} (hl : l ∈ m) (hw : l.waits = true) : wtL l ∈ (lkOf t l.k).q := by
  rw [(h.r l.k).q]
  exact List.mem_map.2 ⟨l, mem_wq.2 ⟨mem_kl.2 ⟨hl, rfl⟩, hw⟩, rfl⟩
theorem Rel.wl (h : Rel t m) (hi : IT t) {l : Ln} (hl : l ∈ m) (hw : l.waits = true) : getM t.ws l.o = some l.k := (hi.l l.k).c (wtL l) (h.q_mem hl hw)
theorem waitsR_some {m : List Ln} {o : Int} {l : Ln} (h : waitsR m o = some l) : l ∈ m ∧ l.o = o ∧ l.waits = true := by
  unfold waitsR at h
  have h1 := List.find?_some h
  rw [Bool.and_eq_true, decide_eq_true_eq] at h1
  exact ⟨List.mem_of_find?_eq_some h, h1.1, h1.2⟩
theorem waitsR_none {m : List Ln} {o : Int} (h : waitsR m o = none) : ∀ l ∈ m, l.waits = true → l.o ≠ o := by
  unfold waitsR at h
  intro l hl hw e
  have := List.find?_eq_none.1 h l hl
  rw [decide_eq_true e, hw] at this
  exact this rfl
theorem Rel.wnone (h : Rel t m) (hi : IT t) (o : Int) : waitsR m o = none ↔ getM t.ws o = none := by
  constructor
  · intro hn
    cases hg : getM t.ws o with
    | none => rfl
    | some k =>
      obtain ⟨l, hl, h1, h2, h3⟩ := h.w o k (fun f => f) hg
      exact absurd h2 (waitsR_none hn l hl h1)
  · intro hg
    cases hw : waitsR m o with
    | none => rfl
    | some l =>
      obtain ⟨a, b, c⟩ := waitsR_some hw
      have := h.wl hi a c
      rw [b, hg] at this; cases this
theorem findO_of {o : Int} {w : Wt} : ∀ {q : List Wt}, (q.map (·.o)).Nodup → w ∈ q → w.o = o → findO o q = some w
  | [], _, h, _ => by cases h
  | y :: q, hn, h, e => by
    rw [List.map_cons, List.nodup_cons] at hn
    unfold findO
    rcases List.mem_cons.1 h with rfl | h
    · rw [decide_eq_true e]; rfl
    · rw [decide_eq_false (fun e2 => hn.1 (List.mem_map.2 ⟨w, h, by rw [e, e2]⟩)), cond_false]
      exact findO_of hn.2 h e
theorem Rel.waits (h : Rel t m) (hi : IT t) (o : Int) : waitsP t o = (waitsR m o).map (fun l => (l.k, l.only)) := by
  unfold waitsP
  cases hw : waitsR m o with
  | none => rw [(h.wnone hi o).1 hw]; rfl
  | some l =>
    obtain ⟨a, b, c⟩ := waitsR_some hw
    have hg := h.wl hi a c
    rw [b] at hg
    rw [hg]
    simp only
    rw [findO_of (w := wtL l) (hi.l l.k).n (h.q_mem a c) b]
    rfl
/-! ### Who holds -/
theorem Rel.holder (h : Rel t m) (hi : IT t) (hx : XT S t) {l : Ln} (hl : l ∈ m) (hw : l.waits = false) : l.only = (lkOf t l.k).only := by
  have r := h.r l.k
  have hm : l ∈ hol (kl m l.k) := mem_hol.2 ⟨mem_kl.2 ⟨hl, rfl⟩, hw⟩
  cases ho : l.only with
  | true => rw [r.o]; exact (List.any_eq_true.2 ⟨l, hm, ho⟩).symm
  | false =>
    cases hx : (lkOf t l.k).only with
    | false => rfl
    | true =>
      exfalso
      have h1 := (hi.l l.k).a hx
      rw [r.len] at h1
      rw [r.o] at hx
      match hl : hol (kl m l.k), h1 with
      | [z], _ =>
        rw [hl] at hx hm
        have e := List.mem_singleton.1 hm
        rw [List.any_cons, ← e, ho] at hx
        cases hx
theorem hit_iff {o : Int} {k : Key} {y : Ln} : hit o k y = true ↔ y.o = o ∧ y.k = k := by unfold hit; rw [Bool.and_eq_true, decide_eq_true_eq, decide_eq_true_eq]
theorem hasR_spec (o : Int) (k : Key) : ∀ (l : List Ln) (a b : Bool), ((∀ y ∈ l, hit o k y = false) ∧ hasR o k l a b = (a, b)) ∨ ∃ y ∈ l, hit o k y = true ∧ hasR o k l a b = (true, y.only)
  | [], a, b => .inl ⟨fun y h => (by cases h), rfl⟩
  | y :: l, a, b => by
    unfold hasR
    cases hh : hit o k y with
    | true =>
      rw [cond_true, cond_true]
      rcases hasR_spec o k l true y.only with ⟨h1, h2⟩ | ⟨z, hz, h1, h2⟩
      · exact .inr ⟨y, List.mem_cons_self .., hh, h2⟩
      · exact .inr ⟨z, List.mem_cons_of_mem _ hz, h1, h2⟩
    | false =>
      rw [cond_false, cond_false]
      rcases hasR_spec o k l a b with ⟨h1, h2⟩ | ⟨z, hz, h1, h2⟩
      · refine .inl ⟨fun z hz => ?_, h2⟩
        rcases List.mem_cons.1 hz with rfl | hz
        · exact hh
        · exact h1 z hz
      · exact .inr ⟨z, List.mem_cons_of_mem _ hz, h1, h2⟩
theorem Rel.has (h : Rel t m) (hi : IT t) (hx : XT S t) {o : Int} (hn : waitsR m o = none) (k : Key) : (hasR o k m false false).1 = (lkOf t k).hs.contains o ∧ ((hasR o k m false false).1 = true → (hasR o k m false false).2 = (lkOf t k).only) := by
  rcases hasR_spec o k m false false with ⟨h1, h2⟩ | ⟨y, hy, h1, h2⟩
  · rw [h2]
    refine ⟨?_, fun h => by cases h⟩
    cases hc : (lkOf t k).hs.contains o with
    | false => rfl
    | true =>
      have hc : o ∈ (lkOf t k).hs := by simpa using hc
      obtain ⟨l, hl, _, e⟩ := (h.r k).mem.1 hc
      have := h1 l (mem_kl.1 hl).1
      rw [hit_iff.2 ⟨e, (mem_kl.1 hl).2⟩] at this; cases this
  · rw [h2]
    obtain ⟨e1, e2⟩ := hit_iff.1 h1
    have hw : y.waits = false := by
      cases hw : y.waits with
      | false => rfl
      | true => exact absurd e1 (waitsR_none hn y hy hw)
    refine ⟨?_, fun _ => ?_⟩
    · have : o ∈ (lkOf t k).hs := (h.r k).mem.2 ⟨y, mem_kl.2 ⟨hy, e2⟩, hw, e1⟩
      exact (by simpa using this : (lkOf t k).hs.contains o = true).symm
    · have := h.holder hi hx hy hw
      rw [e2] at this
      exact this
end
theorem kl_app (m : List Ln) (x : Ln) (k : Key) : kl (m ++ [x]) k = if x.k = k then kl m k ++ [x] else kl m k := by
  unfold kl
  rw [List.filter_append]
  by_cases h : x.k = k
  · rw [if_pos h]; simp [h]
  · rw [if_neg h]; simp [h]
theorem atP_up : ∀ (A B : List Wt), (∀ w ∈ A, w.up = true) → (∀ w ∈ B, w.up = false) → atP true (A ++ B) = A.length
  | [], [], _, _ => rfl
  | [], w :: B, _, h => by
    show atP true (w :: B) = 0
    unfold atP
    rw [h w (List.mem_cons_self ..)]; rfl
  | w :: A, B, h1, h2 => by
    show atP true (w :: (A ++ B)) = _
    unfold atP
    rw [h1 w (List.mem_cons_self ..), atP_up A B (fun z hz => h1 z (List.mem_cons_of_mem _ hz)) h2]
    rfl
theorem insP_wq (ls : List Ln) {x : Ln} (hw : x.waits = true) : insP ((wq ls).map wtL) (wtL x) = (wq (ls ++ [x])).map wtL := by
  unfold insP
  show List.take (atP x.goes _) _ ++ _ :: List.drop (atP x.goes _) _ = _
  cases hg : x.goes with
  | false =>
    rw [atP_false, List.take_length, List.drop_length]
    unfold wq
    rw [List.filter_append, List.filter_append]
    have e1 : List.filter (fun l : Ln => l.waits && l.goes) [x] = [] := by simp [hg]
    have e2 : List.filter (fun l : Ln => l.waits && !l.goes) [x] = [x] := by simp [hw, hg]
    rw [e1, e2, List.append_nil, ← List.append_assoc, List.map_append, List.map_append, List.map_append]
    rfl
  | true =>
    unfold wq
    rw [List.filter_append, List.filter_append]
    have e1 : List.filter (fun l : Ln => l.waits && l.goes) [x] = [x] := by simp [hw, hg]
    have e2 : List.filter (fun l : Ln => l.waits && !l.goes) [x] = [] := by simp [hg]
    rw [e1, e2, List.append_nil, List.map_append, List.map_append, List.map_append, atP_up]
    · rw [List.take_left, List.drop_left]
      simp
    · intro w hw
      obtain ⟨l, hl, rfl⟩ := List.mem_map.1 hw
      have := (List.mem_filter.1 hl).2
      rw [Bool.and_eq_true] at this
      exact this.2
    · intro w hw
      obtain ⟨l, hl, rfl⟩ := List.mem_map.1 hw
      have := (List.mem_filter.1 hl).2
      rw [Bool.and_eq_true] at this
      have := this.2
      show l.goes = false
      simpa using this
theorem Rel.ask {t : Tb} {m : List Ln} {S : List Int} (h : Rel t m) (hi : IT t) (hx : XT S t) (o : Int) (k : Key) (only : Bool) : Rel (askP t o k only).1 (askR m o k only).1 ∧ (askP t o k only).2 = (askR m o k only).2 := by
  unfold askP askR
  cases hw : waitsR m o with
  | some l =>
    obtain ⟨a, b, c⟩ := waitsR_some hw
    have hg := h.wl hi a c
    rw [b] at hg
    rw [hg]
    exact ⟨h, rfl⟩
  | none =>
    rw [(h.wnone hi o).1 hw]
    obtain ⟨h1, h2⟩ := h.has hi hx hw k
    have r := h.r k
    simp only
    have c1 : ((hasR o k m false false).1 && ((hasR o k m false false).2 || !only)) = ((lkOf t k).hs.contains o && ((lkOf t k).only || !only)) := by
      rw [h1]
      cases hc : (lkOf t k).hs.contains o with
      | false => rfl
      | true => rw [h2 (by rw [h1, hc])]
    have hL : wtL (lnA m o k only) = ⟨o, only, (lkOf t k).hs.contains o⟩ := by unfold wtL lnA; simp only; rw [h1]
    have c2 : (mayR m (lnA m o k only) && ((hasR o k m false false).1 || (qR m k).isEmpty)) = (mayP (lkOf t k) ⟨o, only, (lkOf t k).hs.contains o⟩ && ((lkOf t k).hs.contains o || (lkOf t k).q.isEmpty)) := by
      rw [r.may (hx k).nd (lnA m o k only) rfl, hL, h1, r.q]
      congr 2
      show (wq (kl m k)).isEmpty = _
      cases wq (kl m k) <;> rfl
    have hno := waitsR_none hw
    rw [c1, c2]
    cases c3 : ((lkOf t k).hs.contains o && ((lkOf t k).only || !only)) with
    | true =>
      rw [cond_true, cond_true]
      refine ⟨⟨fun k' => ?_, h.w, fun k' x hg => ?_⟩, rfl⟩
      · rw [lkOf_put]
        by_cases e : k' = k
        · rw [if_pos e, e]; exact r
        · rw [if_neg e]; exact h.r k'
      · simp only at hg
        rw [getM_put] at hg
        by_cases e : k' = k
        · rw [if_pos e] at hg
          injection hg with hg
          rw [← hg]
          rw [Bool.and_eq_true] at c3
          have : o ∈ (lkOf t k).hs := by simpa using c3.1
          have := List.length_pos_of_mem this
          omega
        · rw [if_neg e] at hg
          exact h.ne k' x hg
    | false =>
      rw [cond_false, cond_false]
      cases c4 : (mayP (lkOf t k) ⟨o, only, (lkOf t k).hs.contains o⟩ && ((lkOf t k).hs.contains o || (lkOf t k).q.isEmpty)) with
      | true =>
        rw [cond_true, cond_true]
        rw [Bool.and_eq_true] at c4
        have hup : (lnA m o k only).goes = true → (lnA m o k only).o ∈ (lkOf t k).hs := fun hg => by
          have : (lkOf t k).hs.contains o = true := by rw [← h1]; exact hg
          exact List.contains_iff_mem.1 this
        have hnu : (lnA m o k only).goes = false → (lnA m o k only).o ∉ (lkOf t k).hs := fun hg hm => by
          have : (lkOf t k).hs.contains o = true := List.contains_iff_mem.2 hm
          rw [← h1] at this
          rw [show (hasR o k m false false).1 = (lnA m o k only).goes from rfl, hg] at this
          cases this
        have hg := RK.give (l := lnA m o k only) (x := lkOf t k) r (hx k).nd hup hnu (by rw [hL]; exact c4.1) (lkOf t k).q (by
          rw [wq_filter, flt_self (fun y hy => ?_)]
          · exact r.q
          · have hy := mem_wq.1 hy
            have : y.o ≠ o := hno y (mem_kl.1 hy.1).1 hy.2
            show (!decide (y.o = o)) = true
            simpa using this)
        refine ⟨⟨fun k' => ?_, fun o' k' hE hg => ?_, fun k' x hg => ?_⟩, rfl⟩
        · rw [lkOf_put]
          by_cases e : k' = k
          · rw [if_pos e, e]
            rw [hL] at hg
            exact hg
          · rw [if_neg e, kl_giveR_ne _ _ (fun e2 => e e2.symm)]; exact h.r k'
        · obtain ⟨l, hl, g1, g2, g3⟩ := h.w o' k' hE hg
          refine ⟨l, ?_, g1, g2, g3⟩
          unfold giveR
          refine List.mem_append.2 (.inl (List.mem_filter.2 ⟨hl, ?_⟩))
          have : l.o ≠ o := hno l hl g1
          unfold hit
          show (!(decide (l.o = o) && _)) = true
          rw [decide_eq_false this]; rfl
        · simp only at hg
          rw [getM_put] at hg
          by_cases e : k' = k
          · rw [if_pos e] at hg
            injection hg with hg
            rw [← hg]
            have := (may_give c4.1 (fun hu => by simpa using hu)).2.1
            have := List.length_pos_iff.2 this
            omega
          · rw [if_neg e] at hg
            exact h.ne k' x hg
      | false =>
        rw [cond_false, cond_false]
        refine ⟨⟨fun k' => ?_, fun o' k' hE hg => ?_, fun k' x hg => ?_⟩, rfl⟩
        · rw [lkOf_put, kl_app]
          show RK _ (if k = k' then _ else _)
          by_cases e : k' = k
          · rw [if_pos e, if_pos e.symm, e]
            refine ⟨?_, ?_, ?_⟩
            · rw [hol_app_w _ rfl]; exact r.h
            · rw [hol_app_w _ rfl]; exact r.o
            · show insP (lkOf t k).q _ = _
              rw [r.q, ← hL, insP_wq _ rfl]
          · rw [if_neg e, if_neg (fun e2 => e e2.symm)]; exact h.r k'
        · simp only at hg
          rw [getM_put] at hg
          by_cases e : o' = o
          · rw [if_pos e] at hg
            injection hg with hg
            exact ⟨lnA m o k only, List.mem_append.2 (.inr (List.mem_singleton.2 rfl)), rfl, e.symm, hg⟩
          · rw [if_neg e] at hg
            obtain ⟨l, hl, g1, g2, g3⟩ := h.w o' k' hE hg
            exact ⟨l, List.mem_append.2 (.inl hl), g1, g2, g3⟩
        · simp only at hg
          rw [getM_put] at hg
          by_cases e : k' = k
          · rw [if_pos e] at hg
            injection hg with hg
            rw [← hg]
            simp only [insP_len]
            omega
          · rw [if_neg e] at hg
            exact h.ne k' x hg
end Go.Proofs.Ytibdinelkpbhaaa.Sh.Lk
namespace Go.Proofs.Ytibdinelkpbhaaa.Sh.Lk
open Go.Proofs.Ytibdinelkpbhaaa.Sh.V
/-! ### Freeing, on both sides -/
theorem RK.toZero {x : Lk} {ls : List Ln} (r : RK x ls) (h : x.hs.length + x.q.length = 0) : RK lk0 ls := by
  have h1 : hol ls = [] := List.eq_nil_of_length_eq_zero (by rw [← r.len]; omega)
  have h2 : wq ls = [] := by
    have := congrArg List.length r.q
    rw [List.length_map] at this
    exact List.eq_nil_of_length_eq_zero (by omega)
  refine ⟨?_, ?_, ?_⟩
  · rw [h1]; rfl
  · rw [h1]; rfl
  · rw [h2]; rfl
theorem bne_dec (a b : Int) : (a != b) = !decide (a = b) := by
  by_cases h : a = b
  · subst h; simp
  · simp [h]
theorem flt_sort (l : List Int) (o : Int) : (sortI l).filter (· != o) = sortI (l.filter (· != o)) :=
  (sortI_eq ((sortI_perm l).filter _).symm ((sortI_sorted l).sublist List.filter_sublist)).symm
theorem flt_map {α β : Type} (f : α → β) (p : β → Bool) (l : List α) : (l.map f).filter p = (l.filter fun x => p (f x)).map f := by
  rw [List.filter_map]; rfl
/-- One leaves. -/
theorem RK.leave {x : Lk} {ls : List Ln} (r : RK x ls) (ho : x.only = true → x.hs.length = 1) (o : Int) : RK (leaveP x o) (ls.filter (fun l => !decide (l.o = o))) := by
  refine ⟨?_, ?_, ?_⟩
  · show x.hs.filter (· != o) = _
    rw [r.h, flt_sort, hol_filter, flt_map]
    congr 2
  · show cond (x.hs.contains o) false x.only = _
    rw [hol_filter]
    cases hc : x.hs.contains o with
    | true =>
      rw [cond_true]
      cases ha : ((hol ls).filter (fun l => !decide (l.o = o))).any (·.only) with
      | false => rfl
      | true =>
        exfalso
        obtain ⟨y, hy, hyo⟩ := List.any_eq_true.1 ha
        have hy := List.mem_filter.1 hy
        have h1 := ho (by rw [r.o]; exact List.any_eq_true.2 ⟨y, hy.1, hyo⟩)
        have hc : o ∈ x.hs := List.contains_iff_mem.1 hc
        rw [r.len] at h1
        rw [r.h, mem_sortI] at hc
        match hl : hol ls, h1 with
        | [z], _ =>
          rw [hl] at hy hc
          have e1 := List.mem_singleton.1 hy.1
          have e2 : o = z.o := List.mem_singleton.1 hc
          have := hy.2
          rw [e1, e2] at this
          simp at this
    | false =>
      rw [cond_false, flt_self (fun y hy => ?_)]
      · exact r.o
      · have : y.o ≠ o := fun e => by
          have : x.hs.contains o = true := List.contains_iff_mem.2 (by rw [r.h, mem_sortI]; exact List.mem_map.2 ⟨y, hy, e⟩)
          rw [hc] at this; cases this
        simpa using this
  · show x.q.filter (·.o != o) = _
    rw [r.q, wq_filter, flt_map]
    congr 1
theorem filter_kl (m : List Ln) (o : Int) (k : Key) : kl (notO m o) k = (kl m k).filter (fun l => !decide (l.o = o)) := by
  unfold kl notO
  rw [List.filter_filter, List.filter_filter]
  exact List.filter_congr fun y _ => Bool.and_comm _ _
def hasK (m : List Ln) (o : Int) (k : Key) : Bool := (kl m k).any (fun l => decide (l.o = o))
theorem hasK_false {m : List Ln} {o : Int} {k : Key} (h : hasK m o k = false) : ∀ l ∈ kl m k, l.o ≠ o := fun l hl e => by
  have : hasK m o k = true := List.any_eq_true.2 ⟨l, hl, by rw [decide_eq_true e]⟩
  rw [h] at this; cases this
theorem IT.step {t : Tb} (h : IT t) (o : Int) (k : Key) : IT ⟨freeM t.m k (freeZ o (lkOf t k) t.ws).1, (freeZ o (lkOf t k) t.ws).2.1⟩ := by
  obtain ⟨r1, r2, r3, r4⟩ := free_il (h.l k) h.w o
  have e : ∀ k', lkOf ⟨freeM t.m k (freeZ o (lkOf t k) t.ws).1, (freeZ o (lkOf t k) t.ws).2.1⟩ k' = (if k' = k then (if (freeZ o (lkOf t k) t.ws).1.hs.length + (freeZ o (lkOf t k) t.ws).1.q.length = 0 then lk0 else (freeZ o (lkOf t k) t.ws).1) else lkOf t k') := fun k' => lkOf_freeM h.m _ k _ k'
  refine ⟨fun k' => ?_, nodup_freeM h.m _ _, r2⟩
  rw [e]
  by_cases h1 : k' = k
  · rw [if_pos h1, h1]
    split
    · exact IL.zero _ _
    · exact r1
  · rw [if_neg h1]
    exact (h.l k').ws (fun w hw => r4 _ _ h1 ((h.l k').c w hw))
theorem XT.step {S : List Int} {t : Tb} (hi : IT t) (h : XT S t) (o : Int) (k : Key) : XT S ⟨freeM t.m k (freeZ o (lkOf t k) t.ws).1, (freeZ o (lkOf t k) t.ws).2.1⟩ := by
  have e : ∀ k', lkOf ⟨freeM t.m k (freeZ o (lkOf t k) t.ws).1, (freeZ o (lkOf t k) t.ws).2.1⟩ k' = (if k' = k then (if (freeZ o (lkOf t k) t.ws).1.hs.length + (freeZ o (lkOf t k) t.ws).1.q.length = 0 then lk0 else (freeZ o (lkOf t k) t.ws).1) else lkOf t k') := fun k' => lkOf_freeM hi.m _ k _ k'
  intro k'
  rw [e]
  by_cases h1 : k' = k
  · rw [if_pos h1]
    split
    · exact XL.zero S
    · exact freeZ_xl (hi.l k) (h k) o
  · rw [if_neg h1]; exact h k'
theorem freeM_ne {m : List (Key × Lk)} (hm : (m.map (·.1)).Nodup) (hne : ∀ k x, getM m k = some x → x.hs.length + x.q.length ≠ 0) (k : Key) (x : Lk) : ∀ k' y, getM (freeM m k x) k' = some y → y.hs.length + y.q.length ≠ 0 := by
  intro k' y hg
  unfold freeM at hg
  cases hd : decide (x.hs.length + x.q.length = 0) with
  | true =>
    rw [hd, cond_true, getM_cut hm] at hg
    by_cases e : k' = k
    · rw [if_pos e] at hg; cases hg
    · rw [if_neg e] at hg; exact hne k' y hg
  | false =>
    rw [hd, cond_false, getM_put] at hg
    by_cases e : k' = k
    · rw [if_pos e] at hg
      injection hg with hg
      rw [← hg]
      exact of_decide_eq_false hd
    · rw [if_neg e] at hg; exact hne k' y hg
theorem freeZ_id {o : Int} {x : Lk} {ls : List Ln} (r : RK x ls) (hno : ∀ l ∈ ls, l.o ≠ o) (ws : List (Int × Key)) : freeZ o x ws = (x, ws, []) := by
  have h1 : x.hs.filter (· != o) = x.hs := flt_self fun z hz => by
    obtain ⟨l, hl, _, e⟩ := r.mem.1 hz
    have : z ≠ o := fun e2 => hno l hl (by rw [e, e2])
    simpa using this
  have h2 : x.q.filter (·.o != o) = x.q := flt_self fun z hz => by
    rw [r.q] at hz
    obtain ⟨l, hl, e⟩ := List.mem_map.1 hz
    have : z.o ≠ o := fun e2 => hno l (mem_wq.1 hl).1 (by rw [← e2, ← e]; rfl)
    simpa using this
  have h3 : x.hs.contains o = false := by
    cases hc : x.hs.contains o with
    | false => rfl
    | true =>
      obtain ⟨l, hl, _, e⟩ := r.mem.1 (List.contains_iff_mem.1 hc)
      exact absurd e (hno l hl)
  have h4 : leaveP x o = x := by
    unfold leaveP
    rw [h1, h2, h3]; rfl
  unfold freeZ
  rw [h4, decide_eq_false (by omega)]; rfl
theorem flt_len_lt {α : Type} {p : α → Bool} {l : List α} {x : α} (hx : x ∈ l) (hp : p x = false) : (l.filter p).length < l.length := flt_lt hx hp
theorem freeZ_has {o : Int} {x : Lk} {ls : List Ln} (r : RK x ls) {l : Ln} (hl : l ∈ ls) (e : l.o = o) (ws : List (Int × Key)) : freeZ o x ws = letP (leaveP x o).q (leaveP x o).hs (leaveP x o).only ws := by
  unfold freeZ
  have h1 : (leaveP x o).hs.length ≤ x.hs.length := flen _ _
  have h2 : (leaveP x o).q.length ≤ x.q.length := flen _ _
  have : (leaveP x o).hs.length + (leaveP x o).q.length < x.hs.length + x.q.length := by
    cases hw : l.waits with
    | false =>
      have hm : o ∈ x.hs := r.mem.2 ⟨l, hl, hw, e⟩
      have : (leaveP x o).hs.length < x.hs.length := flt_lt hm (by simp)
      omega
    | true =>
      have hm : wtL l ∈ x.q := by rw [r.q]; exact List.mem_map.2 ⟨l, mem_wq.2 ⟨hl, hw⟩, rfl⟩
      have : (leaveP x o).q.length < x.q.length := flt_lt hm (by rw [← e]; simp [wtL])
      omega
  rw [decide_eq_true this]; rfl
theorem freeK_rel {S : List Int} (o : Int) (m0 : List Ln) : ∀ (ks : List Key) (t : Tb) (m : List Ln), ks.Nodup → IT t → XT S t → (∀ k, k ∉ ks → RK (lkOf t k) (kl m k)) → (∀ k, k ∈ ks → RK (lkOf t k) (kl m0 k) ∧ kl m k = (kl m0 k).filter (fun l => !decide (l.o = o))) →
    HW (fun z => z = o) t.ws m → (∀ k x, getM t.m k = some x → x.hs.length + x.q.length ≠ 0) →
    (∀ k, RK (lkOf (freeK o ks t).1 k) (kl (freeKR (ks.filter (hasK m0 o)) m).1 k)) ∧ (freeK o ks t).2 = (freeKR (ks.filter (hasK m0 o)) m).2 ∧ HW (fun z => z = o) (freeK o ks t).1.ws (freeKR (ks.filter (hasK m0 o)) m).1 ∧
      (∀ k x, getM (freeK o ks t).1.m k = some x → x.hs.length + x.q.length ≠ 0) ∧ ((freeK o ks t).1.ws.map (·.1)).Nodup
  | [], t, m, _, hi, _, h1, _, hW, hne => ⟨fun k => h1 k (by simp), rfl, hW, hne, hi.w⟩
  | k :: ks, t, m, hnd, hi, hx, h1, h2, hW, hne => by
    rw [List.nodup_cons] at hnd
    have e : ∀ k', lkOf ⟨freeM t.m k (freeZ o (lkOf t k) t.ws).1, (freeZ o (lkOf t k) t.ws).2.1⟩ k' = (if k' = k then (if (freeZ o (lkOf t k) t.ws).1.hs.length + (freeZ o (lkOf t k) t.ws).1.q.length = 0 then lk0 else (freeZ o (lkOf t k) t.ws).1) else lkOf t k') := fun k' => lkOf_freeM hi.m _ k _ k'
    have hi' := hi.step o k
    have hx' := XT.step hi hx o k
    have hne' := freeM_ne hi.m hne k (freeZ o (lkOf t k) t.ws).1
    obtain ⟨rk, ek⟩ := h2 k (List.mem_cons_self ..)
    cases hh : hasK m0 o k with
    | false =>
      have hno := hasK_false hh
      have hz := freeZ_id rk hno t.ws
      have em : kl m k = kl m0 k := by
        rw [ek]
        exact flt_self fun y hy => by have := hno y hy; simpa using this
      rw [List.filter_cons, hh]
      simp only [Bool.false_eq_true, if_false]
      rw [show (freeK o (k :: ks) t) = ((freeK o ks ⟨freeM t.m k (freeZ o (lkOf t k) t.ws).1, (freeZ o (lkOf t k) t.ws).2.1⟩).1, (freeZ o (lkOf t k) t.ws).2.2 ++ (freeK o ks ⟨freeM t.m k (freeZ o (lkOf t k) t.ws).1, (freeZ o (lkOf t k) t.ws).2.1⟩).2) from rfl]
      rw [hz] at hi' hx' hne' e ⊢
      simp only [List.nil_append] at hi' hx' hne' e ⊢
      refine freeK_rel o m0 ks _ m hnd.2 hi' hx' (fun k' hk' => ?_) (fun k' hk' => ?_) hW hne'
      · rw [e]
        by_cases e1 : k' = k
        · rw [if_pos e1, e1, em]
          split
          · exact rk.toZero (by assumption)
          · exact rk
        · rw [if_neg e1]
          exact h1 k' (fun hm => by
            rcases List.mem_cons.1 hm with hm | hm
            · exact e1 hm
            · exact hk' hm)
      · rw [e, if_neg (fun e1 => hnd.1 (by rw [← e1]; exact hk'))]
        exact h2 k' (List.mem_cons_of_mem _ hk')
    | true =>
      obtain ⟨l0, hl0, hlo⟩ := List.any_eq_true.1 hh
      have hz := freeZ_has rk hl0 (of_decide_eq_true hlo) t.ws
      have ril := hi.l k
      have rxl := hx k
      have rl : RK (leaveP (lkOf t k) o) (kl m k) := by rw [ek]; exact rk.leave ril.a o
      have hq : (leaveP (lkOf t k) o).q.length ≤ (qR m k).length := by rw [rl.q, List.length_map]; exact Nat.le_refl _
      obtain ⟨a1, a2, a3, a4⟩ := let_rel (fun z => z = o) k (leaveP (lkOf t k) o).q (leaveP (lkOf t k) o).hs (leaveP (lkOf t k) o).only t.ws m (qR m k).length rl
        (rxl.nd.sublist List.filter_sublist)
        (fun w hw hu => by
          have hw := List.mem_filter.1 hw
          exact List.mem_filter.2 ⟨ril.d w hw.1 hu, hw.2⟩)
        (fun w hw hu hm => by
          have hw := List.mem_filter.1 hw
          exact rxl.nu w hw.1 hu (List.mem_filter.1 hm).1)
        (ril.n.sublist (List.filter_sublist.map _)) hi.w hW hq
      rw [← hz] at a1 a2 a3
      rw [List.filter_cons, hh]
      simp only [if_true]
      rw [show (freeK o (k :: ks) t) = ((freeK o ks ⟨freeM t.m k (freeZ o (lkOf t k) t.ws).1, (freeZ o (lkOf t k) t.ws).2.1⟩).1, (freeZ o (lkOf t k) t.ws).2.2 ++ (freeK o ks ⟨freeM t.m k (freeZ o (lkOf t k) t.ws).1, (freeZ o (lkOf t k) t.ws).2.1⟩).2) from rfl]
      rw [show freeKR (k :: ks.filter (hasK m0 o)) m = ((freeKR (ks.filter (hasK m0 o)) (letR (qR m k).length m k).1).1, (letR (qR m k).length m k).2 ++ (freeKR (ks.filter (hasK m0 o)) (letR (qR m k).length m k).1).2) from rfl]
      rw [a2]
      obtain ⟨b1, b2, b3, b4, b5⟩ := freeK_rel o m0 ks _ (letR (qR m k).length m k).1 hnd.2 hi' hx' (fun k' hk' => by
        rw [e]
        by_cases e1 : k' = k
        · rw [if_pos e1, e1]
          split
          · exact a1.toZero (by assumption)
          · exact a1
        · rw [if_neg e1, a4 k' e1]
          exact h1 k' (fun hm => by
            rcases List.mem_cons.1 hm with hm | hm
            · exact e1 hm
            · exact hk' hm)) (fun k' hk' => by
        have e1 : k' ≠ k := fun e1 => hnd.1 (by rw [← e1]; exact hk')
        rw [e, if_neg e1, a4 k' e1]
        exact h2 k' (List.mem_cons_of_mem _ hk')) a3 hne'
      exact ⟨b1, by simp only; rw [b2], b3, b4, b5⟩
/-! ### Keys -/
section
variable {t : Tb} {m : List Ln} {S : List Int}
theorem Rel.key (h : Rel t m) (k : Key) : k ∈ t.m.map (·.1) ↔ k ∈ m.map (·.k) := by
  rw [mem_keys]
  constructor
  · intro hg
    cases hx : getM t.m k with
    | none => exact absurd hx hg
    | some x =>
      have hl : lkOf t k = x := by unfold lkOf; rw [hx]; rfl
      have r := h.r k
      rw [hl] at r
      have hne := h.ne k x hx
      cases hk : kl m k with
      | nil =>
        rw [hk] at r
        have h1 := r.len
        have h2 := congrArg List.length r.q
        rw [List.length_map] at h2
        exfalso
        apply hne
        rw [h1, h2]; rfl
      | cons y r =>
        have : y ∈ kl m k := by rw [hk]; exact List.mem_cons_self ..
        have := mem_kl.1 this
        exact List.mem_map.2 ⟨y, this.1, this.2⟩
  · intro hm hg
    obtain ⟨l, hl, e⟩ := List.mem_map.1 hm
    have r := h.r k
    rw [show lkOf t k = lk0 by unfold lkOf; rw [hg]; rfl] at r
    have : l ∈ kl m k := mem_kl.2 ⟨hl, e⟩
    rw [r.nil] at this; cases this
theorem Rel.keys (h : Rel t m) (hi : IT t) : keysP t = keysR m := sort_rise hi.m h.key
theorem Rel.len (h : Rel t m) (hi : IT t) : t.m.length = (keysR m).length := by rw [← h.keys hi]; unfold keysP; rw [sortK_len, List.length_map]
theorem keysP_nd (hi : IT t) : (keysP t).Nodup := (sortK_perm _).nodup_iff.2 hi.m
theorem keysP_flt (hi : IT t) (p : Key → Bool) (l : List Key) (hl : ∀ k, (k ∈ keysP t ∧ p k = true) ↔ k ∈ l) : (keysP t).filter p = riseS l := by
  have h1 : sortK ((keysP t).filter p) = (keysP t).filter p := sortK_eq (.refl _) ((sortK_sorted _).sublist List.filter_sublist)
  rw [← h1]
  exact sort_rise ((keysP_nd hi).sublist List.filter_sublist) (fun y => by rw [List.mem_filter]; exact hl y)
theorem Rel.free (h : Rel t m) (hi : IT t) (hx : XT S t) (o : Int) : Rel (freeP t o).1 (freeR m o).1 ∧ (freeP t o).2 = (freeR m o).2 := by
  have hk : (keysP t).filter (hasK m o) = riseS ((ofO m o).map (·.k)) := keysP_flt hi _ _ fun k => by
    rw [h.keys hi]
    unfold keysR ofO
    rw [mem_riseS]
    constructor
    · rintro ⟨_, h2⟩
      obtain ⟨l, hl, e⟩ := List.any_eq_true.1 h2
      have hl := mem_kl.1 hl
      exact List.mem_map.2 ⟨l, List.mem_filter.2 ⟨hl.1, e⟩, hl.2⟩
    · intro hm
      obtain ⟨l, hl, e⟩ := List.mem_map.1 hm
      have hl := List.mem_filter.1 hl
      exact ⟨List.mem_map.2 ⟨l, hl.1, e⟩, List.any_eq_true.2 ⟨l, mem_kl.2 ⟨hl.1, e⟩, hl.2⟩⟩
  obtain ⟨a1, a2, a3, a4, a5⟩ := freeK_rel (S := S) o m (keysP t) t (notO m o) (keysP_nd hi) hi hx (fun k hkn => by
      have hn : getM t.m k = none := getM_none (fun hm => hkn ((sortK_perm _).mem_iff.2 hm))
      have r := h.r k
      have e0 : lkOf t k = lk0 := by unfold lkOf; rw [hn]; rfl
      rw [e0] at r ⊢
      rw [filter_kl, r.nil]
      exact RK.zero) (fun k _ => ⟨h.r k, filter_kl m o k⟩) (fun o' k' hE hg => by
      obtain ⟨l, hl, g1, g2, g3⟩ := h.w o' k' (fun f => f) hg
      refine ⟨l, List.mem_filter.2 ⟨hl, ?_⟩, g1, g2, g3⟩
      have : l.o ≠ o := fun e => hE (by rw [← g2, e])
      simpa using this) h.ne
  rw [hk] at a1 a2 a3
  refine ⟨⟨a1, fun o' k' _ hg => ?_, a4⟩, a2⟩
  have hg : getM (cutA (freeK o (keysP t) t).1.ws o) o' = some k' := hg
  rw [getM_cut a5] at hg
  by_cases e : o' = o
  · rw [if_pos e] at hg; cases hg
  · rw [if_neg e] at hg
    exact a3 o' k' e hg
/-! ### What is told -/
def holdsP (t : Tb) (o : Int) : List (Key × Bool) := ((keysP t).filter (fun k => (lkOf t k).hs.contains o)).map fun k => (k, (lkOf t k).only)
theorem Rel.hs (h : Rel t m) (hx : XT S t) (k : Key) : (lkOf t k).hs = riseI (hsR m k) := by
  have r := (h.r k).h
  rw [r]
  exact (riseI_nd ((sortI_perm _).nodup_iff.1 (by rw [← r]; exact (hx k).nd))).symm
theorem Rel.only (h : Rel t m) (k : Key) : (lkOf t k).only = onlyR m k := (h.r k).o
theorem Rel.queue (h : Rel t m) (k : Key) : (lkOf t k).q.map (·.o) = (qR m k).map (·.o) := by rw [(h.r k).q, List.map_map]; rfl
theorem one_of {p : Ln → Bool} : ∀ {l : List Ln}, ((l.filter p).map (·.o)).Nodup → ∀ {o : Int}, (∀ y ∈ l, p y = true → y.o = o) → ∀ {z : Ln}, z ∈ l → p z = true → l.filter p = [z] := fun {l} hn o hp z hz hpz => by
  have hm : z ∈ l.filter p := List.mem_filter.2 ⟨hz, hpz⟩
  match hl : l.filter p, hn with
  | [], _ => rw [hl] at hm; cases hm
  | [a], _ => rw [hl] at hm; rw [List.mem_singleton.1 hm]
  | a :: b :: r, hn =>
    exfalso
    have ha : a ∈ l.filter p := by rw [hl]; exact List.mem_cons_self ..
    have hb : b ∈ l.filter p := by rw [hl]; exact List.mem_cons_of_mem _ (List.mem_cons_self ..)
    have ha := List.mem_filter.1 ha
    have hb := List.mem_filter.1 hb
    rw [List.map_cons, List.nodup_cons] at hn
    exact hn.1 (List.mem_map.2 ⟨b, List.mem_cons_self .., by rw [hp a ha.1 ha.2, hp b hb.1 hb.2]⟩)
theorem Rel.holds (h : Rel t m) (hi : IT t) (hx : XT S t) (o : Int) : holdsP t o = holdsR m o := by
  unfold holdsP holdsR
  have hk : (keysP t).filter (fun k => (lkOf t k).hs.contains o) = riseS ((m.filter (fun l => decide (l.o = o) && !l.waits)).map (·.k)) := keysP_flt hi _ _ fun k => by
    rw [h.keys hi]
    unfold keysR
    rw [mem_riseS]
    constructor
    · rintro ⟨_, h2⟩
      obtain ⟨l, hl, g1, g2⟩ := (h.r k).mem.1 (List.contains_iff_mem.1 h2)
      have hl := mem_kl.1 hl
      exact List.mem_map.2 ⟨l, List.mem_filter.2 ⟨hl.1, by rw [decide_eq_true g2, g1]; rfl⟩, hl.2⟩
    · intro hm
      obtain ⟨l, hl, e⟩ := List.mem_map.1 hm
      have hl := List.mem_filter.1 hl
      have h2 := hl.2
      rw [Bool.and_eq_true, decide_eq_true_eq] at h2
      exact ⟨List.mem_map.2 ⟨l, hl.1, e⟩, List.contains_iff_mem.2 ((h.r k).mem.2 ⟨l, mem_kl.2 ⟨hl.1, e⟩, by simpa using h2.2, h2.1⟩)⟩
  rw [hk]
  rw [List.map_eq_flatMap]
  have hfl : ∀ (L : List Key) (f g : Key → List (Key × Bool)), (∀ k ∈ L, f k = g k) → L.flatMap f = L.flatMap g := by
    intro L f g hfg
    induction L with
    | nil => rfl
    | cons k L ih =>
      rw [List.flatMap_cons, List.flatMap_cons, hfg k (List.mem_cons_self ..), ih (fun k hk => hfg k (List.mem_cons_of_mem _ hk))]
  refine hfl _ _ _ fun k hk => ?_
  obtain ⟨l, hl, e⟩ := List.mem_map.1 (mem_riseS.1 hk)
  have hl := List.mem_filter.1 hl
  have h2 := hl.2
  rw [Bool.and_eq_true, decide_eq_true_eq] at h2
  have hw : l.waits = false := by simpa using h2.2
  have hon := h.holder hi hx hl.1 hw
  have ef : m.filter (fun l => decide (l.o = o) && !l.waits && decide (l.k = k)) = (hol (kl m k)).filter (fun l => decide (l.o = o)) := by
    unfold hol kl
    rw [List.filter_filter, List.filter_filter]
  have hnd : ((hol (kl m k)).map (·.o)).Nodup := (sortI_perm _).nodup_iff.1 (by rw [← (h.r k).h]; exact (hx k).nd)
  rw [ef, one_of (o := o) (z := l) (hnd.sublist (List.filter_sublist.map _)) (fun y hy hp => of_decide_eq_true hp) (mem_hol.2 ⟨mem_kl.2 ⟨hl.1, e⟩, hw⟩) (by rw [decide_eq_true h2.1])]
  rw [e] at hon
  simp only [List.map_cons, List.map_nil]
  rw [← e] at hon ⊢
  rw [hon, e]
theorem aheadQ_take (o : Int) : ∀ q : List Wt, aheadQ o q = (q.map (·.o)).takeWhile (fun a => !decide (a = o))
  | [] => rfl
  | w :: q => by
    unfold aheadQ
    rw [List.map_cons, List.takeWhile_cons, aheadQ_take o q]
    cases decide (w.o = o) <;> rfl
theorem Rel.ahead (h : Rel t m) (hi : IT t) (hx : XT S t) (o : Int) : aheadP t o = aheadR m o := by
  unfold aheadP aheadR
  rw [h.waits hi]
  cases hw : waitsR m o with
  | none => rfl
  | some x =>
    simp only [Option.map_some]
    show riseI _ = riseI _
    refine riseI_congr fun a => ?_
    rw [List.mem_append, List.mem_append, aheadQ_take, h.queue, List.mem_filter, List.mem_map]
    have e : (a ∈ (lkOf t x.k).hs ∧ (a != o && (x.only || (lkOf t x.k).only)) = true) ↔ ∃ l ∈ m.filter (fun l => decide (l.k = x.k) && !l.waits && !decide (l.o = o) && (x.only || l.only)), l.o = a := by
      constructor
      · rintro ⟨h1, h2⟩
        obtain ⟨l, hl, g1, g2⟩ := (h.r x.k).mem.1 h1
        have hl := mem_kl.1 hl
        have ho := h.holder hi hx hl.1 g1
        rw [hl.2] at ho
        refine ⟨l, List.mem_filter.2 ⟨hl.1, ?_⟩, g2⟩
        rw [decide_eq_true hl.2, g1, ho, g2, ← bne_dec]
        simpa using h2
      · rintro ⟨l, hl, g⟩
        obtain ⟨h1, h2⟩ := List.mem_filter.1 hl
        simp only [Bool.and_eq_true, decide_eq_true_eq] at h2
        obtain ⟨⟨⟨h3, h4⟩, h5⟩, h6⟩ := h2
        have hw : l.waits = false := by simpa using h4
        have ho := h.holder hi hx h1 hw
        rw [h3] at ho
        refine ⟨(h.r x.k).mem.2 ⟨l, mem_kl.2 ⟨h1, h3⟩, hw, g⟩, ?_⟩
        rw [← g, bne_dec, h5, ← ho, h6]; rfl
    rw [e]
end
end Go.Proofs.Ytibdinelkpbhaaa.Sh.Lk
