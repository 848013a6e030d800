/- The machine of values: sorting, inserting, slices in objects of their own; a table of locks in plain Lean. -/
import Derived.Test.YtmpobijkbmljdaaVc
import Derived.Shelf.SortM.Plain
set_option linter.unusedVariables false
set_option linter.unusedSimpArgs false
namespace Go.Proofs.Ytmpobijkbmljdaa.Sh.Lk
open Go.Proofs.Ytmpobijkbmljdaa.Sh.V
/-! ### A table of locks, in plain Lean -/
structure Wt where
  o : Int
  only : Bool
  up : Bool
structure Lk where
  hs : List Int
  only : Bool
  q : List Wt
structure Tb where
  m : List (Key × Lk)
  ws : List (Int × Key)
def insI (k : Int) : List Int → List Int
  | [] => [k]
  | y :: l => cond (decide (y < k)) (y :: insI k l) (k :: y :: l)
def sortI : List Int → List Int
  | [] => []
  | k :: l => insI k (sortI l)
theorem insI_perm (k : Int) : ∀ l, (insI k l).Perm (k :: l)
  | [] => .refl _
  | y :: l => by
    unfold insI
    cases decide (y < k) with
    | true => exact ((insI_perm k l).cons y).trans (List.Perm.swap _ _ _)
    | false => exact .refl _
theorem sortI_perm : ∀ l, (sortI l).Perm l
  | [] => .refl _
  | k :: l => (insI_perm k _).trans ((sortI_perm l).cons k)
theorem insI_sorted (k : Int) : ∀ l, l.Pairwise (fun a b => a ≤ b) → (insI k l).Pairwise (fun a b => a ≤ b)
  | [], _ => by simp [insI]
  | y :: l, h => by
    rw [List.pairwise_cons] at h
    unfold insI
    by_cases hb : y < k
    · rw [decide_eq_true hb, cond_true, List.pairwise_cons]
      refine ⟨fun z hz => ?_, insI_sorted k l h.2⟩
      rcases List.mem_cons.1 ((insI_perm k l).mem_iff.1 hz) with rfl | hz
      · omega
      · exact h.1 z hz
    · rw [decide_eq_false hb, cond_false, List.pairwise_cons]
      refine ⟨fun z hz => ?_, List.pairwise_cons.2 h⟩
      rcases List.mem_cons.1 hz with rfl | hz
      · omega
      · have := h.1 z hz; omega
theorem sortI_sorted : ∀ l, (sortI l).Pairwise (fun a b => a ≤ b)
  | [] => .nil
  | k :: l => insI_sorted k _ (sortI_sorted l)
theorem sortI_len (l : List Int) : (sortI l).length = l.length := (sortI_perm l).length_eq
theorem mem_sortI {l : List Int} {x : Int} : x ∈ sortI l ↔ x ∈ l := (sortI_perm l).mem_iff
theorem sortI_eq {l r : List Int} (h : l.Perm r) (hs : r.Pairwise (fun a b => a ≤ b)) : sortI l = r :=
  List.Perm.eq_of_pairwise (le := fun a b => a ≤ b) (fun a b _ _ h1 h2 => Int.le_antisymm h1 h2) (sortI_sorted l) hs ((sortI_perm l).trans h)
theorem sortI_id {l : List Int} (hs : l.Pairwise (fun a b => a ≤ b)) : sortI l = l := sortI_eq (.refl _) hs
def mayP (x : Lk) (w : Wt) : Bool := cond w.up (decide (x.hs.length = 1)) (cond w.only (decide (x.hs.length = 0)) (!x.only))
def giveP (x : Lk) (w : Wt) : Lk := ⟨cond w.up x.hs (sortI (x.hs ++ [w.o])), w.only, x.q⟩
def atP (up : Bool) : List Wt → Nat
  | [] => 0
  | w :: l => cond (!up || w.up) (atP up l + 1) 0
theorem atP_le (up : Bool) : ∀ l, atP up l ≤ l.length
  | [] => Nat.le_refl _
  | w :: l => by
    have := atP_le up l
    unfold atP
    cases !up || w.up <;> simp <;> omega
theorem atP_false : ∀ l, atP false l = l.length
  | [] => rfl
  | w :: l => by unfold atP; rw [atP_false l]; rfl
def insP (q : List Wt) (w : Wt) : List Wt := q.take (atP w.up q) ++ w :: q.drop (atP w.up q)
def lk0 : Lk := ⟨[], false, []⟩
def lkOf (t : Tb) (k : Key) : Lk := (getM t.m k).getD lk0
def askP (t : Tb) (o : Int) (k : Key) (only : Bool) : Tb × Bool :=
  match getM t.ws o with
  | some _ => (t, false)
  | none =>
    cond ((lkOf t k).hs.contains o && ((lkOf t k).only || !only)) (⟨putA t.m k (lkOf t k), t.ws⟩, true)
      (cond (mayP (lkOf t k) ⟨o, only, (lkOf t k).hs.contains o⟩ && ((lkOf t k).hs.contains o || (lkOf t k).q.isEmpty)) (⟨putA t.m k (giveP (lkOf t k) ⟨o, only, (lkOf t k).hs.contains o⟩), t.ws⟩, true)
         (⟨putA t.m k ⟨(lkOf t k).hs, (lkOf t k).only, insP (lkOf t k).q ⟨o, only, (lkOf t k).hs.contains o⟩⟩, putA t.ws o k⟩, false))
def leaveP (x : Lk) (o : Int) : Lk := ⟨x.hs.filter (· != o), cond (x.hs.contains o) false x.only, x.q.filter (·.o != o)⟩
def letP : List Wt → List Int → Bool → List (Int × Key) → Lk × List (Int × Key) × List Int
  | [], hs, only, ws => (⟨hs, only, []⟩, ws, [])
  | w :: q, hs, only, ws =>
    cond (mayP ⟨hs, only, w :: q⟩ w)
      (let r := letP q (giveP ⟨hs, only, q⟩ w).hs w.only (cutA ws w.o)
       (r.1, r.2.1, w.o :: r.2.2))
      (⟨hs, only, w :: q⟩, ws, [])
def freeZ (o : Int) (x : Lk) (ws : List (Int × Key)) : Lk × List (Int × Key) × List Int :=
  cond (decide ((leaveP x o).hs.length + (leaveP x o).q.length < x.hs.length + x.q.length)) (letP (leaveP x o).q (leaveP x o).hs (leaveP x o).only ws) (leaveP x o, ws, [])
def freeM (m : List (Key × Lk)) (k : Key) (x : Lk) : List (Key × Lk) := cond (decide (x.hs.length + x.q.length = 0)) (cutA m k) (putA m k x)
def freeK (o : Int) : List Key → Tb → Tb × List Int
  | [], t => (t, [])
  | k :: ks, t =>
    let z := freeZ o (lkOf t k) t.ws
    let r := freeK o ks ⟨freeM t.m k z.1, z.2.1⟩
    (r.1, z.2.2 ++ r.2)
def keysP (t : Tb) : List Key := sortK (t.m.map (·.1))
def freeP (t : Tb) (o : Int) : Tb × List Int := (⟨(freeK o (keysP t) t).1.m, cutA (freeK o (keysP t) t).1.ws o⟩, (freeK o (keysP t) t).2)
def findO (o : Int) : List Wt → Option Wt
  | [] => none
  | w :: l => cond (decide (w.o = o)) (some w) (findO o l)
def waitsP (t : Tb) (o : Int) : Option (Key × Bool) :=
  match getM t.ws o with
  | none => none
  | some k => (findO o (lkOf t k).q).map fun w => (k, w.only)
def dedupI : List Int → List Int
  | [] => []
  | [a] => [a]
  | a :: b :: l => cond (decide (a = b)) (dedupI (b :: l)) (a :: dedupI (b :: l))
def aheadQ (o : Int) : List Wt → List Int
  | [] => []
  | w :: l => cond (decide (w.o = o)) [] (w.o :: aheadQ o l)
def aheadP (t : Tb) (o : Int) : List Int :=
  match waitsP t o with
  | none => []
  | some (k, only) => dedupI (sortI ((lkOf t k).hs.filter (fun h => h != o && (only || (lkOf t k).only)) ++ aheadQ o (lkOf t k).q))
end Go.Proofs.Ytmpobijkbmljdaa.Sh.Lk
namespace Go.Proofs.Ytmpobijkbmljdaa.Sh.V
open Go.Proofs.Ytmpobijkbmljdaa.Sh Go.RowKit Go.Proofs.Ytmpobijkbmljdaa.Sh.Lk
/-! ### slices.Sort of whole numbers, in their own object -/
theorem mergeI_eq (zs : List Int) : zs.mergeSort (fun x y => decide (x ≤ y)) = sortI zs := by
  refine (sortI_eq (List.mergeSort_perm zs _).symm ?_).symm
  have h := List.pairwise_mergeSort (le := fun x y : Int => decide (x ≤ y)) (fun a b c h1 h2 => by simp at *; omega) (fun a b => by simp; omega) zs
  exact h.imp fun h => by simpa using h
def intsOf : List V → Option (List Int)
  | [] => some []
  | .int .i64 n :: r => (intsOf r).map fun l => n :: l
  | _ :: _ => none
def sortP : List V → VH → VRes := fun args H =>
  match args with
  | [.sl _ .nil] => some (.tup [], H)
  | [.sl _ (.hp i off n)] => if n = 0 then none else (hpCells H i off n).bind fun cs => (intsOf cs).bind fun zs => if zs.length < 4611686018427387904 then (stV H (.ob i off) ((sortI zs).map ik)).map fun H' => (.tup [], H') else none
  | _ => none
structure SortOK (P : Program) (g : FuncId) : Prop where
  body : ∃ fn s, P.funcs[g]? = some fn ∧ fn.body = some s
  full : ∀ (blk off cap : Nat) (zs : List Int) (w : World), Go.Sort.Holds (Value.int .i64) w blk off zs.toArray → blk < w.heap.size → zs.length < 4611686018427387904 →
    Calls P g #[.slice (some ⟨blk, off, none⟩) zs.length cap] w fun e w' => e = .returned (.tuple #[]) ∧ ∃ n os, w' = Go.Sort.grow (Go.Sort.putRow (Value.int .i64) (Go.Sort.ahead w n) blk off (zs.mergeSort fun x y => decide (x ≤ y)).toArray) os
  nil : ∀ (p : Option Addr) (cap : Nat) (w : World), Calls P g #[.slice p 0 cap] w fun e w' => e = .returned (.tuple #[]) ∧ w' = w
theorem intsOf_map : ∀ {cs : List V} {zs : List Int}, intsOf cs = some zs → cs = zs.map ik
  | [], zs, h => by simp only [intsOf, Option.some.injEq] at h; subst h; rfl
  | v :: r, zs, h => by
    unfold intsOf at h
    split at h
    · rename_i heq; cases heq
    · rename_i n r' heq
      injection heq with h1 h2
      subst h1 h2
      rw [Option.map_eq_some_iff] at h
      obtain ⟨l, hl, rfl⟩ := h
      rw [intsOf_map hl]; rfl
    · cases h
theorem intsOf_ik (zs : List Int) : intsOf (zs.map ik) = some zs := by
  induction zs with
  | nil => rfl
  | cons z zs ih => show (intsOf (zs.map ik)).map _ = _; rw [ih]; rfl
theorem vrs_ints {P : Program} {c : Cx} (zs : List Int) : VRs P c (zs.map ik) (zs.map (Value.int .i64)) := by
  induction zs with
  | nil => exact .nil
  | cons z zs ih => exact .cons (.int _ _) ih
theorem vrs_ints_inv {P : Program} {c : Cx} : ∀ {zs : List Int} {l : List Value}, VRs P c (zs.map ik) l → l = zs.map (Value.int .i64)
  | [], _, h => by cases h; rfl
  | z :: zs, _, h => by cases h with | cons a b => cases a; rw [vrs_ints_inv b]; rfl
theorem vrels_ints {S : List Loc} (zs : List Int) : VRels S (zs.map (Value.int .i64)) (zs.map (Value.int .i64)) := by
  induction zs with
  | nil => exact .nil
  | cons z zs ih => exact .cons (.int _ _) ih
theorem put_below {w : World} {b off : Nat} {C : Array Value} {t : TypeId} {fr : Nat × Nat} (hb : w.heap[b]? = some (.cells C t fr)) (ds : List Int) (n : Nat) (os : Array Obj) :
    Below w.heap.size (w.setCells b off (ds.map (Value.int .i64))) (Go.Sort.grow (Go.Sort.putRow (Value.int .i64) (Go.Sort.ahead w n) b off ds.toArray) os) := by
  obtain ⟨r1, r2, r3⟩ := setCells_rest (w := w) (b := b) (ds.map (Value.int .i64)) off
  have hlt : b < w.heap.size := (Array.getElem?_eq_some_iff.1 hb).1
  refine ⟨by rw [r1]; rfl, by rw [r2]; rfl, by rw [r3]; rfl, ?_, fun k hk => ?_⟩
  · rw [setCells_size]; simp [Go.Sort.grow, Go.Sort.putRow, Go.Sort.mapBlock, Go.Sort.ahead]
  · rw [Go.Sort.heap_grow_old _ _ (by simpa [Go.Sort.putRow, Go.Sort.mapBlock, Go.Sort.ahead] using hk)]
    by_cases hkb : k = b
    · subst hkb
      obtain ⟨C', h2, h3, h4⟩ := setCells_row (ds.map (Value.int .i64)) off hb
      rw [h2]
      have : (Go.Sort.putRow (Value.int .i64) (Go.Sort.ahead w n) k off ds.toArray).heap[k]? = some (.cells (Go.Sort.putCells (Value.int .i64) off ds.toArray C) t fr) := by
        simp [Go.Sort.putRow, Go.Sort.mapBlock, Go.Sort.ahead, Array.getElem?_modify, hb, Go.Sort.onCells]
      rw [this]
      have e : Go.Sort.putCells (Value.int .i64) off ds.toArray C = C' := by
        apply Array.ext_getElem?
        intro j
        rw [h4 j]
        simp only [Go.Sort.putCells, List.length_map, Array.getElem?_mapIdx, List.size_toArray]
        by_cases hj : j < C.size
        · rw [Array.getElem?_eq_getElem hj, Option.map_some]
          by_cases hin : off ≤ j ∧ j < off + ds.length
          · rw [if_pos hin, if_pos ⟨hin.1, hin.2, hj⟩, List.getElem?_map]
            have hjd : j - off < ds.length := by omega
            rw [List.getElem?_eq_getElem hjd, Option.map_some]
            simp [hjd]
          · rw [if_neg hin, if_neg (by omega)]
        · rw [Array.getElem?_eq_none (by omega), if_neg (by omega)]; rfl
      rw [e]
    · rw [setCells_ne hkb]
      simp [Go.Sort.putRow, Go.Sort.mapBlock, Go.Sort.ahead, Array.getElem?_modify, Ne.symm hkb]
section
variable {G : Nat → World → Prop} {P : Program}
theorem sortP_ok {g : FuncId} (hk : SortOK P g) : PrimOKg G P g sortP := by
  intro args c v H' hq B w0 S w args' hs hargs
  refine ⟨hk.body, ?_⟩
  obtain ⟨us, ha1, ha2⟩ := hargs
  unfold sortP at hq
  split at hq
  · rename_i e1
    injection hq with hq
    injection hq with e1 e2
    subst e1 e2
    cases ha1 with
    | cons x1 x2 =>
      cases x2
      cases ha2 with
      | cons y1 y2 =>
        cases y2
        cases x1
        cases y1
        refine (hk.nil none 0 w).mono ?_
        rintro e w' ⟨rfl, rfl⟩
        exact ⟨c, _, S, rfl, rfl, Le.refl c, List.prefix_refl _, hs, _, .tup .nil, .tuple .nil⟩
  · rename_i e1 i off n
    split at hq
    · cases hq
    rename_i hn0
    simp only [Option.bind_eq_some_iff] at hq
    obtain ⟨cs, hcs, zs, hzs, hq⟩ := hq
    obtain ⟨hlen, hq⟩ := ite_some hq
    rw [Option.map_eq_some_iff] at hq
    obtain ⟨H1, hst, hq⟩ := hq
    injection hq with e1 e2
    subst e1 e2
    have hcz := intsOf_map hzs
    subst hcz
    cases ha1 with
    | cons x1 x2 =>
      cases x2
      cases ha2 with
      | cons y1 y2 =>
        cases y2
        cases x1 with
        | slHp hh =>
          rename_i k
          obtain ⟨k', o', L, a', c', hadr, hL, rfl, hnc, hab, hrest⟩ := y1.inv_slice
          injection hadr with h5 h6
          subst h5 h6
          have hσ := hh.1
          unfold hpCells rowV at hcs
          cases hi : c.H[i]? with
          | none => rw [hi] at hcs; cases hcs
          | some o =>
            rw [hi] at hcs
            cases o with
            | dead => cases hcs
            | slot => cases hcs
            | tok _ _ => cases hcs
            | map _ _ => cases hcs
            | row e ccs =>
              rw [Option.bind_some] at hcs
              obtain ⟨hle, hcs⟩ := ite_some hcs
              injection hcs with hcs
              obtain ⟨ys, hy1, hy2⟩ := hs.v.row hi hσ
              have hr : RowIs P B S w L true e ys := hs.s.ob k _ L hy1 hL
              have hn : zs.length = n := by
                have := congrArg List.length hcs
                simp only [List.length_take, List.length_drop, List.length_map] at this
                omega
              obtain ⟨hb1, hb2, hb3⟩ := hrest
              have hc0 : c' ≠ 0 := by omega
              obtain rfl := hb1 hc0
              obtain ⟨hB, C, fr, q1, q2, q3, q4⟩ := hr.own rfl
              have hext := hr.ext
              have hyl := hy2.length
              have hcell : ∀ j z, zs[j]? = some z → w.cell? ⟨L.b, L.o + (off + j), none⟩ = some (.int .i64 z) := by
                intro j z hz
                have hc1 : ccs[off + j]? = some (ik z) := by
                  have hlt := (List.getElem?_eq_some_iff.1 hz).1
                  have := congrArg (fun l : List V => l[j]?) hcs
                  simp only [List.getElem?_map, hz, Option.map_some] at this
                  rwa [List.getElem?_take_of_lt (by omega), List.getElem?_drop] at this
                obtain ⟨y, hy, hyr⟩ := hy2.get hc1
                cases hyr
                obtain ⟨v', hv1, hv2⟩ := hr.cell _ _ hy
                rw [hv2.inv_int] at hv1
                exact hv1
              have hH : Go.Sort.Holds (Value.int .i64) w L.b (L.o + off) zs.toArray := by
                intro j hj
                have hj' : j < zs.length := by simpa using hj
                refine ⟨?_, ?_⟩
                · rw [Nat.add_assoc, hcell j zs[j] (List.getElem?_eq_getElem hj')]
                  simp [hj']
                · have := hcell j zs[j] (List.getElem?_eq_getElem hj')
                  simp only [World.frozen?, q1]
                  rcases q2 with ⟨q2, _⟩ | q2
                  · simp; omega
                  · simp; omega
              subst hn
              refine (hk.full L.b (L.o + off) c' zs w hH hr.lt hlen).mono ?_
              rintro e' w' ⟨rfl, m, os, rfl⟩
              rw [mergeI_eq]
              obtain ⟨ad, h', hp1, hp2, hp3, hp4⟩ := st_sim (vs := (sortI zs).map ik) (vs' := (sortI zs).map (Value.int .i64)) hs.v (VR.ptrOb (off := off) hh) (fun _ => vrs_ints _) hst
              injection hp1 with hp1
              injection hp1 with hp1
              subst hp1
              unfold Sh.stV at hp2
              simp only [hy1] at hp2
              obtain ⟨⟨u1, u2⟩, hp2⟩ := ite_some hp2
              injection hp2 with hp2
              subst hp2
              have hs1 := hs.s.store hy1 hL (vrels_ints (sortI zs)) u2 u1
              have hs2 := hs1.under (by rw [setCells_size]; exact put_below q1 (sortI zs) m os)
              exact ⟨_, _, S, rfl, rfl, hp3, List.prefix_refl _, ⟨hp4, hs2, hs.g⟩, _, .tup .nil, .tuple .nil⟩
  · cases hq
end
end Go.Proofs.Ytmpobijkbmljdaa.Sh.V
namespace Go.Proofs.Ytmpobijkbmljdaa.Sh.V
open Go.Proofs.Ytmpobijkbmljdaa.Sh
/-! ### Slices in objects of their own, anywhere in them: written, appended to, cut at both ends -/
def Hr (H : VH) (e : TypeId) (sz : Nat) (s : VS) (es : List (List V)) : Prop :=
  (∀ y ∈ es, y.length = sz) ∧ ((s = .nil ∧ es = []) ∨ ∃ (j : Nat) (pre post : List V), s = .hp j pre.length es.length ∧ H[j]? = some (.row e (pre ++ (es.flatten ++ post))))
theorem putAllV_mid : ∀ (y x A B : List V), x.length = y.length → putAllV (A ++ (x ++ B)) A.length y = A ++ (y ++ B)
  | [], [], A, B, _ => rfl
  | v :: y, u :: x, A, B, h => by
    have h1 : (A ++ (u :: x ++ B)).set A.length v = (A ++ [v]) ++ (x ++ B) := by
      rw [List.set_append_right _ _ (Nat.le_refl _)]; simp
    rw [putAllV, h1]
    have := putAllV_mid y x (A ++ [v]) B (by simpa using h)
    rw [List.length_append, List.length_singleton] at this
    rw [this]; simp
section
variable {H : VH} {e : TypeId} {sz : Nat} {s : VS} {es : List (List V)}
theorem Hr.nil (H : VH) (e : TypeId) (sz : Nat) : Hr H e sz .nil [] := ⟨fun y hy => (by cases hy), .inl ⟨rfl, rfl⟩⟩
theorem Hr.len (h : Hr H e sz s es) : s.len = es.length := by
  rcases h.2 with ⟨rfl, rfl⟩ | ⟨j, pre, post, rfl, _⟩ <;> rfl
theorem Hr.lt (h : Hr H e sz s es) : ∀ t ∈ hps s, t < H.length ∧ ∃ cs, H[t]? = some (.row e cs) := by
  rcases h.2 with ⟨rfl, rfl⟩ | ⟨j, pre, post, rfl, hj⟩
  · intro t ht; cases ht
  · intro t ht
    have ht : t ∈ [j] := ht
    rw [List.mem_singleton] at ht
    subst ht
    exact ⟨lt_of_ob hj, _, hj⟩
theorem Hr.keep {H' : VH} {X : List Nat} (h : Hr H e sz s es) (k : Kp H H' X) (hx : ∀ t ∈ hps s, t ∉ X) : Hr H' e sz s es := by
  refine ⟨h.1, ?_⟩
  rcases h.2 with ⟨rfl, rfl⟩ | ⟨j, pre, post, rfl, hj⟩
  · exact .inl ⟨rfl, rfl⟩
  · exact .inr ⟨j, pre, post, rfl, k.ob hj (hx j (List.mem_singleton.2 rfl))⟩
theorem Hr.new (H : VH) (e : TypeId) {sz : Nat} (es : List (List V)) (hl : ∀ y ∈ es, y.length = sz) : Hr (H ++ [.row e es.flatten]) e sz (.hp H.length 0 es.length) es :=
  ⟨hl, .inr ⟨H.length, [], [], rfl, by simp⟩⟩
/-- Appending elements that can be read. -/
theorem Hr.appO {by_ : Nat} {x : VS} {news : List (List V)} (h : Hr H e sz s es) (hx : x.len = news.length) (hxs : slOp H e sz x = some news) (hl : ∀ y ∈ news, y.length = sz)
    (hb : (((es.length + news.length) * by_ : Nat) : Int) ≤ bound) (h63 : ((es.length + news.length : Nat) : Int) ≤ bound) :
    ∃ s' H', appD false H sz by_ e s x = some (s', H') ∧ Hr H' e sz s' (es ++ news) ∧ Kp H H' (hps s) ∧ (∀ t ∈ hps s', t ∈ hps s ∨ H.length ≤ t) := by
  unfold appD
  rw [holdV_eq, h.len, hx, if_pos ⟨hb, h63⟩, cond_false, hxs, Option.bind_some]
  unfold appH
  by_cases h0 : news.length = 0
  · rw [if_pos h0]
    have : news = [] := List.eq_nil_of_length_eq_zero h0
    subst this
    exact ⟨s, H, rfl, by rw [List.append_nil]; exact h, Kp.refl _ _, fun t ht => .inl ht⟩
  · rw [if_neg h0]
    have hall : ∀ y ∈ es ++ news, y.length = sz := fun y hy => (List.mem_append.1 hy).elim (h.1 y) (hl y)
    have hfe := flat_len h.1
    rcases h.2 with ⟨rfl, rfl⟩ | ⟨j, pre, post, rfl, hj⟩
    · refine ⟨.hp H.length 0 news.length, H ++ [.row e news.flatten], rfl, Hr.new H e news hl, Kp.app H _, fun t ht => ?_⟩
      have ht : t ∈ [H.length] := ht
      rw [List.mem_singleton] at ht
      exact .inr (by omega)
    · have key : ∃ s' H', some (VS.hp H.length 0 (es.length + news.length), H.set j VO.dead ++ [VO.row e (es.flatten ++ news.flatten)]) = some (s', H') ∧ Hr H' e sz s' (es ++ news) ∧ Kp H H' (hps (.hp j pre.length es.length)) ∧ (∀ t ∈ hps s', t ∈ hps (.hp j pre.length es.length) ∨ H.length ≤ t) := by
        refine ⟨_, _, rfl, ?_, ?_, fun t ht => ?_⟩
        · have := Hr.new (H.set j .dead) e (es ++ news) hall
          rwa [List.length_set, List.flatten_append, List.length_append] at this
        · exact (Kp.set H j .dead).trans (Kp.app _ _) (fun x hx _ => hx) (fun y hy _ => (by cases hy))
        · have ht : t ∈ [H.length] := ht
          rw [List.mem_singleton] at ht
          exact .inr (by omega)
      simp only
      rw [hj]
      simp only
      by_cases hend : post = []
      · subst hend
        rw [if_pos ⟨trivial, by simp only [List.append_nil, List.length_append, hfe]⟩, List.drop_left, List.append_nil]
        exact key
      · have hp : 0 < post.length := by cases post with | nil => exact absurd rfl hend | cons => simp
        rw [if_neg (fun hh => by have := hh.2; simp only [List.length_append, hfe] at this; omega), if_pos ⟨trivial, by simp only [List.length_append, hfe]; omega⟩]
        have : ((pre ++ (es.flatten ++ post)).take (pre.length + es.length * sz)).drop pre.length = es.flatten := by
          rw [← hfe, ← List.length_append, ← List.append_assoc, List.take_left, List.drop_left]
        rw [this]
        exact key
theorem Hr.app {by_ : Nat} {x : VS} {news : List (List V)} (h : Hr H e sz s es) (hx : x.len = news.length) (hxs : slEs H e sz x = some news) (hl : ∀ y ∈ news, y.length = sz)
    (hb : (((es.length + news.length) * by_ : Nat) : Int) ≤ bound) (h63 : ((es.length + news.length : Nat) : Int) ≤ bound) :
    ∃ s' H', appD false H sz by_ e s x = some (s', H') ∧ Hr H' e sz s' (es ++ news) ∧ Kp H H' (hps s) ∧ (∀ t ∈ hps s', t ∈ hps s ∨ H.length ≤ t) := h.appO hx (slOp_of hxs) hl hb h63
theorem Hr.split {i : Nat} {y : List V} (hy : es[i]? = some y) : es = es.take i ++ y :: es.drop (i + 1) := by
  obtain ⟨h6, h7⟩ := List.getElem?_eq_some_iff.1 hy
  rw [← h7, ← List.drop_eq_getElem_cons h6, List.take_append_drop]
/-- Where an element stands. -/
theorem Hr.at_ (h : Hr H e sz s es) {i : Nat} {y : List V} (hy : es[i]? = some y) : ∃ j A B, s = .hp j (A.length - i * sz) es.length ∧ H[j]? = some (.row e (A ++ (y ++ B))) ∧ ixV sz s (i : Int) = some (.ob j A.length) ∧
    (∀ H' z, H'[j]? = some (.row e (A ++ (z ++ B))) → z.length = sz → Hr H' e sz s (es.set i z)) := by
  have hil := (List.getElem?_eq_some_iff.1 hy).1
  rcases h.2 with ⟨rfl, rfl⟩ | ⟨j, pre, post, rfl, hj⟩
  · simp at hy
  · have hti : (es.take i).flatten.length = i * sz := by
      rw [flat_len (sz := sz) (fun z hz => h.1 z (List.mem_of_mem_take hz)), List.length_take, Nat.min_eq_left (by omega)]
    have hfl : es.flatten = (es.take i).flatten ++ (y ++ (es.drop (i + 1)).flatten) := by
      have := congrArg List.flatten (Hr.split hy)
      rw [List.flatten_append, List.flatten_cons] at this
      exact this
    refine ⟨j, pre ++ (es.take i).flatten, (es.drop (i + 1)).flatten ++ post, ?_, ?_, ?_, ?_⟩
    · rw [List.length_append, hti]; congr 1; omega
    · rw [hj, hfl]; simp only [List.append_assoc]
    · simp only [ixV]
      rw [if_pos ⟨by omega, by omega⟩, Int.toNat_natCast, List.length_append, hti]
    · intro H' z hz hzl
      have hset : es.set i z = es.take i ++ z :: es.drop (i + 1) := by
        rw [List.set_eq_take_append_cons_drop, if_pos hil]
      refine ⟨fun w hw => ?_, .inr ⟨j, pre, post, by rw [List.length_set], ?_⟩⟩
      · rw [hset] at hw
        rcases List.mem_append.1 hw with hw | hw
        · exact h.1 w (List.mem_of_mem_take hw)
        · rcases List.mem_cons.1 hw with rfl | hw
          · exact hzl
          · exact h.1 w (List.mem_of_mem_drop hw)
      · rw [hz, hset, List.flatten_append, List.flatten_cons]; simp only [List.append_assoc]
theorem ld_mid {H : VH} {j : Nat} {e : TypeId} {A y B : List V} (hj : H[j]? = some (.row e (A ++ (y ++ B)))) {l : List FT} (hl : l.length = y.length) {x : aggT l} (hx : decs l y = some x) : ldV (.agg l) H (.ob j A.length) = some x := by
  simp only [ldV]
  rw [rowV_of hj, Option.bind_some]
  unfold takeN
  rw [hl, if_pos (by simp), Option.bind_some, List.drop_left, List.take_left, hx]
theorem Hr.rd (h : Hr H e sz s es) {i : Nat} {y : List V} (hy : es[i]? = some y) {l : List FT} (hl : l.length = sz) {x : aggT l} (hx : decs l y = some x) {β : Type} (f : aggT l → Option β) : ((ixV sz s (i : Int)).bind fun p => (ldV (.agg l) H p).bind f) = f x := by
  obtain ⟨j, A, B, _, hj, hix, _⟩ := h.at_ hy
  rw [hix, Option.bind_some, ld_mid hj (by rw [hl, h.1 y (List.mem_of_getElem? hy)]) hx, Option.bind_some]
theorem Hr.rd1 (h : Hr H e 1 s es) {i : Nat} {v : V} (hy : es[i]? = some [v]) {τ : FT} {x : τ.T} (hx : fdec τ v = some x) {β : Type} (f : τ.T → Option β) : ((ixV 1 s (i : Int)).bind fun p => (ldV (.flat τ) H p).bind f) = f x := by
  obtain ⟨j, A, B, _, hj, hix, _⟩ := h.at_ hy
  rw [hix, Option.bind_some, ld_row hj]
  have : (A ++ ([v] ++ B))[A.length]? = some v := by simp
  rw [this, Option.bind_some, hx, Option.bind_some]
/-- An element is written. -/
theorem Hr.set (h : Hr H e sz s es) {i : Nat} (hi : i < es.length) {z : List V} (hz : z.length = sz) (h1 : onesV z = true) {β : Type} (f : VH → Option β) : ∃ H', ((ixV sz s (i : Int)).bind fun p => (stV H p z).bind f) = f H' ∧ Hr H' e sz s (es.set i z) ∧ Kp H H' (hps s) ∧ H'.length = H.length := by
  obtain ⟨y, hy⟩ : ∃ y, es[i]? = some y := ⟨_, List.getElem?_eq_getElem hi⟩
  obtain ⟨j, A, B, hs, hj, hix, hput⟩ := h.at_ hy
  have hyl := h.1 y (List.mem_of_getElem? hy)
  refine ⟨H.set j (.row e (A ++ (z ++ B))), ?_, hput _ z (by rw [List.getElem?_set_self (lt_of_ob hj)]) hz, ?_, by simp⟩
  · rw [hix, Option.bind_some, st_row hj (by simp only [List.length_append]; omega) h1, Option.bind_some, putAllV_mid _ _ _ _ (by omega)]
  · rw [hs]; exact Kp.set _ _ _
/-- Cut at the head. -/
theorem Hr.drop (h : Hr H e sz s es) {c : Nat} (hc : c ≤ es.length) : ∃ s', cutD H e sz s (some (c : Int)) none none = some s' ∧ Hr H e sz s' (es.drop c) ∧ hps s' = hps s ∧ (es ≠ [] → s' ≠ .nil) := by
  unfold cutD
  rw [holdV_eq]
  rcases h.2 with ⟨rfl, rfl⟩ | ⟨j, pre, post, rfl, hj⟩
  · have : c = 0 := by simpa using hc
    subst this
    exact ⟨.nil, rfl, h, rfl, fun h => absurd rfl h⟩
  · have hti : (es.take c).flatten.length = c * sz := by
      rw [flat_len (sz := sz) (fun z hz => h.1 z (List.mem_of_mem_take hz)), List.length_take, Nat.min_eq_left (by omega)]
    refine ⟨.hp j (pre.length + c * sz) (es.length - c), ?_, ⟨fun y hy => h.1 y (List.mem_of_mem_drop hy), .inr ⟨j, pre ++ (es.take c).flatten, post, ?_, ?_⟩⟩, rfl, fun _ => by simp⟩
    · unfold cutV
      simp only [hj]
      rw [if_pos trivial]
      have hb : bd 0 (some (c : Int)) es.length = some c := by
        show inB _ _ = _
        unfold inB
        rw [if_pos ⟨by omega, by omega⟩]
        simp
      simp only [bd, Option.bind_some] at hb ⊢
      rw [hb]
      rfl
    · rw [List.length_append, hti, List.length_drop]
    · rw [hj, List.append_assoc, ← List.append_assoc (es.take c).flatten, ← List.flatten_append, List.take_append_drop]
/-- .. at the end. -/
theorem Hr.take (h : Hr H e sz s es) {c : Nat} (hc : c ≤ es.length) : ∃ s', cutD H e sz s none (some (c : Int)) none = some s' ∧ Hr H e sz s' (es.take c) ∧ hps s' = hps s := by
  unfold cutD
  rw [holdV_eq]
  rcases h.2 with ⟨rfl, rfl⟩ | ⟨j, pre, post, rfl, hj⟩
  · have : c = 0 := by simpa using hc
    subst this
    exact ⟨.nil, rfl, h, rfl⟩
  · refine ⟨.hp j pre.length c, ?_, ⟨fun y hy => h.1 y (List.mem_of_mem_take hy), .inr ⟨j, pre, (es.drop c).flatten ++ post, ?_, ?_⟩⟩, rfl⟩
    · unfold cutV
      simp only [hj]
      rw [if_pos trivial]
      have hb : bd es.length (some (c : Int)) es.length = some c := by
        show inB _ _ = _
        unfold inB
        rw [if_pos ⟨by omega, by omega⟩]
        simp
      rw [hb]
      simp [bd]
    · rw [List.length_take, Nat.min_eq_left hc]
    · rw [hj, ← List.append_assoc (es.take c).flatten, ← List.flatten_append, List.take_append_drop]
/-- The end is cleared. -/
theorem Hr.clear (h : Hr H e sz s es) {c : Nat} (hc : c ≤ es.length) {s2 : VS} (h2 : cutD H e sz s (some (c : Int)) none none = some s2) {P : Program} {T : TypeId} (hT : elemOf? P T = some e) {z : List V} (hz : zeroV P e = some z) (hzl : z.length = sz) (hsz : sz ≠ 0) (hzo : onesV z = true) :
    ∃ H' es', clrD P H T (.sl e s2) = some H' ∧ Hr H' e sz s es' ∧ es'.length = es.length ∧ es'.take c = es.take c ∧ Kp H H' (hps s) ∧ H'.length = H.length := by
  unfold cutD at h2
  rw [holdV_eq] at h2
  rcases h.2 with ⟨rfl, rfl⟩ | ⟨j, pre, post, rfl, hj⟩
  · have : c = 0 := by simpa using hc
    subst this
    have : s2 = .nil := by
      have : cutV H e sz .nil (some ((0 : Nat) : Int)) none none = some .nil := rfl
      rw [this] at h2; injection h2 with h2; exact h2.symm
    subst this
    refine ⟨H, [], ?_, h, rfl, rfl, Kp.refl _ _, rfl⟩
    simp only [clrD, hT, atE, if_true, Option.bind_some]
  · have hti : (es.take c).flatten.length = c * sz := by
      rw [flat_len (sz := sz) (fun z hz => h.1 z (List.mem_of_mem_take hz)), List.length_take, Nat.min_eq_left (by omega)]
    have hs2 : s2 = .hp j (pre.length + c * sz) (es.length - c) := by
      have hb : bd 0 (some (c : Int)) es.length = some c := by
        show inB _ _ = _
        unfold inB
        rw [if_pos ⟨by omega, by omega⟩]
        simp
      have : cutV H e sz (.hp j pre.length es.length) (some (c : Int)) none none = some (.hp j (pre.length + c * sz) (es.length - c)) := by
        unfold cutV
        simp only [hj]
        rw [if_pos trivial]
        simp only [bd, Option.bind_some] at hb ⊢
        rw [hb]
        rfl
      rw [this] at h2; injection h2 with h2; exact h2.symm
    subst hs2
    rcases Nat.lt_or_ge c es.length with hlt | hge
    · obtain ⟨d, hd⟩ : ∃ d, es.length - c = d + 1 := ⟨es.length - c - 1, by omega⟩
      have hrl : ∀ n, (repV n z).length = n * sz := fun n => by rw [repV_len, hzl]
      have hfd : (es.drop c).flatten.length = (d + 1) * sz := by
        rw [flat_len (sz := sz) (fun z hz => h.1 z (List.mem_of_mem_drop hz)), List.length_drop, hd]
      have hj2 : H[j]? = some (.row e ((pre ++ (es.take c).flatten) ++ ((es.drop c).flatten ++ post))) := by
        rw [hj]
        have : es.flatten = (es.take c).flatten ++ (es.drop c).flatten := by rw [← List.flatten_append, List.take_append_drop]
        rw [this]; simp only [List.append_assoc]
      have hon : ∀ n, onesV (repV n z) = true := by
        intro n
        induction n with
        | zero => rfl
        | succ n ih => unfold onesV at *; rw [repV, List.all_append, ih, hzo]; rfl
      refine ⟨H.set j (.row e ((pre ++ (es.take c).flatten) ++ (repV (d + 1) z ++ post))), es.take c ++ List.replicate (d + 1) z, ?_, ⟨?_, .inr ⟨j, pre, post, ?_, ?_⟩⟩, ?_, ?_, Kp.set _ _ _, by simp⟩
      · simp only [clrD, hT, atE, if_true, Option.bind_some, hd]
        rw [hz, Option.bind_some, if_pos (by rw [hzl]; exact hsz), st_row hj2 (by simp only [List.length_append, hrl, hti, hfd]; omega) (hon _)]
        have : pre.length + c * sz = (pre ++ (es.take c).flatten).length := by rw [List.length_append, hti]
        rw [this, putAllV_mid _ _ _ _ (by rw [hfd, hrl])]
      · intro y hy
        rcases List.mem_append.1 hy with hy | hy
        · exact h.1 y (List.mem_of_mem_take hy)
        · rw [List.eq_of_mem_replicate hy]; exact hzl
      · rw [List.length_append, List.length_take, List.length_replicate, Nat.min_eq_left (by omega)]; congr 1; omega
      · rw [List.getElem?_set_self (lt_of_ob hj), List.flatten_append, rep_flat]; simp only [List.append_assoc]
      · rw [List.length_append, List.length_take, List.length_replicate, Nat.min_eq_left (by omega)]; omega
      · rw [List.take_append_of_le_length (by rw [List.length_take]; omega), List.take_of_length_le (by rw [List.length_take]; omega)]
    · refine ⟨H, es, ?_, h, rfl, rfl, Kp.refl _ _, rfl⟩
      simp only [clrD, hT, atE, if_true, Option.bind_some, show es.length - c = 0 by omega]
end
end Go.Proofs.Ytmpobijkbmljdaa.Sh.V
namespace Go.Proofs.Ytmpobijkbmljdaa.Sh.V
open Go.Proofs.Ytmpobijkbmljdaa.Sh Go.RowKit Go.Proofs.Ytmpobijkbmljdaa.Sh.Lk
/-! ### slices.Insert of one element into a slice in its own object -/
/-- The one element that is put in. -/
def oneV (H : VH) (e : TypeId) (sz kv ov : Nat) : Option (List V) :=
  match H[kv]? with
  | some (.row e' cv) => if e' = e ∧ ov + sz ≤ cv.length then some ((cv.drop ov).take sz) else none
  | _ => none
def insP (e : TypeId) (sz : Nat) : List V → VH → VRes := fun args H =>
  match args with
  | [.sl _ .nil, .int .i64 i, .sl _ (.hp kv ov 1)] => (oneV H e sz kv ov).bind fun y => if i = 0 then some (.sl e (.hp H.length 0 1), H ++ [.row e y]) else none
  | [.sl _ (.hp k off n), .int .i64 i, .sl _ (.hp kv ov 1)] => (oneV H e sz kv ov).bind fun y =>
    match H[k]? with
    | some (.row e' cs) =>
      if e' = e ∧ k ≠ kv ∧ 0 ≤ i ∧ i ≤ n ∧ off + n * sz ≤ cs.length ∧ n < 1000000 then
        some (.sl e (.hp H.length 0 (n + 1)), H.set k .dead ++ [.row e (((cs.drop off).take (i.toNat * sz)) ++ (y ++ ((cs.drop off).take (n * sz)).drop (i.toNat * sz)))])
      else none
    | _ => none
  | _ => none
theorem oneV_hr {H : VH} {e : TypeId} {sz : Nat} {s : VS} {y : List V} (h : Hr H e sz s [y]) : ∃ kv ov, s = .hp kv ov 1 ∧ oneV H e sz kv ov = some y := by
  rcases h.2 with ⟨_, h2⟩ | ⟨j, pre, post, rfl, hj⟩
  · cases h2
  · refine ⟨j, pre.length, rfl, ?_⟩
    have hy := h.1 y (List.mem_singleton.2 rfl)
    unfold oneV
    rw [hj]
    simp only [List.flatten_cons, List.flatten_nil, List.append_nil]
    rw [if_pos ⟨trivial, by simp only [List.length_append]; omega⟩, List.drop_left, ← hy, List.take_left]
theorem Hr.ins {H : VH} {e : TypeId} {sz : Nat} {s sv : VS} {es : List (List V)} (h : Hr H e sz s es) {i : Nat} (hi : i ≤ es.length) {y : List V} (hv : Hr H e sz sv [y]) (hd : ∀ t ∈ hps sv, t ∉ hps s) (hn : es.length < 1000000) (e1 e2 : TypeId) :
    ∃ s' H', insP e sz [.sl e1 s, .int .i64 (i : Int), .sl e2 sv] H = some (.sl e s', H') ∧ Hr H' e sz s' (es.take i ++ y :: es.drop i) ∧ Kp H H' (hps s) ∧ (∀ t ∈ hps s', t ∈ hps s ∨ H.length ≤ t) := by
  have hy := hv.1 y (List.mem_singleton.2 rfl)
  obtain ⟨kv, ov, rfl, hone⟩ := oneV_hr hv
  have hall : ∀ z ∈ es.take i ++ y :: es.drop i, z.length = sz := fun z hz => by
    rcases List.mem_append.1 hz with hz | hz
    · exact h.1 z (List.mem_of_mem_take hz)
    · rcases List.mem_cons.1 hz with rfl | hz
      · exact hy
      · exact h.1 z (List.mem_of_mem_drop hz)
  rcases h.2 with ⟨rfl, rfl⟩ | ⟨j, pre, post, rfl, hj⟩
  · have : i = 0 := by simpa using hi
    subst this
    refine ⟨.hp H.length 0 1, H ++ [.row e y], ?_, ?_, Kp.app _ _, fun t ht => ?_⟩
    · simp [insP, hone]
    · have := Hr.new H e (sz := sz) [y] (by simpa using hy)
      simpa using this
    · have ht : t ∈ [H.length] := ht
      rw [List.mem_singleton] at ht
      exact .inr (by omega)
  · have hfe := flat_len h.1
    have hjk : j ≠ kv := fun e => hd kv (List.mem_singleton.2 rfl) (List.mem_singleton.2 e.symm)
    have hti : (es.take i).flatten.length = i * sz := by
      rw [flat_len (sz := sz) (fun z hz => h.1 z (List.mem_of_mem_take hz)), List.length_take, Nat.min_eq_left (by omega)]
    have hsp : es.flatten = (es.take i).flatten ++ (es.drop i).flatten := by rw [← List.flatten_append, List.take_append_drop]
    refine ⟨.hp H.length 0 (es.length + 1), H.set j .dead ++ [.row e ((es.take i).flatten ++ (y ++ (es.drop i).flatten))], ?_, ?_, ?_, fun t ht => ?_⟩
    · unfold insP
      simp only [hone, Option.bind_some, hj]
      rw [if_pos ⟨trivial, hjk, by omega, by omega, by simp only [List.length_append, hfe]; omega, hn⟩]
      rw [List.drop_left, Int.toNat_natCast]
      have a1 : List.take (i * sz) (es.flatten ++ post) = (es.take i).flatten := by rw [hsp, List.append_assoc, ← hti, List.take_left]
      have a2 : List.drop (i * sz) (List.take (es.length * sz) (es.flatten ++ post)) = (es.drop i).flatten := by
        rw [← hfe, List.take_left, hsp, ← hti, List.drop_left]
      rw [a1, a2]
    · have := Hr.new (H.set j .dead) e (es.take i ++ y :: es.drop i) hall
      rw [List.length_set, List.flatten_append, List.flatten_cons] at this
      have e2 : (es.take i ++ y :: es.drop i).length = es.length + 1 := by
        rw [List.length_append, List.length_cons, List.length_take, List.length_drop]; omega
      rw [e2] at this
      exact this
    · exact (Kp.set H j .dead).trans (Kp.app _ _) (fun x hx _ => hx) (fun y hy _ => (by cases hy))
    · have ht : t ∈ [H.length] := ht
      rw [List.mem_singleton] at ht
      exact .inr (by omega)
/-- slices.Sort in place. -/
theorem Hr.sort {H : VH} {e e1 : TypeId} {s : VS} {l : List Int} (h : Hr H e 1 s (ints l)) (hn : l.length < 4611686018427387904) (h0 : s = .nil ∨ l ≠ []) :
    ∃ H', sortP [.sl e1 s] H = some (.tup [], H') ∧ Hr H' e 1 s (ints (sortI l)) ∧ Kp H H' (hps s) ∧ H'.length = H.length := by
  have hfl : ∀ l : List Int, (ints l).flatten = l.map ik := fun l => by
    induction l with
    | nil => rfl
    | cons x l ih => show [ik x] ++ (ints l).flatten = _; rw [ih]; rfl
  rcases h.2 with ⟨rfl, h2⟩ | ⟨j, pre, post, rfl, hj⟩
  · have : l = [] := by cases l with | nil => rfl | cons => cases h2
    subst this
    exact ⟨H, rfl, h, Kp.refl _ _, rfl⟩
  · have hl0 : l ≠ [] := by
      rcases h0 with h0 | h0
      · cases h0
      · exact h0
    have hlen : l.length ≠ 0 := fun hh => hl0 (List.eq_nil_of_length_eq_zero hh)
    rw [ints_len, hfl] at *
    have hput := putAllV_mid ((sortI l).map ik) (l.map ik) pre post (by simp [sortI_len])
    have hon : onesV ((sortI l).map ik) = true := by
      unfold onesV
      rw [List.all_eq_true]
      intro v hv
      obtain ⟨x, _, rfl⟩ := List.mem_map.1 hv
      rfl
    refine ⟨H.set j (.row e (pre ++ ((sortI l).map ik ++ post))), ?_, ⟨?_, .inr ⟨j, pre, post, ?_, ?_⟩⟩, Kp.set _ _ _, by simp⟩
    · show (if l.length = 0 then none else _) = _
      rw [if_neg hlen]
      unfold hpCells takeN
      rw [rowV_of hj, Option.bind_some, if_pos (by simp), Option.bind_some, List.drop_left]
      have : List.take l.length (List.map ik l ++ post) = l.map ik := by
        have := List.take_left (l₁ := l.map ik) (l₂ := post)
        rwa [List.length_map] at this
      rw [this, intsOf_ik, Option.bind_some, if_pos hn, st_row hj (by simp [sortI_len]) hon, Option.map_some, hput]
    · intro y hy
      obtain ⟨x, _, rfl⟩ := List.mem_map.1 hy
      rfl
    · rw [ints_len, sortI_len]
    · rw [List.getElem?_set_self (lt_of_ob hj), hfl]
end Go.Proofs.Ytmpobijkbmljdaa.Sh.V
namespace Go.Proofs.Ytmpobijkbmljdaa.Sh.V
open Go.Proofs.Ytmpobijkbmljdaa.Sh Go.RowKit Go.Proofs.Ytmpobijkbmljdaa.Sh.Lk
/-! ### slices.Insert of one element: from its roads at the model -/
structure InsOK (P : Program) (g : FuncId) (T e : TypeId) (sz : Nat) : Prop where
  body : ∃ fn s, P.funcs[g]? = some fn ∧ fn.body = some s
  under : P.underlying T = some (.slice e)
  box : e < boxK
  nu8 : P.underlying e ≠ some (.int .u8)
  info : ∃ i z, P.info? e = some i ∧ i.zero = some z ∧ z.cells.size = i.size ∧ i.bytes = 16 ∧ i.size = sz
  pos : sz ≠ 0
  end_ : ∀ (base : Option Addr) (n c : Nat) (av : Addr) (vc : Nat) (w w' : World) (u' : Value), n ≤ c → n < 1000000 → (base = none → c = 0) → (Builtin.append_ #[T, T] T #[.slice base n c, .slice (some av) 1 vc]).run P w = .ok u' w' →
    Calls P g #[.slice base n c, .int .i64 n, .slice (some av) 1 vc] w fun e W => e = .returned u' ∧ W = w'
  shift : ∀ (b off n c i vb voff vc : Nat) (cs vs : List Value) (w : World), i < n → n + 1 ≤ c → n < 1000000 → vb ≠ b → cs.length = n * sz → vs.length = sz →
    (∀ j v, cs[j]? = some v → w.cell? ⟨b, off + j, none⟩ = some v) → (∀ j, j < (n + 1) * sz → (w.cell? ⟨b, off + j, none⟩).isSome = true) → (∀ j, j < (n + 1) * sz → w.frozen? ⟨b, off + j, none⟩ = false) →
    (∀ j v, vs[j]? = some v → w.cell? ⟨vb, voff + j, none⟩ = some v) → (∀ v ∈ cs, v.oneCell' = true) → (∀ v ∈ vs, v.oneCell' = true) →
    ∀ (tA tB : TypeId) (kA kB : Nat), w.shape? vb = some (tA, kA) → w.shape? b = some (tB, kB) → kB ≠ 0 → w.frozen? ⟨vb, voff, none⟩ = false → w.frozen? ⟨vb, kA, none⟩ = false →
    Calls P g #[.slice (some ⟨b, off, none⟩) n c, .int .i64 i, .slice (some ⟨vb, voff, none⟩) 1 vc] w fun e w' =>
      e = .returned (.slice (some ⟨b, off, none⟩) (n + 1) c) ∧ w' = (w.drew.setCells b (off + (i + 1) * sz) (cs.drop (i * sz))).setCells b (off + i * sz) vs
  grow : ∀ (b off n c i vb voff vc : Nat) (cs vs : List Value) (w : World), i < n → n ≤ c → c < n + 1 → (n + 1) * 16 ≤ 140737488355328 → cs.length = n * sz → vs.length = sz →
    (∀ j v, cs[j]? = some v → w.cell? ⟨b, off + j, none⟩ = some v) → (∀ j v, vs[j]? = some v → w.cell? ⟨vb, voff + j, none⟩ = some v) → (∀ v ∈ cs, v.oneCell' = true) → (∀ v ∈ vs, v.oneCell' = true) → b < w.heap.size → vb < w.heap.size →
    ∃ (G : Nat) (ROW : Array Value), n + 1 ≤ G ∧ ROW.size = G * sz ∧ Calls P g #[.slice (some ⟨b, off, none⟩) n c, .int .i64 i, .slice (some ⟨vb, voff, none⟩) 1 vc] w fun e1 w' =>
      e1 = .returned (.slice (some ⟨w.heap.size, 0, none⟩) (n + 1) G) ∧
      (∀ j, j < i * sz → ROW[j]? = cs[j]?) ∧ w' = (((w.alloc (.cells ROW e)).drew.setCells w.heap.size (i * sz) vs).drew).setCells w.heap.size ((i + 1) * sz) (cs.drop (i * sz))
theorem ones_part {l : List Value} (h : ones l = true) (k n : Nat) : ones ((l.drop k).take n) = true := by
  unfold ones at *
  rw [List.all_eq_true] at *
  exact fun x hx => h x (List.mem_of_mem_drop (List.mem_of_mem_take hx))
section
variable {G : Nat → World → Prop} {P : Program}
theorem insP_ok {g : FuncId} {T e : TypeId} {sz : Nat} (hk : InsOK P g T e sz) : PrimOKg G P g (insP e sz) := by
  intro args c v H' hq B w0 S w args' hs hargs
  refine ⟨hk.body, ?_⟩
  obtain ⟨us, ha1, ha2⟩ := hargs
  obtain ⟨ii, zz, hi1, hi2, hi3, hi4, hi5⟩ := hk.info
  have hce : P.cellsOf e = sz := by simp [Program.cellsOf, hi1, hi5]
  have hub : unbox e = e := unbox_lt hk.box
  -- the three arguments
  have h3 : ∃ e1 s i e2 kv ov y, args = [.sl e1 s, .int .i64 i, .sl e2 (.hp kv ov 1)] ∧ oneV c.H e sz kv ov = some y ∧
      ((s = .nil ∧ i = 0 ∧ (v, H') = (.sl e (.hp c.H.length 0 1), c.H ++ [.row e y])) ∨ ∃ k off n cs, s = .hp k off n ∧ c.H[k]? = some (.row e cs) ∧ k ≠ kv ∧ 0 ≤ i ∧ i ≤ n ∧ off + n * sz ≤ cs.length ∧ n < 1000000 ∧
        (v, H') = (.sl e (.hp c.H.length 0 (n + 1)), c.H.set k .dead ++ [.row e (((cs.drop off).take (i.toNat * sz)) ++ (y ++ ((cs.drop off).take (n * sz)).drop (i.toNat * sz)))])) := by
    unfold insP at hq
    split at hq
    · rename_i e1 i e2 kv ov
      rw [Option.bind_eq_some_iff] at hq
      obtain ⟨y, hy, hq⟩ := hq
      obtain ⟨h0, hq⟩ := ite_some hq
      injection hq with hq
      exact ⟨e1, .nil, i, e2, kv, ov, y, rfl, hy, .inl ⟨rfl, h0, hq.symm⟩⟩
    · rename_i e1 k off n i e2 kv ov
      rw [Option.bind_eq_some_iff] at hq
      obtain ⟨y, hy, hq⟩ := hq
      split at hq
      · rename_i e' cs hcs
        obtain ⟨⟨q1, q2, q3, q4, q5, q6⟩, hq⟩ := ite_some hq
        subst q1
        injection hq with hq
        exact ⟨e1, .hp k off n, i, e2, kv, ov, y, rfl, hy, .inr ⟨k, off, n, cs, rfl, hcs, q2, q3, q4, q5, q6, hq.symm⟩⟩
      · cases hq
    · cases hq
  clear hq
  obtain ⟨e1, s, i, e2, kv, ov, y, rfl, hy, hcase⟩ := h3
  -- v, in the shadow and at the world
  unfold oneV at hy
  cases hkv : c.H[kv]? with
  | none => rw [hkv] at hy; cases hy
  | some o =>
  rw [hkv] at hy
  cases o with
  | dead => cases hy
  | slot => cases hy
  | tok _ _ => cases hy
  | map _ _ => cases hy
  | row ev cv =>
  have hy' := ite_some hy
  clear hy
  obtain ⟨⟨rfl, hle⟩, hy⟩ := hy'
  injection hy with hy
  cases ha1 with
  | cons x1 x2 =>
  cases x2 with
  | cons x2 x3 =>
  cases x3 with
  | cons x3 x4 =>
  cases x4
  cases ha2 with
  | cons y1 y2 =>
  cases y2 with
  | cons y2 y3 =>
  cases y3 with
  | cons y3 y4 =>
  cases y4
  cases x2
  cases x3 with
  | slHp hhv =>
  rename_i kkv
  have hyi := y2.inv_int
  subst hyi
  obtain ⟨kkv', ov', Lv, av, cv', hadr, hLv, rfl, hncv, habv, hbv1, hbv2, hbv3⟩ := y3.inv_slice
  injection hadr with h5 h6
  subst h5 h6
  have hσv := hhv.1
  obtain ⟨ysv, hyv1, hyv2⟩ := hs.v.row hkv hσv
  have hrv : RowIs P B S w Lv true ev ysv := hs.s.ob _ _ Lv hyv1 hLv
  obtain rfl := hbv1 (by omega)
  have hlv := hyv2.length
  obtain ⟨vsW, hv1, hv2, hv3⟩ := hrv.pick ov sz (by omega)
  have hyV : VRs P c y ((ysv.drop ov).take sz) := by rw [← hy]; exact hyv2.drop_take ov sz
  obtain ⟨hBv, Cv, frv, qv1, qv2, qv3, qv4⟩ := hrv.own rfl
  have hyl : y.length = sz := by rw [← hy, List.length_take, List.length_drop]; omega
  -- at the end: an append
  have endc : ∀ {s : VS} {u0 s' : Value} {r : VS × VH} {n : Nat}, VR P c (.sl ev s) u0 → VRel S u0 s' → s.len = n → n < 1000000 → appH c.H ev sz s [y] = some r →
      Calls P g #[s', .int .i64 n, .slice (some ⟨Lv.b, Lv.o + ov, none⟩) 1 cv'] w fun e w' => ∃ d v' S', e = .returned v' ∧ d.H = r.2 ∧ Le c d ∧ S <+: S' ∧ St G P B w0 d S' w' ∧ CV P d S' (.sl ev r.1) v' := by
    intro s u0 s' r n hv hvr hn hn6 happ
    obtain ⟨a, x, q, h', σ', rfl, g1, g2, g3, g4⟩ := appH_sim hs.v hce.symm hv (news := [y]) (news' := (ysv.drop ov).take sz) (by simpa using hyV) happ
    have hsl : slCells c.h ii.size ⟨some ⟨kkv, ov, none⟩, 1, 0⟩ = some ((ysv.drop ov).take sz) := by
      unfold slCells cellsAt rowOf
      simp only
      rw [if_neg (by omega), hyv1]
      simp only [Option.bind_some, Nat.one_mul, hi5]
      rw [if_pos (by omega)]
    obtain ⟨vs', t1, t2, t3, t4⟩ := src_slice hs.s hk.under y3 hi1 hsl
    rw [hn] at hvr g1
    obtain ⟨u', w', S', r1, r2, r3, r4⟩ := app_sound hs.s (ty := T) (U := T) hk.under hk.box (by rw [hce]; exact hk.pos) hi1 hi2 hi3 hvr t4 t1 t2 t3 (by rw [hi4]; omega) (by omega) (q := (q, h')) (by rw [hi5]; exact g1)
    have hform : ∃ base cc, s' = .slice base n cc ∧ n ≤ cc ∧ (base = none → cc = 0) := by
      cases a with
      | none => obtain ⟨rfl, rfl, rfl⟩ := hvr.inv_sliceN; exact ⟨none, 0, rfl, Nat.le_refl _, fun _ => rfl⟩
      | some ad => obtain ⟨_, _, _, a2, c2, _, _, rfl, hnc, _⟩ := hvr.inv_slice; exact ⟨some a2, c2, rfl, hnc, fun h => by cases h⟩
    obtain ⟨base, cc, rfl, hnc, hb0⟩ := hform
    refine (hk.end_ base n cc _ cv' w w' u' hnc hn6 hb0 r1).mono ?_
    rintro e' W ⟨rfl, rfl⟩
    exact ⟨_, _, S', rfl, rfl, g2, r2, ⟨g3, r3, hs.g⟩, _, g4, r4⟩
  have retype : ∀ {s : VS} {u0 : Value}, VR P c (.sl e1 s) u0 → (s = .nil ∨ ∃ k off n, s = .hp k off n) → VR P c (.sl ev s) u0 := by
    intro s u0 h hs'
    rcases hs' with rfl | ⟨k, off, n, rfl⟩
    · cases h; exact .slNil
    · cases h with | slHp hh => exact .slHp hh
  rcases hcase with ⟨rfl, rfl, hv⟩ | ⟨k, off, n, cs, rfl, hcs, hkk, hi0, hin, hoff, hn6, hv⟩
  · injection hv with e1 e2
    subst e1 e2
    exact endc (n := 0) (retype x1 (.inl rfl)) y1 rfl (by omega) (r := (.hp c.H.length 0 1, c.H ++ [.row ev y])) (by simp [appH])
  · injection hv with e1 e2
    subst e1 e2
    obtain ⟨j, rfl⟩ : ∃ j : Nat, i = (j : Int) := ⟨i.toNat, by omega⟩
    rw [Int.toNat_natCast]
    by_cases hend : j = n
    · subst hend
      have happ : appH c.H ev sz (.hp k off j) [y] = some (.hp c.H.length 0 (j + 1), c.H.set k .dead ++ [.row ev (((cs.drop off).take (j * sz)) ++ (y ++ ((cs.drop off).take (j * sz)).drop (j * sz)))]) := by
        unfold appH
        rw [if_neg (by simp)]
        simp only [hcs, List.flatten_cons, List.flatten_nil, List.append_nil, List.length_singleton]
        have hd0 : ((cs.drop off).take (j * sz)).drop (j * sz) = [] := List.drop_eq_nil_of_le (by rw [List.length_take]; omega)
        rw [hd0, List.append_nil]
        by_cases hfull : off + j * sz = cs.length
        · rw [if_pos ⟨trivial, hfull⟩, List.take_of_length_le (by rw [List.length_drop]; omega)]
        · rw [if_neg (fun hh => hfull hh.2), if_pos ⟨trivial, hoff⟩, List.drop_take, Nat.add_sub_cancel_left]
      exact endc (n := j) (retype x1 (.inr ⟨_, _, _, rfl⟩)) y1 rfl hn6 happ
    · have hjn : j < n := by omega
      cases x1 with
      | slHp hh =>
      rename_i kk
      obtain ⟨kk', off', L, a', c', hadr, hL, rfl, hnc, hab, hb1, hb2, hb3⟩ := y1.inv_slice
      injection hadr with h5 h6
      subst h5 h6
      have hσ := hh.1
      obtain ⟨ys, hy1, hy2⟩ := hs.v.row hcs hσ
      have hr : RowIs P B S w L true ev ys := hs.s.ob _ _ L hy1 hL
      obtain rfl := hb1 (by omega)
      obtain ⟨hB, C, fr, q1, q2, q3, q4⟩ := hr.own rfl
      have hlc := hy2.length
      have hLsz : L.sz = sz := by rw [hr.sz, hce]
      have hext := hb2 rfl
      rw [hLsz] at hext
      have hne : kk ≠ kkv := fun e => hkk (hs.v.inj k kv _ _ kk hcs rfl hkv rfl hσ (e ▸ hσv))
      have hbne : L.b ≠ Lv.b := hs.s.sep kk kkv _ _ L Lv hne hy1 hyv1 rfl rfl hL hLv
      obtain ⟨csW, hc1, hc2, hc3⟩ := hr.pick off (n * sz) (by omega)
      have o1 : ∀ v ∈ csW, v.oneCell' = true := ones_rel hc3 (ones_part hr.one _ _)
      have o2 : ∀ v ∈ vsW, v.oneCell' = true := ones_rel hv3 (ones_part hrv.one _ _)
      -- the new row
      obtain ⟨newS, hnewS⟩ : ∃ l : List Value, l = ((ys.drop off).take (n * sz)).take (j * sz) ++ ((ysv.drop ov).take sz ++ ((ys.drop off).take (n * sz)).drop (j * sz)) := ⟨_, rfl⟩
      obtain ⟨newW, hnewW⟩ : ∃ l : List Value, l = csW.take (j * sz) ++ (vsW ++ csW.drop (j * sz)) := ⟨_, rfl⟩
      have hjs : j * sz + sz ≤ n * sz := by rw [← Nat.succ_mul]; exact Nat.mul_le_mul_right _ hjn
      have hns : (n + 1) * sz = n * sz + sz := Nat.succ_mul _ _
      have hjs1 : (j + 1) * sz = j * sz + sz := Nat.succ_mul _ _
      have hnl : newW.length = (n + 1) * sz := by rw [hnewW]; simp only [List.length_append, List.length_take, List.length_drop, hc1, hv1]; omega
      have hnlS : newS.length = (n + 1) * sz := by rw [hnewS]; simp only [List.length_append, List.length_take, List.length_drop]; omega
      have hnr : VRels S newS newW := by
        rw [hnewS, hnewW]
        exact (hc3.take _).append (hv3.append (hc3.drop _))
      have hnv : VRs P c (((cs.drop off).take (j * sz)) ++ (y ++ ((cs.drop off).take (n * sz)).drop (j * sz))) newS := by
        rw [hnewS]
        have e0 : (cs.drop off).take (j * sz) = ((cs.drop off).take (n * sz)).take (j * sz) := by rw [List.take_take, Nat.min_eq_left (by omega)]
        rw [e0]
        exact ((hy2.drop_take off (n * sz)).take _).append (hyV.append ((hy2.drop_take off (n * sz)).drop _))
      have hon : ones newS = true := by
        rw [hnewS]
        refine ones_append.2 ⟨?_, ones_append.2 ⟨ones_part hrv.one _ _, ?_⟩⟩
        · have := ones_part (ones_part hr.one off (n * sz)) 0 (j * sz); rwa [List.drop_zero] at this
        · have h0 := ones_part hr.one off (n * sz)
          unfold ones at *
          rw [List.all_eq_true] at *
          exact fun x hx => h0 x (List.mem_of_mem_drop hx)
      have fin : ∀ (w' : World) (b2 o2' cap : Nat) (C2 : Array Value) (fr2 : Nat × Nat), w'.heap[b2]? = some (.cells C2 ev fr2) → (C2.size ≤ fr2.1 ∧ P.underlying (unbox ev) = some (.int .u8) ∨ fr2.1 = fr2.2) → o2' + cap * sz ≤ C2.size → n + 1 ≤ cap → B ≤ b2 →
          (∀ k, k < w.heap.size → k ≠ b2 → w'.heap[k]? = w.heap[k]?) → w.heap.size ≤ w'.heap.size → w'.os = w.os → w'.tape = w.tape → w'.output = w.output → (∀ (j : Nat) (u : Ob) (M : Loc), (c.h.set kk .dead)[j]? = some u → u.live = true → S[j]? = some M → M.b ≠ b2) →
          (∀ t, t < (n + 1) * sz → C2[o2' + t]? = newW[t]?) →
          ∃ d v' S', Ending.returned (.slice (some ⟨b2, o2', none⟩) (n + 1) cap) = .returned v' ∧ d.H = c.H.set k .dead ++ [.row ev (((cs.drop off).take (j * sz)) ++ (y ++ ((cs.drop off).take (n * sz)).drop (j * sz)))] ∧ Le c d ∧ S <+: S' ∧ St G P B w0 d S' w' ∧ CV P d S' (.sl ev (.hp c.H.length 0 (n + 1))) v' := by
        intro w' b2 o2' cap C2 fr2 z1 z2 z3 z4 z5 z6 z7 z8 z9 z10 z11 z12
        obtain ⟨t1, t2⟩ := hs.v.turn hcs rfl hσ .dead .dead rfl (fun _ _ _ => trivial)
        obtain ⟨g3, g4, g5⟩ := new_row t2 ev (hnv.mono t1)
        simp only [List.length_set] at g3 g4 g5
        have hp : S <+: S ++ [⟨b2, o2', cap * sz, sz⟩] := ⟨_, rfl⟩
        have hs2 : Sim P B w0 (S ++ [⟨b2, o2', cap * sz, sz⟩]) (c.h.set kk .dead ++ [.row true ev newS]) w' := by
          refine (hs.s.kill kk).add ⟨b2, o2', cap * sz, sz⟩ _ z6 z7 z8 z9 z10 z5 z11 ?_
          refine ⟨hce.symm, hon, (Array.getElem?_eq_some_iff.1 z1).1, by rw [hnlS]; exact Nat.mul_le_mul_right _ z4, fun t u hu => ?_, fun _ => ⟨z5, C2, fr2, by rw [hub]; exact z1, z2, z3, fun h => absurd h (Nat.not_le.2 hk.box)⟩⟩
          have htl := (List.getElem?_eq_some_iff.1 hu).1
          obtain ⟨u', hu', hrel⟩ := hnr.get hu
          refine ⟨u', ?_, hrel.mono hp⟩
          simp only [World.cell?, z1, Option.isSome_none, Bool.false_eq_true, if_false]
          rw [z12 t (by omega)]
          exact hu'
        refine ⟨_, _, _, rfl, rfl, t1.trans g3, hp, ⟨g4, hs2, hs.g⟩, _, .slHp g5, ?_⟩
        have := VRel.slice (S := S ++ [⟨b2, o2', cap * sz, sz⟩]) (i := S.length) (o := 0) (n := n + 1) (c := 0) (c' := cap) (a := ⟨b2, o2', none⟩) (L := ⟨b2, o2', cap * sz, sz⟩) (by simp) z4 rfl (fun _ => rfl) (fun _ => by simp) (fun h => absurd rfl h)
        rw [hs.s.len] at this
        exact this
      by_cases hroom : n + 1 ≤ c'
      · -- in place
        have hcap : off + (n + 1) * sz ≤ L.ext := by
          have := Nat.mul_le_mul_right sz hroom
          omega
        obtain ⟨rm1, rm2⟩ := hr.room hcap
        have hfv := (hrv.room (k := ov) (n := 1) (by have := hrv.ext; have := hk.pos; omega)).2 0 (by omega)
        rw [Nat.add_zero] at hfv
        have hshv : w.shape? Lv.b = some (ev, Cv.size) := by simp [World.shape?, qv1, hub]
        have hsh : w.shape? L.b = some (ev, C.size) := by simp [World.shape?, q1, hub]
        have hfe : w.frozen? ⟨Lv.b, Cv.size, none⟩ = false := by
          rcases qv2 with ⟨_, h⟩ | h
          · rw [hub] at h; exact absurd h hk.nu8
          · simp only [World.frozen?, qv1]
            by_cases hx : frv.1 ≤ Cv.size
            · have : ¬ Cv.size < frv.2 := by omega
              simp [this]
            · simp [hx]
        have hp0 := Nat.pos_of_ne_zero hk.pos
        refine (hk.shift L.b (L.o + off) n c' j Lv.b (Lv.o + ov) cv' csW vsW w hjn hroom hn6 (fun e => hbne e.symm) hc1 hv1 hc2 rm1 rm2 hv2 o1 o2 ev ev Cv.size C.size hshv hsh (by have := hr.ext; omega) hfv hfe).mono ?_
        rintro e' w' ⟨rfl, rfl⟩
        obtain ⟨C1, m1, m2, m3⟩ := setCells_row (b := L.b) (csW.drop (j * sz)) (L.o + off + (j + 1) * sz) (w := w.drew) q1
        obtain ⟨C2, m4, m5, m6⟩ := setCells_row (b := L.b) vsW (L.o + off + j * sz) m1
        rw [hub] at m4
        obtain ⟨r1, r2, r3⟩ := setCells_rest (w := w.drew) (b := L.b) (csW.drop (j * sz)) (L.o + off + (j + 1) * sz)
        obtain ⟨r4, r5, r6⟩ := setCells_rest (w := w.drew.setCells L.b (L.o + off + (j + 1) * sz) (csW.drop (j * sz))) (b := L.b) vsW (L.o + off + j * sz)
        refine fin _ L.b (L.o + off) c' C2 fr m4 (by rw [m5, m2]; exact q2) (by rw [m5, m2]; omega) hroom hB (fun k hk' hkb => ?_) (by rw [setCells_size, setCells_size]; exact Nat.le_refl _) (by rw [r4, r1]; rfl) (by rw [r5, r2]; rfl) (by rw [r6, r3]; rfl) (fun t u M ht hlu hM => ?_) (fun t ht => ?_)
        · rw [setCells_ne hkb, setCells_ne hkb]; rfl
        · by_cases htk : t = kk
          · subst htk
            rw [List.getElem?_set_self (List.getElem?_eq_some_iff.1 hy1).1] at ht
            injection ht with ht
            subst ht
            cases hlu
          · rw [List.getElem?_set_ne (fun e => htk e.symm)] at ht
            exact fun e => hs.s.sep kk t _ u L M (fun e => htk e.symm) hy1 ht rfl hlu hL hM e.symm
        · rw [m6, m2, hnewW]
          have hCs : L.o + off + (n + 1) * sz ≤ C.size := by omega
          by_cases a1 : t < j * sz
          · rw [if_neg (by omega), m3, if_neg (by omega), List.getElem?_append_left (by rw [List.length_take]; omega), List.getElem?_take_of_lt a1]
            have hlt : t < csW.length := by omega
            have := hc2 t csW[t] (List.getElem?_eq_getElem hlt)
            simp only [World.cell?, q1, Option.isSome_none, Bool.false_eq_true, if_false] at this
            rw [this, List.getElem?_eq_getElem hlt]
          · have htl : (csW.take (j * sz)).length = j * sz := by rw [List.length_take]; omega
            rw [List.getElem?_append_right (by omega), htl]
            by_cases a2 : t < j * sz + sz
            · rw [if_pos ⟨by omega, by omega, by omega⟩, List.getElem?_append_left (by omega)]
              congr 1; omega
            · rw [if_neg (by omega), m3, if_pos ⟨by omega, by rw [List.length_drop]; omega, by show _ < C.size; omega⟩, List.getElem?_append_right (by omega)]
              congr 1; omega
      · -- a new row
        obtain ⟨Gc, ROW, w1, w2, w3⟩ := hk.grow L.b (L.o + off) n c' j Lv.b (Lv.o + ov) cv' csW vsW w hjn hnc (by omega) (by omega) hc1 hv1 hc2 hv2 o1 o2 hr.lt hrv.lt
        refine w3.mono ?_
        rintro e' w' ⟨rfl, hR, rfl⟩
        have hnew : (w.alloc (.cells ROW ev)).drew.heap[w.heap.size]? = some (.cells ROW ev (0, 0)) := by
          show (w.heap.push _)[w.heap.size]? = _
          simp
        obtain ⟨C1, m1, m2, m3⟩ := setCells_row (b := w.heap.size) vsW (j * sz) hnew
        obtain ⟨C2, m4, m5, m6⟩ := setCells_row (b := w.heap.size) (csW.drop (j * sz)) ((j + 1) * sz) (w := ((w.alloc (.cells ROW ev)).drew.setCells w.heap.size (j * sz) vsW).drew) m1
        obtain ⟨r1, r2, r3⟩ := setCells_rest (w := (w.alloc (.cells ROW ev)).drew) (b := w.heap.size) vsW (j * sz)
        obtain ⟨r4, r5, r6⟩ := setCells_rest (w := ((w.alloc (.cells ROW ev)).drew.setCells w.heap.size (j * sz) vsW).drew) (b := w.heap.size) (csW.drop (j * sz)) ((j + 1) * sz)
        refine fin _ w.heap.size 0 Gc C2 (0, 0) m4 (.inr rfl) (by rw [m5, m2, w2]; omega) w1 hs.s.size (fun k hk' hkb => ?_) ?_ (by rw [r4]; exact r1) (by rw [r5]; exact r2) (by rw [r6]; exact r3) (fun t u M ht hlu hM => ?_) (fun t ht => ?_)
        · rw [setCells_ne hkb]
          show (World.setCells _ _ _ _).heap[k]? = _
          rw [setCells_ne hkb]
          exact Below.heap_alloc w _ k hk'
        · rw [setCells_size]
          show w.heap.size ≤ (World.setCells _ _ _ _).heap.size
          rw [setCells_size]
          show w.heap.size ≤ (w.alloc (.cells ROW ev)).heap.size
          rw [World.size_alloc]; omega
        · by_cases htk : t = kk
          · subst htk
            rw [List.getElem?_set_self (List.getElem?_eq_some_iff.1 hy1).1] at ht
            injection ht with ht
            subst ht
            cases hlu
          · rw [List.getElem?_set_ne (fun e => htk e.symm)] at ht
            exact Nat.ne_of_lt ((hs.s.ob t u M ht hM).lt hlu)
        · have hGs := Nat.mul_le_mul_right sz w1
          rw [Nat.zero_add, m6, m2, hnewW]
          by_cases a1 : t < j * sz
          · rw [if_neg (by omega), m3, if_neg (by omega), hR t a1, List.getElem?_append_left (by rw [List.length_take]; omega), List.getElem?_take_of_lt a1]
          · have htl : (csW.take (j * sz)).length = j * sz := by rw [List.length_take]; omega
            rw [List.getElem?_append_right (by omega), htl]
            by_cases a2 : t < j * sz + sz
            · rw [if_neg (by omega), m3, if_pos ⟨by omega, by omega, by omega⟩, List.getElem?_append_left (by omega)]
            · rw [if_pos ⟨by omega, by rw [List.length_drop]; omega, by omega⟩, List.getElem?_append_right (by omega)]
              congr 1; omega
end
end Go.Proofs.Ytmpobijkbmljdaa.Sh.V
namespace Go.Proofs.Ytmpobijkbmljdaa.Sh.Lk
open Go.Proofs.Ytmpobijkbmljdaa.Sh.V
/-! ### Who waits is let in the order in which it came -/
def kA : Key := [97]
def qF : Nat → List Bool → List Wt
  | _, [] => []
  | b, a :: r => ⟨(b : Int), a, false⟩ :: qF (b + 1) r
def wsF : Nat → List Bool → List (Int × Key)
  | _, [] => []
  | b, _ :: r => ((b : Int), kA) :: wsF (b + 1) r
def seqI : Nat → Nat → List Int
  | _, 0 => []
  | b, k + 1 => (b : Int) :: seqI (b + 1) k
def stF (b : Nat) (r : List Bool) (hs : List Int) (only : Bool) : Tb := ⟨[(kA, ⟨hs, only, qF b r⟩)], wsF b r⟩
theorem qF_cons (b : Nat) (a : Bool) (r : List Bool) : qF b (a :: r) = ⟨(b : Int), a, false⟩ :: qF (b + 1) r := rfl
theorem letP_cons (w : Wt) (q : List Wt) (hs : List Int) (only : Bool) (ws : List (Int × Key)) : letP (w :: q) hs only ws = cond (mayP ⟨hs, only, w :: q⟩ w) ((letP q (giveP ⟨hs, only, q⟩ w).hs w.only (cutA ws w.o)).1, (letP q (giveP ⟨hs, only, q⟩ w).hs w.only (cutA ws w.o)).2.1, w.o :: (letP q (giveP ⟨hs, only, q⟩ w).hs w.only (cutA ws w.o)).2.2) (⟨hs, only, w :: q⟩, ws, []) := rfl
theorem qF_len : ∀ (r : List Bool) (b : Nat), (qF b r).length = r.length
  | [], _ => rfl
  | _ :: r, b => by simp [qF, qF_len r]
theorem wsF_len : ∀ (r : List Bool) (b : Nat), (wsF b r).length = r.length
  | [], _ => rfl
  | _ :: r, b => by simp [wsF, wsF_len r]
theorem seqI_len : ∀ (k b : Nat), (seqI b k).length = k
  | 0, _ => rfl
  | k + 1, b => by simp [seqI, seqI_len k]
theorem seqI_get : ∀ (k b i : Nat), i < k → (seqI b k)[i]? = some ((b + i : Nat) : Int)
  | 0, _, i, h => by omega
  | k + 1, b, 0, _ => rfl
  | k + 1, b, i + 1, h => by
    show (seqI (b + 1) k)[i]? = _
    rw [seqI_get k (b + 1) i (by omega), show b + 1 + i = b + (i + 1) by omega]
theorem seqI_mem : ∀ (k b : Nat) (x : Int), x ∈ seqI b k → (b : Int) ≤ x ∧ x < ((b + k : Nat) : Int)
  | 0, _, _, h => by cases h
  | k + 1, b, x, h => by
    rcases List.mem_cons.1 h with rfl | h
    · omega
    · have := seqI_mem k (b + 1) x h; omega
theorem seqI_snoc : ∀ (k b : Nat), seqI b k ++ [((b + k : Nat) : Int)] = seqI b (k + 1)
  | 0, b => rfl
  | k + 1, b => by
    show (b : Int) :: (seqI (b + 1) k ++ _) = _
    rw [show b + (k + 1) = b + 1 + k by omega, seqI_snoc k (b + 1)]; rfl
theorem seqI_sorted : ∀ (k b : Nat), (seqI b k).Pairwise (fun x y => x ≤ y)
  | 0, _ => .nil
  | k + 1, b => by
    rw [seqI, List.pairwise_cons]
    exact ⟨fun y hy => by have := seqI_mem k (b + 1) y hy; omega, seqI_sorted k (b + 1)⟩
theorem qF_app : ∀ (r : List Bool) (b : Nat) (a : Bool), qF b (r ++ [a]) = qF b r ++ [⟨((b + r.length : Nat) : Int), a, false⟩]
  | [], b, a => rfl
  | x :: r, b, a => by
    show _ :: qF (b + 1) (r ++ [a]) = _
    rw [qF_app r (b + 1) a, List.length_cons, show b + (r.length + 1) = b + 1 + r.length by omega]; rfl
theorem wsF_app : ∀ (r : List Bool) (b : Nat) (a : Bool), wsF b (r ++ [a]) = wsF b r ++ [(((b + r.length : Nat) : Int), kA)]
  | [], b, a => rfl
  | x :: r, b, a => by
    show _ :: wsF (b + 1) (r ++ [a]) = _
    rw [wsF_app r (b + 1) a, List.length_cons, show b + (r.length + 1) = b + 1 + r.length by omega]; rfl
theorem wsF_none : ∀ (r : List Bool) (b : Nat) (o : Int), (o < (b : Int) ∨ ((b + r.length : Nat) : Int) ≤ o) → getM (wsF b r) o = none
  | [], _, _, _ => rfl
  | x :: r, b, o, h => by
    show getM (((b : Int), kA) :: wsF (b + 1) r) o = none
    simp only [List.length_cons] at h
    unfold getM
    rw [if_neg (by omega)]
    exact wsF_none r (b + 1) o (by omega)
theorem putI_none {A : Type} {m : List (Int × A)} {k : Int} (h : getM m k = none) (a : A) : putA m k a = m ++ [(k, a)] := by
  induction m with
  | nil => rfl
  | cons p m ih =>
    obtain ⟨k0, a0⟩ := p
    unfold getM at h
    by_cases h1 : k = k0
    · rw [if_pos h1] at h; cases h
    · rw [if_neg h1] at h
      rw [putA, if_neg h1, ih h, List.cons_append]
theorem cutI_none {A : Type} {m : List (Int × A)} {k : Int} (h : getM m k = none) : cutA m k = m := by
  induction m with
  | nil => rfl
  | cons p m ih =>
    obtain ⟨k0, a0⟩ := p
    unfold getM at h
    by_cases h1 : k = k0
    · rw [if_pos h1] at h; cases h
    · rw [if_neg h1] at h
      rw [cutA, if_neg h1, ih h]
theorem lkOf_stF (b : Nat) (r : List Bool) (hs : List Int) (only : Bool) : lkOf (stF b r hs only) kA = ⟨hs, only, qF b r⟩ := by
  unfold lkOf stF getM
  rw [if_pos rfl]; rfl
theorem put_kA (x y : Lk) : putA [(kA, x)] kA y = [(kA, y)] := by unfold putA; rw [if_pos rfl]
theorem cut_kA (x : Lk) : cutA [(kA, x)] kA = [] := by unfold cutA; rw [if_pos rfl]
/-- One that holds it alone; who asks waits. -/
theorem ask_F (r : List Bool) (a : Bool) (hr : r.length < 100) : askP (stF 0 r [100] true) (r.length : Int) kA a = (stF 0 (r ++ [a]) [100] true, false) := by
  unfold askP
  rw [lkOf_stF]
  have hn : getM (stF 0 r [100] true).ws (r.length : Int) = none := wsF_none r 0 _ (.inr (by simp))
  rw [hn]
  simp only
  have hc : ([100] : List Int).contains (r.length : Int) = false := by
    have : (r.length : Int) ≠ 100 := by omega
    simpa [List.contains_cons] using this
  rw [hc]
  have hm : mayP ⟨[100], true, qF 0 r⟩ ⟨(r.length : Int), a, false⟩ = false := by unfold mayP; cases a <;> rfl
  simp only [Bool.false_and, cond_false, hm]
  unfold stF
  rw [put_kA, qF_app, wsF_app, Nat.zero_add, putI_none (wsF_none r 0 _ (.inr (by simp)))]
  unfold insP
  simp only
  rw [atP_false, List.take_length, List.drop_length]
/-- How many share ahead of the first that doesn't. -/
def lead : List Bool → Nat
  | false :: r => lead r + 1
  | _ => 0
theorem lead_drop : ∀ r : List Bool, r.drop (lead r) = [] ∨ ∃ r', r.drop (lead r) = true :: r'
  | [] => .inl rfl
  | true :: r => .inr ⟨r, rfl⟩
  | false :: r => lead_drop r
theorem lead_le : ∀ r : List Bool, lead r ≤ r.length
  | [] => Nat.le_refl _
  | true :: r => Nat.zero_le _
  | false :: r => by have := lead_le r; simp only [lead, List.length_cons]; omega
theorem lead_get : ∀ (r : List Bool) (i : Nat), i < lead r → r[i]? = some false
  | [], i, h => by cases h
  | true :: r, i, h => by cases h
  | false :: r, 0, _ => rfl
  | false :: r, i + 1, h => lead_get r i (by simp only [lead] at h; omega)
theorem cut_wsF (b : Nat) (x : Bool) (r : List Bool) : cutA (wsF b (x :: r)) (b : Int) = wsF (b + 1) r := by
  show cutA (((b : Int), kA) :: wsF (b + 1) r) (b : Int) = _
  unfold cutA
  rw [if_pos rfl]
theorem let_stop {b : Nat} {r : List Bool} {hs : List Int} (hr : r = [] ∨ ∃ r', r = true :: r') (hh : hs ≠ []) (only : Bool) (ws : List (Int × Key)) : letP (qF b r) hs only ws = (⟨hs, only, qF b r⟩, ws, []) := by
  rcases hr with rfl | ⟨r', rfl⟩
  · rfl
  · rw [qF_cons b, letP_cons]
    have hm : mayP ⟨hs, only, ⟨(b : Int), true, false⟩ :: qF (b + 1) r'⟩ ⟨(b : Int), true, false⟩ = false := by
      unfold mayP
      simp only [cond_false, cond_true]
      exact decide_eq_false (fun h => hh (List.eq_nil_of_length_eq_zero h))
    rw [hm]; rfl
theorem let_share : ∀ (r : List Bool) (b : Nat) (hs : List Int), hs ≠ [] → hs.Pairwise (fun x y => x ≤ y) → (∀ x ∈ hs, x < (b : Int)) →
    letP (qF b r) hs false (wsF b r) = (⟨hs ++ seqI b (lead r), false, qF (b + lead r) (r.drop (lead r))⟩, wsF (b + lead r) (r.drop (lead r)), seqI b (lead r))
  | [], b, hs, h0, _, _ => by simp [qF, wsF, letP, lead, seqI]
  | true :: r, b, hs, h0, _, _ => by
    rw [let_stop (.inr ⟨r, rfl⟩) h0]; simp [lead, seqI]
  | false :: r, b, hs, h0, h1, h2 => by
    have hs1 : (hs ++ [(b : Int)]).Pairwise (fun x y => x ≤ y) := by
      rw [List.pairwise_append]
      exact ⟨h1, by simp, fun x hx y hy => by rw [List.mem_singleton] at hy; subst hy; have := h2 x hx; omega⟩
    have ih := let_share r (b + 1) (hs ++ [(b : Int)]) (by simp) hs1 (fun x hx => by
      rcases List.mem_append.1 hx with hx | hx
      · have := h2 x hx; omega
      · rw [List.mem_singleton] at hx; omega)
    rw [qF_cons b, letP_cons]
    have hm : mayP ⟨hs, false, ⟨(b : Int), false, false⟩ :: qF (b + 1) r⟩ ⟨(b : Int), false, false⟩ = true := rfl
    rw [hm]
    simp only [cond_true, giveP, cond_false]
    rw [sortI_id hs1, cut_wsF, ih]
    simp only [lead, List.drop_succ_cons, seqI]
    rw [show b + 1 + lead r = b + (lead r + 1) by omega]
    simp
theorem let_head (r : List Bool) (b : Nat) : letP (qF b r) [] false (wsF b r) = match r with
    | [] => (⟨[], false, []⟩, [], [])
    | true :: r' => (⟨[(b : Int)], true, qF (b + 1) r'⟩, wsF (b + 1) r', [(b : Int)])
    | false :: r' => (⟨seqI b (lead r' + 1), false, qF (b + (lead r' + 1)) (r'.drop (lead r'))⟩, wsF (b + (lead r' + 1)) (r'.drop (lead r')), seqI b (lead r' + 1)) := by
  match r with
  | [] => rfl
  | true :: r' =>
    simp only
    rw [qF_cons b, letP_cons]
    have hm : mayP ⟨[], false, ⟨(b : Int), true, false⟩ :: qF (b + 1) r'⟩ ⟨(b : Int), true, false⟩ = true := rfl
    rw [hm]
    simp only [cond_true, giveP, cond_false, List.nil_append]
    rw [show sortI [(b : Int)] = [(b : Int)] from rfl, cut_wsF]
    match r' with
    | [] => rfl
    | true :: r2 => rw [let_stop (.inr ⟨r2, rfl⟩) (by simp)]
    | false :: r2 =>
      rw [qF_cons (b + 1), letP_cons]
      have hm : mayP ⟨[(b : Int)], true, ⟨((b + 1 : Nat) : Int), false, false⟩ :: qF (b + 1 + 1) r2⟩ ⟨((b + 1 : Nat) : Int), false, false⟩ = false := rfl
      rw [hm]; rfl
  | false :: r' =>
    simp only
    rw [qF_cons b, letP_cons]
    have hm : mayP ⟨[], false, ⟨(b : Int), false, false⟩ :: qF (b + 1) r'⟩ ⟨(b : Int), false, false⟩ = true := rfl
    rw [hm]
    simp only [cond_true, giveP, cond_false, List.nil_append]
    rw [show sortI [(b : Int)] = [(b : Int)] from rfl, cut_wsF, let_share r' (b + 1) [(b : Int)] (by simp) (by simp) (by simp; omega)]
    rw [show b + 1 + lead r' = b + (lead r' + 1) by omega]
    rfl
theorem qF_filter : ∀ (r : List Bool) (b : Nat) (o : Int), (o < (b : Int) ∨ ((b + r.length : Nat) : Int) ≤ o) → (qF b r).filter (·.o != o) = qF b r
  | [], _, _, _ => rfl
  | x :: r, b, o, h => by
    simp only [List.length_cons] at h
    have hne : ((b : Int) != o) = true := by
      have : (b : Int) ≠ o := by omega
      simpa using this
    unfold qF
    rw [List.filter_cons]
    simp only [hne, if_true]
    rw [qF_filter r (b + 1) o (by omega)]
theorem keys_stF (b : Nat) (r : List Bool) (hs : List Int) (only : Bool) : keysP (stF b r hs only) = [kA] := rfl
def nx (b : Nat) (r : List Bool) : Tb × List Int := match r with
    | [] => (⟨[], []⟩, [])
    | true :: r' => (stF (b + 1) r' [(b : Int)] true, [(b : Int)])
    | false :: r' => (stF (b + (lead r' + 1)) (r'.drop (lead r')) (seqI b (lead r' + 1)) false, seqI b (lead r' + 1))
/-- The one that holds it goes. -/
theorem free_one (b : Nat) (r : List Bool) (o : Int) (only : Bool) (ho : o < (b : Int) ∨ ((b + r.length : Nat) : Int) ≤ o) : freeP (stF b r [o] only) o = nx b r := by
  unfold freeP
  rw [keys_stF]
  unfold freeK
  rw [lkOf_stF]
  have hl : leaveP ⟨[o], only, qF b r⟩ o = ⟨[], false, qF b r⟩ := by
    unfold leaveP
    simp only
    rw [qF_filter r b o ho]
    simp
  have hz : freeZ o ⟨[o], only, qF b r⟩ (stF b r [o] only).ws = letP (qF b r) [] false (wsF b r) := by
    unfold freeZ
    rw [hl]
    simp only [List.length_nil, List.length_singleton]
    rw [decide_eq_true (by omega)]; rfl
  rw [hz, let_head]
  match r, ho with
  | [], ho => rfl
  | true :: r', ho =>
    simp only
    unfold freeK freeM
    simp only [List.length_singleton]
    rw [decide_eq_false (by omega), cond_false]
    have : (stF b (true :: r') [o] only).m = [(kA, ⟨[o], only, qF b (true :: r')⟩)] := rfl
    rw [this, put_kA]
    simp only [List.length_cons] at ho
    rw [cutI_none (wsF_none r' (b + 1) o (by omega))]
    rfl
  | false :: r', ho =>
    simp only
    unfold freeK freeM
    simp only [seqI_len]
    rw [decide_eq_false (by omega), cond_false]
    have : (stF b (false :: r') [o] only).m = [(kA, ⟨[o], only, qF b (false :: r')⟩)] := rfl
    rw [this, put_kA]
    simp only [List.length_cons] at ho
    rw [cutI_none (wsF_none _ _ o (by have := lead_le r'; simp only [List.length_drop]; omega)), List.append_nil]
    rfl
/-- One of many that share goes. -/
theorem free_many (b : Nat) (r : List Bool) (a k : Nat) (hr : r = [] ∨ ∃ r', r = true :: r') (hab : a + (k + 2) ≤ b) : freeP (stF b r (seqI a (k + 2)) false) (a : Int) = (stF b r (seqI (a + 1) (k + 1)) false, []) := by
  unfold freeP
  rw [keys_stF]
  unfold freeK
  rw [lkOf_stF]
  have hf : (seqI a (k + 2)).filter (· != (a : Int)) = seqI (a + 1) (k + 1) := by
    show ((a : Int) :: seqI (a + 1) (k + 1)).filter _ = _
    rw [List.filter_cons]
    simp only [bne_self_eq_false, Bool.false_eq_true, if_false]
    rw [List.filter_eq_self]
    intro x hx
    have := seqI_mem _ _ x hx
    have : x ≠ (a : Int) := by omega
    simpa using this
  have hl : leaveP ⟨seqI a (k + 2), false, qF b r⟩ (a : Int) = ⟨seqI (a + 1) (k + 1), false, qF b r⟩ := by
    unfold leaveP
    simp only
    rw [qF_filter r b _ (.inl (by omega)), hf]
    cases (seqI a (k + 2)).contains (a : Int) <;> rfl
  have hz : freeZ (a : Int) ⟨seqI a (k + 2), false, qF b r⟩ (stF b r (seqI a (k + 2)) false).ws = (⟨seqI (a + 1) (k + 1), false, qF b r⟩, wsF b r, []) := by
    unfold freeZ
    rw [hl]
    simp only [seqI_len]
    rw [decide_eq_true (by omega), cond_true]
    exact let_stop hr (by simp [seqI]) false _
  rw [hz]
  simp only
  unfold freeK freeM
  simp only [seqI_len]
  rw [decide_eq_false (by omega), cond_false]
  have : (stF b r (seqI a (k + 2)) false).m = [(kA, ⟨seqI a (k + 2), false, qF b r⟩)] := rfl
  rw [this, put_kA, cutI_none (wsF_none r b _ (.inl (by omega)))]
  rfl
end Go.Proofs.Ytmpobijkbmljdaa.Sh.Lk
namespace Go.Proofs.Ytmpobijkbmljdaa.Sh.Lk
open Go.Proofs.Ytmpobijkbmljdaa.Sh.V
/-! ### Sizes -/
structure NB (N : Nat) (t : Tb) : Prop where
  m : t.m.length ≤ N
  w : t.ws.length ≤ N
  nd : (t.m.map (·.1)).Nodup
  l : ∀ p ∈ t.m, p.2.hs.length + p.2.q.length ≤ N
theorem gM_mem {A : Type} {m : List (Key × A)} {k : Key} {a : A} (h : getM m k = some a) : (k, a) ∈ m := by
  induction m with
  | nil => cases h
  | cons p m ih =>
    obtain ⟨k0, a0⟩ := p
    rw [getM_cons] at h
    by_cases h1 : k = k0
    · rw [if_pos h1] at h; injection h with h; subst h h1; exact List.mem_cons_self ..
    · rw [if_neg h1] at h; exact List.mem_cons_of_mem _ (ih h)
theorem pM_mem {A : Type} {m : List (Key × A)} {k : Key} {a : A} {p : Key × A} (h : p ∈ putA m k a) : p = (k, a) ∨ p ∈ m := by
  induction m with
  | nil => exact .inl (List.mem_singleton.1 h)
  | cons q m ih =>
    obtain ⟨k0, a0⟩ := q
    unfold putA at h
    split at h
    · rcases List.mem_cons.1 h with h | h
      · exact .inl h
      · exact .inr (List.mem_cons_of_mem _ h)
    · rcases List.mem_cons.1 h with h | h
      · exact .inr (h ▸ List.mem_cons_self ..)
      · rcases ih h with h | h
        · exact .inl h
        · exact .inr (List.mem_cons_of_mem _ h)
theorem NB.mono {N M : Nat} {t : Tb} (h : NB N t) (hm : N ≤ M) : NB M t := ⟨Nat.le_trans h.m hm, Nat.le_trans h.w hm, h.nd, fun p hp => Nat.le_trans (h.l p hp) hm⟩
theorem NB.of {N : Nat} {t : Tb} (h : NB N t) (k : Key) : (lkOf t k).hs.length + (lkOf t k).q.length ≤ N := by
  unfold lkOf
  cases hg : getM t.m k with
  | none => exact Nat.zero_le _
  | some x => exact h.l _ (gM_mem hg)
theorem give_len (x : Lk) (w : Wt) : (giveP x w).hs.length ≤ x.hs.length + 1 ∧ (giveP x w).q = x.q := by
  unfold giveP
  cases w.up with
  | true => simp
  | false => simp [sortI_len]
theorem insP_len (q : List Wt) (w : Wt) : (insP q w).length = q.length + 1 := by
  have := atP_le w.up q
  unfold insP
  simp only [List.length_append, List.length_cons, List.length_take, List.length_drop]
  omega
theorem NB.put {N : Nat} {t : Tb} (h : NB N t) (k : Key) (x : Lk) (hx : x.hs.length + x.q.length ≤ N + 1) (ws : List (Int × Key)) (hw : ws.length ≤ N + 1) : NB (N + 1) ⟨putA t.m k x, ws⟩ := by
  refine ⟨?_, hw, nodup_put h.nd k x, fun p hp => ?_⟩
  · have := (len_put t.m k x).2
    have := h.m
    show (putA t.m k x).length ≤ _
    omega
  · rcases pM_mem hp with rfl | hp
    · exact hx
    · have := h.l p hp; omega
theorem NB.ask {N : Nat} {t : Tb} (h : NB N t) (o : Int) (k : Key) (only : Bool) : NB (N + 1) (askP t o k only).1 := by
  have h0 := h.of k
  have hw := h.w
  unfold askP
  cases getM t.ws o with
  | some _ => exact h.mono (by omega)
  | none =>
    simp only
    cases ((lkOf t k).hs.contains o && ((lkOf t k).only || !only)) with
    | true => exact h.put k _ (by omega) _ (by omega)
    | false =>
      simp only [cond_false]
      cases (mayP (lkOf t k) ⟨o, only, (lkOf t k).hs.contains o⟩ && ((lkOf t k).hs.contains o || (lkOf t k).q.isEmpty)) with
      | true =>
        obtain ⟨g1, g2⟩ := give_len (lkOf t k) ⟨o, only, (lkOf t k).hs.contains o⟩
        exact h.put k _ (by rw [g2]; omega) _ (by omega)
      | false => exact h.put k _ (by simp only [insP_len]; omega) _ (by have := (len_put t.ws o k).2; omega)
theorem flen {α : Type} (p : α → Bool) (l : List α) : (l.filter p).length ≤ l.length := List.length_filter_le _ _
theorem let_sz : ∀ (q : List Wt) (hs : List Int) (only : Bool) (ws : List (Int × Key)), (letP q hs only ws).1.hs.length + (letP q hs only ws).1.q.length ≤ hs.length + q.length ∧ (letP q hs only ws).2.1.length ≤ ws.length
  | [], _, _, _ => ⟨Nat.le_refl _, Nat.le_refl _⟩
  | w :: q, hs, only, ws => by
    rw [letP_cons]
    cases mayP ⟨hs, only, w :: q⟩ w with
    | false => simp
    | true =>
      obtain ⟨a, b⟩ := let_sz q (giveP ⟨hs, only, q⟩ w).hs w.only (cutA ws w.o)
      have h2 := (give_len ⟨hs, only, q⟩ w).1
      have h3 := len_cut ws w.o
      simp only at h2
      simp only [cond_true, List.length_cons]
      omega
theorem free_sz (o : Int) (x : Lk) (ws : List (Int × Key)) : (freeZ o x ws).1.hs.length + (freeZ o x ws).1.q.length ≤ x.hs.length + x.q.length ∧ (freeZ o x ws).2.1.length ≤ ws.length := by
  have h1 : (leaveP x o).hs.length ≤ x.hs.length := flen _ _
  have h2 : (leaveP x o).q.length ≤ x.q.length := flen _ _
  unfold freeZ
  cases decide ((leaveP x o).hs.length + (leaveP x o).q.length < x.hs.length + x.q.length) with
  | true =>
    obtain ⟨a, b⟩ := let_sz (leaveP x o).q (leaveP x o).hs (leaveP x o).only ws
    simp only [cond_true]
    omega
  | false => simp only [cond_false]; omega
theorem NB.freeM {N : Nat} {t : Tb} (h : NB N t) (o : Int) (k : Key) : NB N ⟨freeM t.m k (freeZ o (lkOf t k) t.ws).1, (freeZ o (lkOf t k) t.ws).2.1⟩ := by
  obtain ⟨a, b⟩ := free_sz o (lkOf t k) t.ws
  have h0 := h.of k
  have hw := h.w
  unfold Go.Proofs.Ytmpobijkbmljdaa.Sh.Lk.freeM
  cases hd : decide ((freeZ o (lkOf t k) t.ws).1.hs.length + (freeZ o (lkOf t k) t.ws).1.q.length = 0) with
  | true =>
    refine ⟨Nat.le_trans (len_cut _ _) h.m, by simp only; omega, nodup_cut h.nd k, fun p hp => h.l p ((cut_sub _ _).mem hp)⟩
  | false =>
    have hk : k ∈ t.m.map (·.1) := by
      rw [mem_keys]
      intro hn
      have : lkOf t k = lk0 := by unfold lkOf; rw [hn]; rfl
      rw [this] at a hd
      simp only [lk0, List.length_nil] at a
      have := of_decide_eq_false hd
      simp only [lk0] at this
      omega
    have hkeys := keys_put t.m k (freeZ o (lkOf t k) t.ws).1
    rw [if_pos hk] at hkeys
    refine ⟨?_, by simp only; omega, nodup_put h.nd k _, fun p hp => ?_⟩
    · have := congrArg List.length hkeys
      simp only [List.length_map] at this
      show (putA _ _ _).length ≤ N
      have := h.m
      omega
    · rcases pM_mem hp with rfl | hp
      · simp only; omega
      · exact h.l p hp
theorem NB.freeK {N : Nat} (o : Int) : ∀ (ks : List Key) {t : Tb}, NB N t → NB N (freeK o ks t).1
  | [], t, h => h
  | k :: ks, t, h => NB.freeK o ks (h.freeM o k)
theorem NB.free {N : Nat} {t : Tb} (h : NB N t) (o : Int) : NB N (freeP t o).1 := by
  have h1 := NB.freeK o (keysP t) h
  exact ⟨h1.m, Nat.le_trans (len_cut _ _) h1.w, h1.nd, h1.l⟩
theorem NB.zero : NB 0 ⟨[], []⟩ := ⟨Nat.le_refl _, Nat.le_refl _, .nil, fun p hp => by cases hp⟩
/-! ### Going up -/
def askN (only : Bool) : Nat → Int → Tb → Tb
  | 0, _, t => t
  | c + 1, o, t => askN only c (o + 1) (askP t o kA only).1
def upFree (n : Nat) : Nat → Nat → Tb → Option Tb
  | 0, _, t => some t
  | c + 1, i, t => cond ((decide (i < n) && !(freeP t (i : Int)).2.isEmpty) || (decide (i = n) && !decide ((freeP t (i : Int)).2 = [0]))) none (upFree n c (i + 1) (freeP t (i : Int)).1)
def up3 (n k : Nat) : Tb := askN true k 50 (askN false n 1 (askP ⟨[], []⟩ 0 kA false).1)
def upOK (n k : Nat) : Bool :=
  ((askP (up3 n k) 0 kA true).2 == decide (n = 0)) && (match upFree n n 1 (askP (up3 n k) 0 kA true).1 with
    | none => false
    | some t => (lkOf t kA).only && decide ((lkOf t kA).hs = [0]) && decide ((lkOf t kA).q.length = k) && (cond (decide (k = 0)) (decide ((freeP t 0).2.length = 0)) (decide ((freeP t 0).2 = [50]))))
theorem upOK_all : ∀ n < 6, ∀ k < 5, upOK n k = true := by decide +kernel
end Go.Proofs.Ytmpobijkbmljdaa.Sh.Lk
namespace Go.Proofs.Ytmpobijkbmljdaa.Sh.Lk
open Go.Proofs.Ytmpobijkbmljdaa.Sh.V
/-! ### Who holds alone is the only one that holds -/
structure IL (ws : List (Int × Key)) (k : Key) (x : Lk) : Prop where
  a : x.only = true → x.hs.length = 1
  b : x.hs = [] → x.q = []
  c : ∀ w ∈ x.q, getM ws w.o = some k
  d : ∀ w ∈ x.q, w.up = true → w.o ∈ x.hs
  n : (x.q.map (·.o)).Nodup
structure IT (t : Tb) : Prop where
  l : ∀ k, IL t.ws k (lkOf t k)
  m : (t.m.map (·.1)).Nodup
  w : (t.ws.map (·.1)).Nodup
theorem IL.zero (ws : List (Int × Key)) (k : Key) : IL ws k lk0 := ⟨fun h => (by cases h), fun _ => rfl, fun w h => (by cases h), fun w h => (by cases h), .nil⟩
theorem IT.zero : IT ⟨[], []⟩ := ⟨fun k => IL.zero _ _, .nil, .nil⟩
theorem lkOf_put (m : List (Key × Lk)) (ws : List (Int × Key)) (k : Key) (x : Lk) (k' : Key) : lkOf ⟨putA m k x, ws⟩ k' = if k' = k then x else lkOf ⟨m, ws⟩ k' := by
  unfold lkOf
  rw [getM_put]
  split <;> rfl
theorem lkOf_cut {m : List (Key × Lk)} (hm : (m.map (·.1)).Nodup) (ws : List (Int × Key)) (k : Key) (k' : Key) : lkOf ⟨cutA m k, ws⟩ k' = if k' = k then lk0 else lkOf ⟨m, ws⟩ k' := by
  unfold lkOf
  rw [getM_cut hm]
  split <;> rfl
theorem IL.ws {ws ws' : List (Int × Key)} {k : Key} {x : Lk} (h : IL ws k x) (hw : ∀ w ∈ x.q, getM ws' w.o = some k) : IL ws' k x := ⟨h.a, h.b, hw, h.d, h.n⟩
theorem mem_insP {q : List Wt} {w x : Wt} : x ∈ insP q w ↔ x = w ∨ x ∈ q := by
  unfold insP
  constructor
  · intro h
    rcases List.mem_append.1 h with h | h
    · exact .inr (List.mem_of_mem_take h)
    · rcases List.mem_cons.1 h with h | h
      · exact .inl h
      · exact .inr (List.mem_of_mem_drop h)
  · intro h
    rcases h with rfl | h
    · exact List.mem_append.2 (.inr (List.mem_cons_self ..))
    · have : x ∈ q.take (atP w.up q) ++ q.drop (atP w.up q) := by rw [List.take_append_drop]; exact h
      rcases List.mem_append.1 this with h | h
      · exact List.mem_append.2 (.inl h)
      · exact List.mem_append.2 (.inr (List.mem_cons_of_mem _ h))
theorem insP_perm (q : List Wt) (w : Wt) : (insP q w).Perm (w :: q) := by
  unfold insP
  refine List.perm_middle.trans ?_
  rw [List.take_append_drop]
theorem may_give {x : Lk} {w : Wt} (h : mayP x w = true) (hup : w.up = true → w.o ∈ x.hs) : ((giveP x w).only = true → (giveP x w).hs.length = 1) ∧ (giveP x w).hs ≠ [] ∧ (∀ z ∈ x.hs, z ∈ (giveP x w).hs) := by
  unfold mayP at h
  unfold giveP
  cases hu : w.up with
  | true =>
    rw [hu, cond_true] at h
    have h := of_decide_eq_true h
    refine ⟨fun _ => h, fun h0 => ?_, fun z hz => hz⟩
    simp only [cond_true] at h0
    rw [h0] at h; cases h
  | false =>
    rw [hu, cond_false] at h
    refine ⟨fun ho => ?_, fun h0 => ?_, fun z hz => mem_sortI.2 (List.mem_append.2 (.inl hz))⟩
    · simp only at ho
      rw [ho, cond_true] at h
      have h := of_decide_eq_true h
      simp only [cond_false, sortI_len, List.length_append, List.length_singleton]
      omega
    · simp only [cond_false] at h0
      have : w.o ∈ sortI (x.hs ++ [w.o]) := mem_sortI.2 (List.mem_append.2 (.inr (List.mem_singleton.2 rfl)))
      rw [h0] at this; cases this
theorem IT.ask {t : Tb} (h : IT t) (o : Int) (k : Key) (only : Bool) : IT (askP t o k only).1 := by
  have hl := h.l k
  unfold askP
  cases hg : getM t.ws o with
  | some _ => exact h
  | none =>
    simp only
    cases ((lkOf t k).hs.contains o && ((lkOf t k).only || !only)) with
    | true =>
      refine ⟨fun k' => ?_, nodup_put h.m _ _, h.w⟩
      show IL t.ws k' (lkOf ⟨putA t.m k (lkOf t k), t.ws⟩ k')
      rw [lkOf_put]
      split
      · rename_i e; rw [e]; exact h.l k
      · exact h.l k'
    | false =>
      simp only [cond_false]
      cases hc : (mayP (lkOf t k) ⟨o, only, (lkOf t k).hs.contains o⟩ && ((lkOf t k).hs.contains o || (lkOf t k).q.isEmpty)) with
      | true =>
        rw [Bool.and_eq_true] at hc
        obtain ⟨g1, g2, g3⟩ := may_give hc.1 (fun hu => by simpa using hu)
        refine ⟨fun k' => ?_, nodup_put h.m _ _, h.w⟩
        show IL t.ws k' (lkOf ⟨putA t.m k _, t.ws⟩ k')
        rw [lkOf_put]
        split
        · rename_i e
          rw [e]
          exact ⟨g1, fun h0 => absurd h0 g2, hl.c, fun w hw hu => g3 _ (hl.d w hw hu), hl.n⟩
        · exact h.l k'
      | false =>
        have hno : ∀ k', ∀ w ∈ (lkOf t k').q, w.o ≠ o := fun k' w hw e => by
          have := (h.l k').c w hw
          rw [e, hg] at this; cases this
        refine ⟨fun k' => ?_, nodup_put h.m _ _, nodup_put h.w _ _⟩
        show IL (putA t.ws o k) k' (lkOf ⟨putA t.m k _, putA t.ws o k⟩ k')
        rw [lkOf_put]
        split
        · rename_i e
          rw [e]
          refine ⟨hl.a, fun h0 => ?_, fun w hw => ?_, fun w hw hu => ?_, ?_⟩
          · exfalso
            have h0 : (lkOf t k).hs = [] := h0
            have hq := hl.b h0
            have ho : (lkOf t k).only = false := by
              cases hoo : (lkOf t k).only with
              | false => rfl
              | true => have := hl.a hoo; rw [h0] at this; cases this
            rw [h0, hq] at hc
            unfold mayP at hc
            rw [h0, ho] at hc
            cases only <;> cases hc
          · rw [getM_put]
            rcases mem_insP.1 hw with rfl | hw
            · rw [if_pos rfl]
            · rw [if_neg (hno k w hw)]; exact hl.c w hw
          · rcases mem_insP.1 hw with rfl | hw
            · simpa using hu
            · exact hl.d w hw hu
          · refine ((insP_perm _ _).map _).nodup_iff.2 ?_
            rw [List.map_cons, List.nodup_cons]
            refine ⟨fun hm => ?_, hl.n⟩
            obtain ⟨w, hw, e⟩ := List.mem_map.1 hm
            exact hno k w hw e
        · refine (h.l k').ws (fun w hw => ?_)
          rw [getM_put, if_neg (hno k' w hw)]
          exact (h.l k').c w hw
/-! Letting -/
theorem let_il (k : Key) : ∀ (q : List Wt) (hs : List Int) (only : Bool) (ws : List (Int × Key)), (ws.map (·.1)).Nodup → (only = true → hs.length = 1) → (∀ w ∈ q, getM ws w.o = some k) → (∀ w ∈ q, w.up = true → w.o ∈ hs) → (q.map (·.o)).Nodup →
    IL (letP q hs only ws).2.1 k (letP q hs only ws).1 ∧ ((letP q hs only ws).2.1.map (·.1)).Nodup ∧ (∀ w ∈ (letP q hs only ws).1.q, w ∈ q) ∧ (∀ o' k', k' ≠ k → getM ws o' = some k' → getM (letP q hs only ws).2.1 o' = some k')
  | [], hs, only, ws, hn, ha, hc, hd, hnd => ⟨⟨ha, fun _ => rfl, fun w hw => (by cases hw), fun w hw => (by cases hw), .nil⟩, hn, fun w hw => hw, fun o' k' _ h => h⟩
  | w :: q, hs, only, ws, hn, ha, hc, hd, hnd => by
    rw [letP_cons]
    cases hm : mayP ⟨hs, only, w :: q⟩ w with
    | false =>
      refine ⟨⟨ha, fun h0 => ?_, hc, hd, hnd⟩, hn, fun w hw => hw, fun o' k' _ h => h⟩
      exfalso
      have h0 : hs = [] := h0
      subst h0
      have ho : only = false := by
        cases only with
        | false => rfl
        | true => have := ha rfl; cases this
      subst ho
      have hu : w.up = false := by
        cases hu : w.up with
        | false => rfl
        | true => have := hd w (List.mem_cons_self ..) hu; cases this
      unfold mayP at hm
      rw [hu] at hm
      cases h3 : w.only <;> rw [h3] at hm <;> cases hm
    | true =>
      simp only [cond_true]
      rw [List.map_cons, List.nodup_cons] at hnd
      obtain ⟨g1, g2, g3⟩ := may_give (x := ⟨hs, only, q⟩) (w := w) hm (hd w (List.mem_cons_self ..))
      obtain ⟨r1, r2, r3, r4⟩ := let_il k q (giveP ⟨hs, only, q⟩ w).hs w.only (cutA ws w.o) (nodup_cut hn _) g1 (fun z hz => by
        rw [getM_cut hn, if_neg (fun e => hnd.1 (List.mem_map.2 ⟨z, hz, e⟩))]
        exact hc z (List.mem_cons_of_mem _ hz)) (fun z hz hu => g3 _ (hd z (List.mem_cons_of_mem _ hz) hu)) hnd.2
      refine ⟨r1, r2, fun z hz => List.mem_cons_of_mem _ (r3 z hz), fun o' k' hk hg => r4 o' k' hk ?_⟩
      rw [getM_cut hn, if_neg (fun e => ?_)]
      · exact hg
      · have := hc w (List.mem_cons_self ..)
        rw [← e, hg] at this
        injection this with this
        exact hk this
theorem free_il {ws : List (Int × Key)} {k : Key} {x : Lk} (h : IL ws k x) (hn : (ws.map (·.1)).Nodup) (o : Int) :
    IL (freeZ o x ws).2.1 k (freeZ o x ws).1 ∧ ((freeZ o x ws).2.1.map (·.1)).Nodup ∧ (∀ w ∈ (freeZ o x ws).1.q, w.o ≠ o) ∧ (∀ o' k', k' ≠ k → getM ws o' = some k' → getM (freeZ o x ws).2.1 o' = some k') := by
  have hA : (leaveP x o).only = true → (leaveP x o).hs.length = 1 := by
    unfold leaveP
    simp only
    cases hc : x.hs.contains o with
    | true => intro h; cases h
    | false =>
      intro h1
      simp only [cond_false] at h1
      rw [List.filter_eq_self.2 (fun z hz => ?_)]
      · exact h.a h1
      · have : z ≠ o := fun e => by
          rw [e] at hz
          have : x.hs.contains o = true := by simpa using hz
          rw [hc] at this; cases this
        simpa using this
  have hq : ∀ w ∈ (leaveP x o).q, w ∈ x.q ∧ w.o ≠ o := fun w hw => by
    have := List.mem_filter.1 hw
    exact ⟨this.1, by simpa using this.2⟩
  have hC : ∀ w ∈ (leaveP x o).q, getM ws w.o = some k := fun w hw => h.c w (hq w hw).1
  have hD : ∀ w ∈ (leaveP x o).q, w.up = true → w.o ∈ (leaveP x o).hs := fun w hw hu => by
    obtain ⟨h1, h2⟩ := hq w hw
    exact List.mem_filter.2 ⟨h.d w h1 hu, by simpa using h2⟩
  have hN : ((leaveP x o).q.map (·.o)).Nodup := h.n.sublist (List.filter_sublist.map _)
  unfold freeZ
  cases hd : decide ((leaveP x o).hs.length + (leaveP x o).q.length < x.hs.length + x.q.length) with
  | true =>
    rw [cond_true]
    obtain ⟨r1, r2, r3, r4⟩ := let_il k (leaveP x o).q (leaveP x o).hs (leaveP x o).only ws hn hA hC hD hN
    exact ⟨r1, r2, fun w hw => (hq w (r3 w hw)).2, r4⟩
  | false =>
    rw [cond_false]
    have hd := of_decide_eq_false hd
    refine ⟨⟨hA, fun h0 => ?_, hC, hD, hN⟩, hn, fun w hw => (hq w hw).2, fun o' k' _ h => h⟩
    have h1 : (leaveP x o).hs.length ≤ x.hs.length := flen _ _
    have h2 : (leaveP x o).q.length ≤ x.q.length := flen _ _
    rw [h0] at hd h1
    simp only [List.length_nil] at hd h1
    have : x.hs = [] := List.eq_nil_of_length_eq_zero (by omega)
    have := h.b this
    refine List.eq_nil_of_length_eq_zero ?_
    rw [this] at h2
    simpa using h2
theorem lkOf_freeM {m : List (Key × Lk)} (hm : (m.map (·.1)).Nodup) (ws : List (Int × Key)) (k : Key) (x : Lk) (k' : Key) : lkOf ⟨freeM m k x, ws⟩ k' = (if k' = k then (if x.hs.length + x.q.length = 0 then lk0 else x) else lkOf ⟨m, ws⟩ k') := by
  unfold freeM
  cases hd : decide (x.hs.length + x.q.length = 0) with
  | true => rw [cond_true, lkOf_cut hm, if_pos (of_decide_eq_true hd)]
  | false => rw [cond_false, lkOf_put, if_neg (of_decide_eq_false hd)]
theorem nodup_freeM {m : List (Key × Lk)} (hm : (m.map (·.1)).Nodup) (k : Key) (x : Lk) : ((freeM m k x).map (·.1)).Nodup := by
  unfold freeM
  cases decide (x.hs.length + x.q.length = 0) with
  | true => exact nodup_cut hm k
  | false => exact nodup_put hm k x
theorem IT.freeK (o : Int) : ∀ (ks : List Key) {t : Tb}, IT t → (∀ k, k ∉ ks → ∀ w ∈ (lkOf t k).q, w.o ≠ o) → IT (freeK o ks t).1 ∧ ∀ k, ∀ w ∈ (lkOf (Go.Proofs.Ytmpobijkbmljdaa.Sh.Lk.freeK o ks t).1 k).q, w.o ≠ o
  | [], t, h, hk => ⟨h, fun k => hk k (by simp)⟩
  | k :: ks, t, h, hk => by
    obtain ⟨r1, r2, r3, r4⟩ := free_il (h.l k) h.w o
    have e : ∀ k', lkOf ⟨freeM t.m k (freeZ o (lkOf t k) t.ws).1, (freeZ o (lkOf t k) t.ws).2.1⟩ k' = (if k' = k then (if (freeZ o (lkOf t k) t.ws).1.hs.length + (freeZ o (lkOf t k) t.ws).1.q.length = 0 then lk0 else (freeZ o (lkOf t k) t.ws).1) else lkOf t k') := fun k' => lkOf_freeM h.m _ k _ k'
    refine IT.freeK o ks (t := ⟨freeM t.m k (freeZ o (lkOf t k) t.ws).1, (freeZ o (lkOf t k) t.ws).2.1⟩) ⟨fun k' => ?_, nodup_freeM h.m _ _, r2⟩ (fun k' hk' w hw => ?_)
    · rw [e]
      by_cases h1 : k' = k
      · rw [if_pos h1, h1]
        split
        · exact IL.zero _ _
        · exact r1
      · rw [if_neg h1]
        exact (h.l k').ws (fun w hw => r4 _ _ h1 ((h.l k').c w hw))
    · rw [e] at hw
      by_cases h1 : k' = k
      · rw [if_pos h1] at hw
        split at hw
        · cases hw
        · exact r3 w hw
      · rw [if_neg h1] at hw
        exact hk k' (fun hm => by
          rcases List.mem_cons.1 hm with h2 | h2
          · exact h1 h2
          · exact hk' h2) w hw
theorem IT.free {t : Tb} (h : IT t) (o : Int) : IT (freeP t o).1 := by
  obtain ⟨r1, r2⟩ := IT.freeK o (keysP t) h (fun k hk w hw => by
    have hn : getM t.m k = none := getM_none (fun hm => hk ((sortK_perm _).mem_iff.2 hm))
    unfold lkOf at hw
    rw [hn] at hw
    cases hw)
  refine ⟨fun k => ?_, r1.m, nodup_cut r1.w _⟩
  show IL (cutA (Go.Proofs.Ytmpobijkbmljdaa.Sh.Lk.freeK o (keysP t) t).1.ws o) k (lkOf (Go.Proofs.Ytmpobijkbmljdaa.Sh.Lk.freeK o (keysP t) t).1 k)
  refine (r1.l k).ws (fun w hw => ?_)
  rw [getM_cut r1.w, if_neg (r2 k w hw)]
  exact (r1.l k).c w hw
theorem findO_mem {w : Wt} : ∀ {q : List Wt}, w ∈ q → ∃ z, findO w.o q = some z
  | y :: q, h => by
    unfold findO
    by_cases e : y.o = w.o
    · exact ⟨y, by rw [decide_eq_true e]; rfl⟩
    · rw [decide_eq_false e, cond_false]
      rcases List.mem_cons.1 h with rfl | h
      · exact absurd rfl e
      · exact findO_mem h
theorem IT.waits {t : Tb} (h : IT t) {k : Key} {w : Wt} (hw : w ∈ (lkOf t k).q) : ∃ only, waitsP t w.o = some (k, only) := by
  obtain ⟨z, hz⟩ := findO_mem hw
  refine ⟨z.only, ?_⟩
  unfold waitsP
  rw [(h.l k).c w hw]
  simp only
  rw [hz]; rfl
end Go.Proofs.Ytmpobijkbmljdaa.Sh.Lk
namespace Go.Proofs.Ytmpobijkbmljdaa.Sh.Lk
open Go.Proofs.Ytmpobijkbmljdaa.Sh.V
/-! ### Who waits is kept by somebody -/
structure XL (S : List Int) (x : Lk) : Prop where
  nd : x.hs.Nodup
  uo : ∀ w ∈ x.q, w.up = true → w.only = true
  nu : ∀ w ∈ x.q, w.up = false → w.o ∉ x.hs
  hd : ∀ w r, x.q = w :: r → mayP x w = false
  sh : ∀ o ∈ x.hs, o ∈ S
  sq : ∀ w ∈ x.q, w.o ∈ S
theorem XL.zero (S : List Int) : XL S lk0 := ⟨.nil, fun w h => (by cases h), fun w h => (by cases h), fun w r h => (by cases h), fun w h => (by cases h), fun w h => (by cases h)⟩
theorem may_q (x : Lk) (q q' : List Wt) (w : Wt) : mayP ⟨x.hs, x.only, q⟩ w = mayP ⟨x.hs, x.only, q'⟩ w := rfl
theorem give_mem {x : Lk} {w : Wt} {z : Int} (h : z ∈ (giveP x w).hs) : z ∈ x.hs ∨ z = w.o := by
  unfold giveP at h
  cases hu : w.up with
  | true => rw [hu] at h; exact .inl h
  | false =>
    rw [hu] at h
    have h : z ∈ x.hs ++ [w.o] := mem_sortI.1 h
    rcases List.mem_append.1 h with h | h
    · exact .inl h
    · exact .inr (List.mem_singleton.1 h)
theorem give_nd {x : Lk} {w : Wt} (h : x.hs.Nodup) (hn : w.up = false → w.o ∉ x.hs) : (giveP x w).hs.Nodup := by
  unfold giveP
  cases hu : w.up with
  | true => exact h
  | false =>
    refine (sortI_perm (x.hs ++ [w.o])).nodup_iff.2 ?_
    rw [List.nodup_append]
    exact ⟨h, by simp, fun a ha b hb e => by rw [List.mem_singleton.1 hb] at e; exact hn hu (by rw [← e]; exact ha)⟩
/-- Of letting: the parts that hold of any list. -/
theorem let_xl (S : List Int) : ∀ (q : List Wt) (hs : List Int) (only : Bool) (ws : List (Int × Key)), hs.Nodup → (∀ w ∈ q, w.up = true → w.only = true) → (∀ w ∈ q, w.up = false → w.o ∉ hs) → (q.map (·.o)).Nodup → (∀ o ∈ hs, o ∈ S) → (∀ w ∈ q, w.o ∈ S) → XL S (letP q hs only ws).1
  | [], hs, only, ws, h1, h2, h3, h4, h5, h6 => ⟨h1, fun w hw => (by cases hw), fun w hw => (by cases hw), fun w r h => (by cases h), h5, fun w hw => (by cases hw)⟩
  | w :: q, hs, only, ws, h1, h2, h3, h4, h5, h6 => by
    rw [letP_cons]
    cases hm : mayP ⟨hs, only, w :: q⟩ w with
    | false =>
      refine ⟨h1, h2, h3, fun w' r h => ?_, h5, h6⟩
      have h : w :: q = w' :: r := h
      injection h with h h'
      subst h h'
      exact hm
    | true =>
      simp only [cond_true]
      rw [List.map_cons, List.nodup_cons] at h4
      refine let_xl S q _ _ _ (give_nd h1 (h3 w (List.mem_cons_self ..))) (fun z hz => h2 z (List.mem_cons_of_mem _ hz)) (fun z hz hu hm' => ?_) h4.2 (fun o ho => ?_) (fun z hz => h6 z (List.mem_cons_of_mem _ hz))
      · rcases give_mem hm' with h | h
        · exact h3 z (List.mem_cons_of_mem _ hz) hu h
        · exact h4.1 (List.mem_map.2 ⟨z, hz, h⟩)
      · rcases give_mem ho with h | h
        · exact h5 o h
        · rw [h]; exact h6 w (List.mem_cons_self ..)
theorem freeZ_xl {S : List Int} {ws ws' : List (Int × Key)} {k : Key} {x : Lk} (hi : IL ws' k x) (h : XL S x) (o : Int) : XL S (freeZ o x ws).1 := by
  have hq : ∀ w ∈ (leaveP x o).q, w ∈ x.q := fun w hw => (List.mem_filter.1 hw).1
  have hh : ∀ z ∈ (leaveP x o).hs, z ∈ x.hs := fun z hz => (List.mem_filter.1 hz).1
  have n1 : (leaveP x o).hs.Nodup := h.nd.sublist List.filter_sublist
  have n2 : ∀ w ∈ (leaveP x o).q, w.up = false → w.o ∉ (leaveP x o).hs := fun w hw hu hm => h.nu w (hq w hw) hu (hh _ hm)
  have n3 : ((leaveP x o).q.map (·.o)).Nodup := hi.n.sublist (List.filter_sublist.map _)
  unfold freeZ
  cases hd : decide ((leaveP x o).hs.length + (leaveP x o).q.length < x.hs.length + x.q.length) with
  | true =>
    rw [cond_true]
    exact let_xl S _ _ _ _ n1 (fun w hw => h.uo w (hq w hw)) n2 n3 (fun z hz => h.sh z (hh z hz)) (fun w hw => h.sq w (hq w hw))
  | false =>
    rw [cond_false]
    have hd := of_decide_eq_false hd
    have l1 : (leaveP x o).hs.length ≤ x.hs.length := flen _ _
    have l2 : (leaveP x o).q.length ≤ x.q.length := flen _ _
    have e1 : (leaveP x o).hs = x.hs := List.filter_sublist.eq_of_length (by
      have : (x.hs.filter (· != o)).length = (leaveP x o).hs.length := rfl
      omega)
    have e2 : (leaveP x o).q = x.q := List.filter_sublist.eq_of_length (by
      have : (x.q.filter (·.o != o)).length = (leaveP x o).q.length := rfl
      omega)
    have e3 : (leaveP x o).only = x.only := by
      have hc : x.hs.contains o = false := by
        cases hc : x.hs.contains o with
        | false => rfl
        | true =>
          have ho : o ∈ x.hs := by simpa using hc
          rw [← e1] at ho
          have := (List.mem_filter.1 ho).2
          simp at this
      unfold leaveP
      simp only
      rw [hc, cond_false]
    refine ⟨n1, fun w hw => h.uo w (hq w hw), n2, fun w r hw => ?_, fun z hz => h.sh z (hh z hz), fun w hw => h.sq w (hq w hw)⟩
    rw [e2] at hw
    have := h.hd w r hw
    have e : leaveP x o = x := by
      have : leaveP x o = ⟨(leaveP x o).hs, (leaveP x o).only, (leaveP x o).q⟩ := rfl
      rw [this, e1, e2, e3]
    rw [e]
    exact this
def XT (S : List Int) (t : Tb) : Prop := ∀ k, XL S (lkOf t k)
theorem XT.freeK {S : List Int} (o : Int) : ∀ (ks : List Key) {t : Tb}, IT t → (∀ k, k ∉ ks → ∀ w ∈ (lkOf t k).q, w.o ≠ o) → XT S t → XT S (Go.Proofs.Ytmpobijkbmljdaa.Sh.Lk.freeK o ks t).1
  | [], t, _, _, h => h
  | k :: ks, t, hi, hk, h => by
    obtain ⟨r1, r2, r3, r4⟩ := free_il (hi.l k) hi.w o
    have e : ∀ k', lkOf ⟨freeM t.m k (freeZ o (lkOf t k) t.ws).1, (freeZ o (lkOf t k) t.ws).2.1⟩ k' = (if k' = k then (if (freeZ o (lkOf t k) t.ws).1.hs.length + (freeZ o (lkOf t k) t.ws).1.q.length = 0 then lk0 else (freeZ o (lkOf t k) t.ws).1) else lkOf t k') := fun k' => lkOf_freeM hi.m _ k _ k'
    have hi1 : IT ⟨freeM t.m k (freeZ o (lkOf t k) t.ws).1, (freeZ o (lkOf t k) t.ws).2.1⟩ := by
      refine ⟨fun k' => ?_, nodup_freeM hi.m _ _, r2⟩
      rw [e]
      by_cases h1 : k' = k
      · rw [if_pos h1, h1]
        split
        · exact IL.zero _ _
        · exact r1
      · rw [if_neg h1]
        exact (hi.l k').ws (fun w hw => r4 _ _ h1 ((hi.l k').c w hw))
    refine XT.freeK o ks hi1 (fun k' hk' w hw => ?_) (fun k' => ?_)
    · rw [e] at hw
      by_cases h1 : k' = k
      · rw [if_pos h1] at hw
        split at hw
        · cases hw
        · exact r3 w hw
      · rw [if_neg h1] at hw
        exact hk k' (fun hm => by
          rcases List.mem_cons.1 hm with h2 | h2
          · exact h1 h2
          · exact hk' h2) w hw
    · rw [e]
      by_cases h1 : k' = k
      · rw [if_pos h1]
        split
        · exact XL.zero S
        · exact freeZ_xl (hi.l k) (h k) o
      · rw [if_neg h1]; exact h k'
theorem free_keys (t : Tb) (o : Int) : ∀ k, k ∉ keysP t → ∀ w ∈ (lkOf t k).q, w.o ≠ o := fun k hk w hw => by
  have hn : getM t.m k = none := getM_none (fun hm => hk ((sortK_perm _).mem_iff.2 hm))
  unfold lkOf at hw
  rw [hn] at hw
  cases hw
theorem XT.free {S : List Int} {t : Tb} (hi : IT t) (h : XT S t) (o : Int) : XT S (freeP t o).1 := XT.freeK o (keysP t) hi (free_keys t o) h
theorem XT.zero (S : List Int) : XT S ⟨[], []⟩ := fun k => XL.zero S
theorem XT.ask {S : List Int} {t : Tb} (hi : IT t) (h : XT S t) (o : Int) (ho : o ∈ S) (k : Key) (only : Bool) : XT S (askP t o k only).1 := by
  have hk := h k
  have hik := hi.l k
  unfold askP
  cases hg : getM t.ws o with
  | some _ => exact h
  | none =>
    have hno : ∀ w ∈ (lkOf t k).q, w.o ≠ o := fun w hw e => by
      have := hik.c w hw
      rw [e, hg] at this; cases this
    have put : ∀ (x : Lk) (ws : List (Int × Key)), XL S x → XT S ⟨putA t.m k x, ws⟩ := fun x ws hx k' => by
      rw [lkOf_put]
      split
      · exact hx
      · exact h k'
    simp only
    cases hcc : ((lkOf t k).hs.contains o && ((lkOf t k).only || !only)) with
    | true => exact put _ _ hk
    | false =>
      simp only [cond_false]
      have hup : (lkOf t k).hs.contains o = true → only = true := fun hc => by
        rw [hc, Bool.true_and] at hcc
        cases only with
        | true => rfl
        | false => simp at hcc
      have hnu : (lkOf t k).hs.contains o = false → o ∉ (lkOf t k).hs := fun hc hm => by
        have : (lkOf t k).hs.contains o = true := by simpa using hm
        rw [hc] at this; cases this
      cases hc : (mayP (lkOf t k) ⟨o, only, (lkOf t k).hs.contains o⟩ && ((lkOf t k).hs.contains o || (lkOf t k).q.isEmpty)) with
      | true =>
        rw [Bool.and_eq_true] at hc
        obtain ⟨c1, c2⟩ := hc
        refine put _ _ ⟨give_nd hk.nd (fun hu => hnu hu), hk.uo, fun w hw hu hm => ?_, fun w r hw => ?_, fun z hz => ?_, hk.sq⟩
        · rcases give_mem hm with h1 | h1
          · exact hk.nu w hw hu h1
          · exact hno w hw h1
        · have hw : (lkOf t k).q = w :: r := hw
          have hb := hk.hd w r hw
          have hu : (lkOf t k).hs.contains o = true := by
            rw [hw] at c2
            simpa using c2
          have honly := hup hu
          unfold mayP at c1 hb ⊢
          simp only [hu, cond_true] at c1
          have c1 := of_decide_eq_true c1
          unfold giveP
          simp only [hu, cond_true, honly]
          cases hwu : w.up with
          | true =>
            rw [hwu, cond_true] at hb
            exact absurd c1 (of_decide_eq_false hb)
          | false =>
            cases w.only with
            | true => simp only [cond_false, cond_true]; exact decide_eq_false (by omega)
            | false => rfl
        · rcases give_mem hz with h1 | h1
          · exact hk.sh z h1
          · rw [h1]; exact ho
      | false =>
        refine put _ _ ⟨hk.nd, fun w hw hu => ?_, fun w hw hu => ?_, fun w r hw => ?_, hk.sh, fun w hw => ?_⟩
        · rcases mem_insP.1 hw with rfl | hw
          · exact hup hu
          · exact hk.uo w hw hu
        · rcases mem_insP.1 hw with rfl | hw
          · exact hnu hu
          · exact hk.nu w hw hu
        · -- the head is the new one, or as before
          have hw : insP (lkOf t k).q ⟨o, only, (lkOf t k).hs.contains o⟩ = w :: r := hw
          rw [Bool.and_eq_false_iff] at hc
          cases hqq : (lkOf t k).q with
          | nil =>
            rw [hqq] at hw hc
            have : insP [] ⟨o, only, (lkOf t k).hs.contains o⟩ = [⟨o, only, (lkOf t k).hs.contains o⟩] := by
              unfold insP
              simp [atP]
            rw [this] at hw
            injection hw with hw _
            rw [← hw]
            rcases hc with hc | hc
            · exact hc
            · simp at hc
          | cons y q' =>
            have hy := hk.hd y q' hqq
            rw [hqq] at hw hc
            cases hu : (lkOf t k).hs.contains o with
            | false =>
              rw [hu] at hw
              unfold insP at hw
              simp only [atP, Bool.not_false, Bool.true_or, cond_true, List.take_succ_cons, List.cons_append] at hw
              injection hw with hw _
              rw [← hw]
              exact hy
            | true =>
              rw [hu] at hw hc
              cases hyu : y.up with
              | true =>
                unfold insP at hw
                simp only [atP, hyu, Bool.or_true, cond_true, List.take_succ_cons, List.cons_append] at hw
                injection hw with hw _
                rw [← hw]
                exact hy
              | false =>
                unfold insP at hw
                simp only [atP, hyu, Bool.not_true, Bool.or_false, cond_false, List.take_zero, List.nil_append, List.drop_zero] at hw
                injection hw with hw _
                rw [← hw]
                rcases hc with hc | hc
                · exact hc
                · simp at hc
        · rcases mem_insP.1 hw with rfl | hw
          · exact ho
          · exact hk.sq w hw
end Go.Proofs.Ytmpobijkbmljdaa.Sh.Lk
namespace Go.Proofs.Ytmpobijkbmljdaa.Sh.Lk
open Go.Proofs.Ytmpobijkbmljdaa.Sh.V
/-! ### Who waits for whom -/
theorem mem_dedup : ∀ {l : List Int} {x : Int}, x ∈ dedupI l ↔ x ∈ l
  | [], x => Iff.rfl
  | [a], x => Iff.rfl
  | a :: b :: l, x => by
    unfold dedupI
    have ih := mem_dedup (l := b :: l) (x := x)
    by_cases h : a = b
    · rw [decide_eq_true h, cond_true, ih, List.mem_cons, List.mem_cons, List.mem_cons, h]
      constructor
      · exact fun h => .inr h
      · rintro (h | h)
        · exact .inl h
        · exact h
    · rw [decide_eq_false h, cond_false, List.mem_cons, ih, List.mem_cons (a := x) (b := a)]
theorem dedup_lt : ∀ {l : List Int}, l.Pairwise (fun a b => a ≤ b) → (dedupI l).Pairwise (fun a b => a < b)
  | [], _ => .nil
  | [a], _ => by simp [dedupI]
  | a :: b :: l, h => by
    rw [List.pairwise_cons] at h
    unfold dedupI
    have ih := dedup_lt h.2
    by_cases e : a = b
    · rw [decide_eq_true e, cond_true]; exact ih
    · rw [decide_eq_false e, cond_false, List.pairwise_cons]
      refine ⟨fun z hz => ?_, ih⟩
      have hz := mem_dedup.1 hz
      have hab := h.1 b (List.mem_cons_self ..)
      have hbz : b ≤ z := by
        rcases List.mem_cons.1 hz with rfl | hz
        · exact Int.le_refl _
        · exact (List.pairwise_cons.1 h.2).1 z hz
      omega
theorem dedup_nd {l : List Int} (h : l.Pairwise (fun a b => a ≤ b)) : (dedupI l).Nodup := (dedup_lt h).imp (fun h e => by omega)
theorem ahead_nd (t : Tb) (o : Int) : (aheadP t o).Nodup := by
  unfold aheadP
  cases waitsP t o with
  | none => exact .nil
  | some kw => exact dedup_nd (sortI_sorted _)
/-- Of one lock: a waits in it, and b holds it or stands ahead. -/
def EdL (x : Lk) (a b : Int) : Prop := ∃ w ∈ x.q, w.o = a ∧ ((b ∈ x.hs ∧ b ≠ a ∧ (w.only = true ∨ x.only = true)) ∨ b ∈ aheadQ a x.q)
theorem findO_o {o : Int} : ∀ {q : List Wt} {w : Wt}, findO o q = some w → w ∈ q ∧ w.o = o
  | y :: q, w, h => by
    unfold findO at h
    by_cases e : y.o = o
    · rw [decide_eq_true e] at h
      injection h with h
      subst h
      exact ⟨List.mem_cons_self .., e⟩
    · rw [decide_eq_false e, cond_false] at h
      obtain ⟨h1, h2⟩ := findO_o h
      exact ⟨List.mem_cons_of_mem _ h1, h2⟩
theorem same_o : ∀ {q : List Wt} {w w' : Wt}, (q.map (·.o)).Nodup → w ∈ q → w' ∈ q → w.o = w'.o → w = w'
  | y :: q, w, w', hn, h, h', e => by
    rw [List.map_cons, List.nodup_cons] at hn
    rcases List.mem_cons.1 h with h | h
    · rcases List.mem_cons.1 h' with h' | h'
      · rw [h, h']
      · exact absurd (List.mem_map.2 ⟨w', h', by rw [← e, h]⟩) hn.1
    · rcases List.mem_cons.1 h' with h' | h'
      · exact absurd (List.mem_map.2 ⟨w, h, by rw [e, h']⟩) hn.1
      · exact same_o hn.2 h h' e
theorem ahead_iff {t : Tb} (hi : IT t) (a b : Int) : b ∈ aheadP t a ↔ ∃ k, EdL (lkOf t k) a b := by
  constructor
  · intro h
    unfold aheadP at h
    cases hw : waitsP t a with
    | none => rw [hw] at h; cases h
    | some kw =>
      obtain ⟨k, only⟩ := kw
      rw [hw] at h
      have h := mem_sortI.1 (mem_dedup.1 h)
      unfold waitsP at hw
      cases hg : getM t.ws a with
      | none => rw [hg] at hw; cases hw
      | some k' =>
        rw [hg] at hw
        simp only [Option.map_eq_some_iff] at hw
        obtain ⟨w, h1, h2⟩ := hw
        injection h2 with h2 h3
        subst h2 h3
        obtain ⟨g1, g2⟩ := findO_o h1
        refine ⟨k', w, g1, g2, ?_⟩
        rcases List.mem_append.1 h with h | h
        · obtain ⟨m1, m2⟩ := List.mem_filter.1 h
          rw [Bool.and_eq_true, Bool.or_eq_true] at m2
          exact .inl ⟨m1, by simpa using m2.1, m2.2⟩
        · exact .inr h
  · rintro ⟨k, w, h1, h2, h3⟩
    have hc := (hi.l k).c w h1
    rw [h2] at hc
    obtain ⟨z, hz⟩ := findO_mem h1
    rw [h2] at hz
    obtain ⟨g1, g2⟩ := findO_o hz
    have : z = w := same_o (hi.l k).n g1 h1 (by rw [g2, h2])
    subst this
    have hw : waitsP t a = some (k, z.only) := by
      unfold waitsP
      rw [hc]
      simp only
      rw [hz]; rfl
    unfold aheadP
    rw [hw]
    refine mem_dedup.2 (mem_sortI.2 (List.mem_append.2 ?_))
    rcases h3 with ⟨m1, m2, m3⟩ | h3
    · refine .inl (List.mem_filter.2 ⟨m1, ?_⟩)
      rw [Bool.and_eq_true, Bool.or_eq_true]
      exact ⟨by simpa using m2, m3⟩
    · exact .inr h3
/-! Letting makes no new edge -/
theorem may_only {hs : List Int} {only : Bool} {q : List Wt} {w : Wt} (hm : mayP ⟨hs, only, q⟩ w = true) (hup : w.up = true → w.o ∈ hs) (hw : w.only = true) : ∀ b ∈ hs, b = w.o := fun b hb => by
  unfold mayP at hm
  cases hu : w.up with
  | true =>
    rw [hu, cond_true] at hm
    have hm : hs.length = 1 := of_decide_eq_true hm
    have ho := hup hu
    match hs, hm with
    | [z], _ => rw [List.mem_singleton] at hb ho; rw [hb, ho]
  | false =>
    rw [hu, hw, cond_false, cond_true] at hm
    have hm : hs.length = 0 := of_decide_eq_true hm
    rw [List.eq_nil_of_length_eq_zero hm] at hb
    cases hb
theorem let_ed : ∀ (q : List Wt) (hs : List Int) (only : Bool) (ws : List (Int × Key)), (∀ w ∈ q, w.up = true → w.o ∈ hs) → (q.map (·.o)).Nodup → ∀ a b, EdL (letP q hs only ws).1 a b → EdL ⟨hs, only, q⟩ a b
  | [], hs, only, ws, _, _, a, b, h => h
  | w :: q, hs, only, ws, hd, hn, a, b, h => by
    rw [letP_cons] at h
    cases hm : mayP ⟨hs, only, w :: q⟩ w with
    | false => rw [hm] at h; exact h
    | true =>
      rw [hm] at h
      simp only [cond_true] at h
      rw [List.map_cons, List.nodup_cons] at hn
      have hdw := hd w (List.mem_cons_self ..)
      have g3 := (may_give (x := ⟨hs, only, q⟩) (w := w) hm hdw).2.2
      obtain ⟨wa, h1, h2, h3⟩ := let_ed q _ _ _ (fun z hz hu => g3 _ (hd z (List.mem_cons_of_mem _ hz) hu)) hn.2 a b h
      have h1 : wa ∈ q := h1
      have hne : w.o ≠ a := fun e => hn.1 (List.mem_map.2 ⟨wa, h1, by rw [h2, e]⟩)
      have hq : aheadQ a (w :: q) = w.o :: aheadQ a q := by
        rw [aheadQ, decide_eq_false hne, cond_false]
      refine ⟨wa, List.mem_cons_of_mem _ h1, h2, ?_⟩
      rcases h3 with ⟨m1, m2, m3⟩ | h3
      · by_cases hbw : b = w.o
        · exact .inr (by rw [hq, hbw]; exact List.mem_cons_self ..)
        · have hb : b ∈ hs := by
            rcases give_mem m1 with h | h
            · exact h
            · exact absurd h hbw
          refine .inl ⟨hb, m2, ?_⟩
          rcases m3 with m3 | m3
          · exact .inl m3
          · exact absurd (may_only hm hdw m3 b hb) hbw
      · exact .inr (by
          show b ∈ aheadQ a (w :: q)
          rw [hq]; exact List.mem_cons_of_mem _ h3)
theorem aheadQ_filter {a o : Int} (ha : a ≠ o) : ∀ (q : List Wt), ∀ b ∈ aheadQ a (q.filter (·.o != o)), b ∈ aheadQ a q
  | [], b, h => h
  | w :: q, b, h => by
    rw [List.filter_cons] at h
    by_cases hw : w.o = o
    · have e : (w.o != o) = false := by simp [hw]
      rw [e] at h
      simp only [Bool.false_eq_true, if_false] at h
      rw [aheadQ, decide_eq_false (fun e => ha (by rw [← e, hw])), cond_false]
      exact List.mem_cons_of_mem _ (aheadQ_filter ha q b h)
    · have e : (w.o != o) = true := by simpa using hw
      rw [if_pos e] at h
      rw [aheadQ] at h ⊢
      by_cases hwa : w.o = a
      · rw [decide_eq_true hwa, cond_true] at h; cases h
      · rw [decide_eq_false hwa, cond_false] at h ⊢
        rcases List.mem_cons.1 h with h | h
        · rw [h]; exact List.mem_cons_self ..
        · exact List.mem_cons_of_mem _ (aheadQ_filter ha q b h)
theorem leave_ed (x : Lk) (o a b : Int) (h : EdL (leaveP x o) a b) : EdL x a b := by
  obtain ⟨w, h1, h2, h3⟩ := h
  obtain ⟨g1, g2⟩ := List.mem_filter.1 h1
  have hao : a ≠ o := by rw [← h2]; simpa using g2
  refine ⟨w, g1, h2, ?_⟩
  rcases h3 with ⟨m1, m2, m3⟩ | h3
  · refine .inl ⟨(List.mem_filter.1 m1).1, m2, ?_⟩
    rcases m3 with m3 | m3
    · exact .inl m3
    · refine .inr ?_
      unfold leaveP at m3
      simp only at m3
      cases hc : x.hs.contains o with
      | true => rw [hc] at m3; cases m3
      | false => rw [hc] at m3; exact m3
  · exact .inr (aheadQ_filter hao x.q b h3)
theorem freeZ_ed {ws ws' : List (Int × Key)} {k : Key} {x : Lk} (hi : IL ws' k x) (o a b : Int) (h : EdL (freeZ o x ws).1 a b) : EdL x a b := by
  unfold freeZ at h
  cases hd : decide ((leaveP x o).hs.length + (leaveP x o).q.length < x.hs.length + x.q.length) with
  | true =>
    rw [hd, cond_true] at h
    refine leave_ed x o a b (let_ed _ _ _ _ (fun w hw hu => ?_) (hi.n.sublist (List.filter_sublist.map _)) a b h)
    obtain ⟨g1, g2⟩ := List.mem_filter.1 hw
    exact List.mem_filter.2 ⟨hi.d w g1 hu, g2⟩
  | false =>
    rw [hd, cond_false] at h
    exact leave_ed x o a b h
end Go.Proofs.Ytmpobijkbmljdaa.Sh.Lk
namespace Go.Proofs.Ytmpobijkbmljdaa.Sh.V
open Go.Proofs.Ytmpobijkbmljdaa.Sh
/-! ### Bytes in objects, written -/
abbrev HB (H : VH) (s : VS) (l : List UInt8) : Prop := Hr H 5 1 s (bs l)
theorem hb_es {H : VH} {s : VS} {l : List UInt8} (h : HB H s l) : slEs H 5 1 s = some (bs l) := by
  rcases h.2 with ⟨rfl, h2⟩ | ⟨j, pre, post, rfl, hj⟩
  · rw [h2]; rfl
  · show hpEs H 5 1 j pre.length (bs l).length = _
    unfold hpEs
    rw [hj]
    simp only [Nat.mul_one]
    have e1 : (List.drop pre.length (pre ++ ((bs l).flatten ++ post))).take (bs l).length = bcs l := by
      rw [List.drop_left, bs_flat, bs_len]
      have := List.take_left (l₁ := bcs l) (l₂ := post)
      rwa [show (bcs l).length = l.length by simp [bcs]] at this
    rw [e1, if_pos ⟨trivial, by simp [bs_flat, bcs], closed_bcs l⟩, strip_bcs, bs_len, chunk_bcs]
/-- What can be read as bytes. -/
structure RB (H : VH) (x : VS) (r : List UInt8) : Prop where
  len : x.len = r.length
  es : slEs H 5 1 x = some (bs r)
theorem RB.b {H : VH} {x : VS} {r : List UInt8} (h : IsB x r) : RB H x r := ⟨by rw [h.len, bs_len], h.es H 5 1⟩
theorem RB.h {H : VH} {x : VS} {r : List UInt8} (h : HB H x r) : RB H x r := ⟨by rw [h.len, bs_len], hb_es h⟩
theorem hb_app {H : VH} {s x : VS} {l r : List UInt8} (h : HB H s l) (hx : RB H x r) (hl : l.length + r.length < 1000000) :
    ∃ s' H', appD false H 1 1 5 s x = some (s', H') ∧ HB H' s' (l ++ r) ∧ Kp H H' (hps s) ∧ (∀ t ∈ hps s', t ∈ hps s ∨ H.length ≤ t) := by
  obtain ⟨s', H', a, b, c, d⟩ := h.app (by_ := 1) (x := x) (news := bs r) (by rw [hx.len, bs_len]) hx.es (fun y hy => by
    obtain ⟨z, _, rfl⟩ := List.mem_map.1 hy
    rfl) (by rw [bs_len, bs_len]; simp only [bound]; omega) (by rw [bs_len, bs_len]; simp only [bound]; omega)
  exact ⟨s', H', a, by show Hr H' 5 1 s' (bs (l ++ r)); rw [bs_app]; exact b, c, d⟩
theorem hb_cut {H : VH} {s : VS} {l : List UInt8} (h : HB H s l) {lo hi : Nat} (h1 : lo ≤ hi) (h2 : hi ≤ l.length) : ∃ s', cutD H 5 1 s (some (lo : Int)) (some (hi : Int)) none = some s' ∧ HB H s' ((l.take hi).drop lo) ∧ hps s' = hps s := by
  unfold cutD
  rw [holdV_eq]
  have hbd : ∀ (c N d : Nat), c ≤ N → bd d (some (c : Int)) N = some c := fun c N d hc => by
    show inB _ _ = _
    unfold inB
    rw [if_pos ⟨by omega, by omega⟩]; simp
  rcases h.2 with ⟨rfl, h0⟩ | ⟨j, pre, post, rfl, hj⟩
  · have hl : l = [] := by cases l with | nil => rfl | cons => cases h0
    subst hl
    have e1 : hi = 0 := by simpa using h2
    subst e1
    have e2 : lo = 0 := by omega
    subst e2
    exact ⟨.nil, rfl, h, rfl⟩
  · rw [bs_len] at *
    refine ⟨.hp j (pre.length + lo) (hi - lo), ?_, ⟨fun y hy => ?_, .inr ⟨j, pre ++ bcs (l.take lo), bcs (l.drop hi) ++ post, ?_, ?_⟩⟩, rfl⟩
    · unfold cutV
      simp only [hj]
      rw [if_pos trivial, hbd hi l.length _ h2]
      simp only [Option.bind_some]
      rw [hbd lo hi _ h1]
      simp
    · obtain ⟨z, _, rfl⟩ := List.mem_map.1 hy
      rfl
    · have : (bcs (l.take lo)).length = lo := by simp [bcs]; omega
      rw [List.length_append, this, bs_len, List.length_drop, List.length_take, Nat.min_eq_left h2]
    · rw [hj, bs_flat, bs_flat]
      have : bcs l = bcs (l.take lo) ++ (bcs ((l.take hi).drop lo) ++ bcs (l.drop hi)) := by
        simp only [bcs, ← List.map_append]
        congr 1
        rw [← List.append_assoc]
        have e : l.take lo ++ (l.take hi).drop lo = l.take hi := by
          have := List.take_append_drop lo (l.take hi)
          rwa [List.take_take, Nat.min_eq_left h1] at this
        rw [e, List.take_append_drop]
      rw [this]
      simp only [List.append_assoc]
theorem hb_take {H : VH} {s : VS} {l : List UInt8} (h : HB H s l) {c : Nat} (hc : c ≤ l.length) : ∃ s', cutD H 5 1 s none (some (c : Int)) none = some s' ∧ HB H s' (l.take c) ∧ hps s' = hps s := by
  obtain ⟨s', a, b, d⟩ := Hr.take h (c := c) (by rw [bs_len]; exact hc)
  exact ⟨s', a, by show Hr H 5 1 s' (bs (l.take c)); rw [← bs_take]; exact b, d⟩
theorem hb_drop {H : VH} {s : VS} {l : List UInt8} (h : HB H s l) {c : Nat} (hc : c ≤ l.length) : ∃ s', cutD H 5 1 s (some (c : Int)) none none = some s' ∧ HB H s' (l.drop c) ∧ hps s' = hps s := by
  obtain ⟨s', a, b, d, _⟩ := Hr.drop h (c := c) (by rw [bs_len]; exact hc)
  exact ⟨s', a, by show Hr H 5 1 s' (bs (l.drop c)); rw [← bs_drop]; exact b, d⟩
theorem callD_frzR {P : Program} (cells5 : P.cellsOf 5 = 1) {call : FuncId → List V → VH → VRes} {f : FuncId} {args : List V} {H H' : VH} {s : VS} {l : List UInt8} (hc : call f args H = some (.sl 5 s, H')) (h : HB H' s l) :
    ∃ s' H'', callD call P true (.one (.flat (.slice 5))) f args H = some (s', H'') ∧ IsB s' l ∧ Kp H' H'' (hps s) := by
  unfold callD
  rw [hc, Option.bind_some]
  have hes := hb_es h
  rcases h.2 with ⟨rfl, h0⟩ | ⟨i, pre, post, rfl, hi⟩
  · have hl : l = [] := by cases l with | nil => rfl | cons => cases h0
    subst hl
    refine ⟨.nil, H', ?_, .nil, Kp.refl _ _⟩
    show ((fdec (.slice 5) (.sl 5 .nil)).map fun x => (x, H')) = _
    rw [fd_sl]; rfl
  · refine ⟨.fz (bs l) .no, H'.set i .dead, ?_, .fz _ _, Kp.set _ _ _⟩
    have : freeze P true (.sl 5 (.hp i pre.length (bs l).length)) H' = some (.sl 5 (.fz (bs l) .no), H'.set i .dead) := by
      show ((hpEs H' 5 (P.cellsOf 5) i pre.length (bs l).length).map fun es => (V.sl 5 (.fz es .no), H'.set i .dead)) = _
      rw [cells5, show hpEs H' 5 1 i pre.length (bs l).length = some (bs l) from hes]; rfl
    rw [this, Option.bind_some]
    show ((fdec (.slice 5) (.sl 5 (.fz (bs l) .no))).map fun x => (x, H'.set i .dead)) = _
    rw [fd_sl]; rfl
theorem hr_no {H : VH} {e e' : TypeId} {sz sz' : Nat} {s q : VS} {es es' : List (List V)} (h : Hr H e sz s es) (h' : Hr H e' sz' q es') (hne : e ≠ e') : ∀ t ∈ hps q, t ∉ hps s := fun t ht hm => by
  obtain ⟨_, cs, hc⟩ := h.lt t hm
  obtain ⟨_, ds, hd⟩ := h'.lt t ht
  rw [hc] at hd
  injection hd with hd
  injection hd with hd _
  exact hne hd
theorem hb_no {H : VH} {k : Nat} {T : TypeId} {cs : List V} {sq : VS} {m : List UInt8} (h : H[k]? = some (.row T cs)) (h' : HB H sq m) (hT : T ≠ 5) : k ∉ hps sq := fun hm => by
  obtain ⟨_, cs, hc⟩ := h'.lt k hm
  rw [h] at hc
  injection hc with hc
  injection hc with hc _
  exact hT hc
end Go.Proofs.Ytmpobijkbmljdaa.Sh.V
