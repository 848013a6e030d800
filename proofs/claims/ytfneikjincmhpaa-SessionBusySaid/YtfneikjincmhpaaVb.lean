/- The machine of values: regions without an order, soundness, and words about heaps. -/
import Derived.Test.YtfneikjincmhpaaVa
import Derived.Laws.Bits64
import Derived.IntWalk
import Derived.Laws.Strings
import Derived.Below
import Derived.ChangeArms
import Derived.WideShapes
import Derived.DataElems
set_option linter.unusedVariables false
set_option linter.unusedSimpArgs false
namespace Go.Proofs.Ytfneikjincmhpaa.Sh.V
open Go.Proofs.Ytfneikjincmhpaa.Sh
section
variable {P : Program} {c : Cx}
theorem one_sim {v : V} {v' : Value} (h1 : one1 v = true) (h : VR P c v v') : v'.oneCell' = true := by
  cases h <;> first | rfl | cases h1
theorem ones_sim : ∀ {vs : List V} {vs' : List Value}, onesV vs = true → VRs P c vs vs' → ones vs' = true
  | [], _, _, h => by cases h; rfl
  | v :: vs, _, h1, h => by
    simp only [onesV, List.all_cons, Bool.and_eq_true] at h1
    cases h with
    | cons a b =>
      have := ones_sim (vs := vs) h1.2 b
      simp only [ones, List.all_cons, Bool.and_eq_true] at this ⊢
      exact ⟨one_sim h1.1 a, this⟩
theorem cells_sim {v : V} {v' : Value} (h : VR P c v v') (hu : v ≠ .undef) : VRs P c v.cells v'.cells.toList := by
  cases h with
  | undef => exact absurd rfl hu
  | agg a => exact a
  | skip => exact .cons .skip .nil
  | bool b => exact .cons (.bool b) .nil
  | int k n => exact .cons (.int k n) .nil
  | flt k n => exact .cons (.flt k n) .nil
  | str s => exact .cons (.str s) .nil
  | nilFunc => exact .cons .nilFunc .nil
  | nilIface => exact .cons .nilIface .nil
  | ptrNil => exact .cons .ptrNil .nil
  | ptrOb a => exact .cons (.ptrOb a) .nil
  | ptrFz a b e f g => exact .cons (.ptrFz a b e f g) .nil
  | slNil => exact .cons .slNil .nil
  | slFz a b e f g i j l => exact .cons (.slFz a b e f g i j l) .nil
  | slEm a b => exact .cons (.slEm a b) .nil
  | slHp a => exact .cons (.slHp a) .nil
  | mapNil => exact .cons .mapNil .nil
  | map a => exact .cons (.map a) .nil
  | func a b => exact .cons (.func a b) .nil
  | tup a => exact .cons (.tup a) .nil
theorem typedZ_rel : ∀ {l : List FT} {vs : List V} {vs' : List Value}, VRs P c vs vs' → VRs P c (typedZ l vs) vs'
  | [], _, _, h => by unfold typedZ; exact h
  | τ :: l, [], _, h => by cases τ <;> exact h
  | τ :: l, v :: vs, _, h => by
    cases h with
    | cons a b =>
      unfold typedZ
      split
      · rename_i h1 h2
        injection h1 with h1 h1'
        injection h2 with h2 h2'
        subst h1 h1' h2 h2'
        cases a
        exact .cons .slNil (typedZ_rel b)
      · rename_i h1 h2
        injection h1 with h1 h1'
        injection h2 with h2 h2'
        subst h1' h2 h2'
        exact .cons a (typedZ_rel b)
      · rename_i hh; exact (hh _ _ _ _ rfl rfl).elim
theorem typedZ_mem : ∀ {l : List FT} {vs : List V}, (∀ v ∈ vs, pure1 v = true) → ∀ v ∈ typedZ l vs, pure1 v = true
  | [], _, h => by unfold typedZ; exact h
  | τ :: l, [], h => by cases τ <;> exact h
  | τ :: l, v :: vs, h => by
    unfold typedZ
    split
    · rename_i h1 h2
      injection h1 with h1 h1'
      injection h2 with h2 h2'
      subst h1 h1' h2 h2'
      intro u hu
      rcases List.mem_cons.1 hu with rfl | hu
      · rfl
      · exact typedZ_mem (fun v hv => h v (List.mem_cons_of_mem _ hv)) u hu
    · rename_i h1 h2
      injection h1 with h1 h1'
      injection h2 with h2 h2'
      subst h1' h2 h2'
      intro u hu
      rcases List.mem_cons.1 hu with rfl | hu
      · exact h _ (List.mem_cons_self ..)
      · exact typedZ_mem (fun v hv => h v (List.mem_cons_of_mem _ hv)) u hu
    · rename_i hh; exact (hh _ _ _ _ rfl rfl).elim
theorem zeroV_sim {T : TypeId} {z : List V} (h : zeroV P T = some z) : ∃ z', zeroOf P T = some z' ∧ VRs P c z z' ∧ (∀ v ∈ z, pure1 v = true) := by
  unfold zeroV at h
  rw [Option.map_eq_some_iff] at h
  obtain ⟨z0, h, rfl⟩ := h
  rw [Option.bind_eq_some_iff] at h
  obtain ⟨z', h1, h2⟩ := h
  refine ⟨z', h1, typedZ_rel (ofCs_rel h2).2, typedZ_mem ?_⟩
  have : ∀ {l : List Value} {us : List V}, ofCs l = some us → ∀ v ∈ us, pure1 v = true := by
    intro l
    induction l with
    | nil => intro us h v hv; simp only [ofCs, Option.some.injEq] at h; subst h; cases hv
    | cons a l ih =>
      intro us h v hv
      simp only [ofCs, Option.bind_eq_some_iff, Option.map_eq_some_iff] at h
      obtain ⟨u, hu, r, hr, rfl⟩ := h
      rcases List.mem_cons.1 hv with rfl | hv
      · unfold ofC1 at hu
        split at hu <;> first
          | (injection hu with hu; subst hu; rfl)
          | (obtain ⟨_, hu⟩ := ite_some hu; injection hu with hu; subst hu; rfl)
          | cases hu
      · exact ih hr v hv
  exact this h2
inductive PRel (P : Program) (c : Cx) : List (Nat × V) → List (Nat × Value) → Prop
  | nil : PRel P c [] []
  | cons {i v v' l l'} : VR P c v v' → PRel P c l l' → PRel P c ((i, v) :: l) ((i, v') :: l')
theorem evParts_sim {t : List V} {t' : List Value} (ht : VRs P c t t') : ∀ {l : List (Nat × Operand)} {ps : List (Nat × V)}, evParts t l = some ps → ∃ ps', Sh.evParts t' l = some ps' ∧ PRel P c ps ps'
  | [], ps, h => by simp only [evParts, Option.some.injEq] at h; subst h; exact ⟨[], rfl, .nil⟩
  | (i, x) :: r, ps, h => by
    simp only [evParts, Option.bind_eq_some_iff, Option.map_eq_some_iff] at h
    obtain ⟨v, hv, us, hu, rfl⟩ := h
    obtain ⟨v', h1, h2⟩ := ev_sim ht hv
    obtain ⟨us', h3, h4⟩ := evParts_sim ht hu
    exact ⟨(i, v') :: us', by simp [Sh.evParts, h1, h3], .cons h2 h4⟩
theorem not_tup {v : V} {v' : Value} (h : VR P c v v') (ht : isTupV v = false) : isTup v' = false ∧ v ≠ .undef := by
  cases h <;> first | exact ⟨rfl, by simp⟩ | cases ht
theorem fillV_sim {place : Nat → Option (Nat × Nat)} : ∀ {ps : List (Nat × V)} {ps' : List (Nat × Value)} {cs : List V} {cs' : List Value} {out : List V}, PRel P c ps ps' → (∀ x ∈ ps, isTupV x.2 = false) → VRs P c cs cs' → fillV place cs ps = some out →
    ∃ out', fillL place cs' ps' = some out' ∧ VRs P c out out' ∧ out.length = cs.length
  | [], _, cs, cs', out, hp, _, hc, h => by cases hp; simp only [fillV, Option.some.injEq] at h; subst h; exact ⟨cs', rfl, hc, rfl⟩
  | (i, v) :: ps, _, cs, cs', out, hp, ht, hc, h => by
    cases hp with
    | cons a b =>
      rename_i v' ps'
      simp only [fillV] at h
      split at h
      · cases h
      · rename_i off size hpl
        split at h
        · cases h
        · rename_i hcond
          obtain ⟨_, hu⟩ := not_tup a (ht (i, v) (by simp))
          have hcr := cells_sim a hu
          have hlen := hcr.length
          have hlc := hc.length
          obtain ⟨out', h1, h2, h3⟩ := fillV_sim b (fun x hx => ht x (by simp [hx])) (hcr.putAll off hc) h
          have hpl2 : ∀ (vs : List V) (cs : List V) (k : Nat), (putAllV cs k vs).length = cs.length := by
            intro vs
            induction vs with
            | nil => intro cs k; rfl
            | cons u vs ih => intro cs k; simp only [putAllV]; rw [ih]; simp
          refine ⟨out', ?_, h2, by rw [h3, hpl2]⟩
          simp only [fillL, hpl]
          rw [← hlen, ← hlc, if_neg hcond]
          exact h1
theorem repV_len (z : List V) : ∀ n, (repV n z).length = n * z.length
  | 0 => by simp [repV]
  | n + 1 => by simp only [repV, List.length_append, repV_len z n, Nat.add_mul, Nat.one_mul]
theorem repV_sim {z : List V} {z' : List Value} (h : VRs P c z z') : ∀ n, VRs P c (repV n z) (repL n z')
  | 0 => .nil
  | n + 1 => (repV_sim h n).append h
theorem rep_flat (z : List V) : ∀ n, (List.replicate n z).flatten = repV n z
  | 0 => rfl
  | n + 1 => by
    rw [List.replicate_succ', List.flatten_append, rep_flat z n]
    simp [repV]
theorem st_sim (hc : VSim P c) {p : VP} {vs : List V} {vs' : List Value} {v' : Value} (hp : VR P c (.ptr p) v') (hvs : onesV vs = true → VRs P c vs vs') {H' : VH} (h : stV c.H p vs = some H') :
    ∃ ad h', v' = .pointer (some ad) ∧ Sh.stV c.h ad vs' = some h' ∧ Le c ⟨c.σ, H', h', c.X⟩ ∧ VSim P ⟨c.σ, H', h', c.X⟩ := by
  unfold stV at h
  split at h
  · rename_i i off
    split at h
    · rename_i e cs hi
      obtain ⟨⟨hle, h1⟩, h⟩ := ite_some h
      injection h with h
      subst h
      have hvr := hvs h1
      cases hp with
      | ptrOb hk =>
        rename_i k
        obtain ⟨hk, _⟩ := hk
        obtain ⟨ys, h2, h3⟩ := hc.row hi hk
        have hl1 := hvr.length
        have hl2 := h3.length
        have hklt := hc.klt hi rfl hk
        obtain ⟨t1, t2⟩ := hc.turn hi rfl hk (.row e (putAllV cs off vs)) (.row true e (Sh.putAll ys off vs')) rfl (fun d hd hle => ⟨Sh.putAll ys off vs', by rw [hd]; simp only; rw [List.getElem?_set_self hklt], (hvr.putAll off h3).mono hle⟩)
        refine ⟨⟨k, off, none⟩, _, rfl, ?_, t1, t2⟩
        unfold Sh.stV
        simp only [h2]
        rw [if_pos ⟨by omega, ones_sim h1 hvr⟩]
    · cases h
  · cases h
theorem bytesOfE_sim : ∀ {es : List (List V)} {l : List UInt8} {cs : List Value}, bytesOfE es = some l → VRs P c es.flatten cs → bytesOfVals cs = some l
  | [], l, cs, h, hr => by cases hr; exact h
  | y :: es, l, cs, h, hr => by
    unfold bytesOfE at h
    split at h
    · rename_i he; cases he
    · rename_i n r he
      injection he with e1 e2
      subst e1 e2
      rw [Option.map_eq_some_iff] at h
      obtain ⟨l', h1, rfl⟩ := h
      simp only [List.flatten_cons, List.singleton_append] at hr
      cases hr with
      | cons a b =>
        cases a
        simp only [bytesOfVals, bytesOfE_sim h1 b, Option.map_some]
    · cases h
theorem flat_ones (cs : List V) : (cs.map fun v => [v]).flatten = cs := by
  induction cs with
  | nil => rfl
  | cons v l ih => simp only [List.map_cons, List.flatten_cons, ih, List.singleton_append]
theorem str_sim (hc : VSim P c) {e : TypeId} (hsz : P.cellsOf e = 1) {s : VS} {v' : Value} (hv : VR P c (.sl e s) v') {r : ByteArray} (h : strV c.H e s = some r) : ∃ a n x, v' = .slice a n x ∧ strD c.h ⟨a, n, x⟩ = some r := by
  have rest : ((slEs c.H e 1 s).bind fun es => (bytesOfE es).map fun l => (⟨l.toArray⟩ : ByteArray)) = some r → ∃ a n x, v' = .slice a n x ∧ strD c.h ⟨a, n, x⟩ = some r := by
    intro h
    simp only [Option.bind_eq_some_iff, Option.map_eq_some_iff] at h
    obtain ⟨es, h1, l, h2, rfl⟩ := h
    obtain ⟨a, x, cs', rfl, h3, h4, _, _, _⟩ := slEs_sim hc hsz.symm h1 hv
    refine ⟨a, _, x, rfl, ?_⟩
    unfold strD
    rw [h3, Option.bind_some, bytesOfE_sim h2 h4]
    rfl
  cases s with
  | hp i off n =>
    cases hv with
    | slHp hh =>
      unfold strV at h
      simp only at h
      refine ⟨_, _, _, rfl, ?_⟩
      unfold strD slCells
      simp only
      by_cases h0 : n = 0
      · rw [if_pos h0] at h ⊢
        exact h
      · rw [if_neg h0] at h ⊢
        simp only [Option.bind_eq_some_iff, Option.map_eq_some_iff, hpCells, takeN] at h
        obtain ⟨cs, ⟨us, hu, hcs⟩, l, h2, rfl⟩ := h
        obtain ⟨hl, hcs⟩ := ite_some hcs
        injection hcs with hcs
        subst hcs
        unfold rowV at hu
        split at hu
        · rename_i e1 cs1 hi
          injection hu with hu
          subst hu
          obtain ⟨ys, g1, g2⟩ := hc.ob i _ _ hi hh.1
          have hlen := g2.length
          unfold cellsAt rowOf
          simp only [g1, Option.bind_some, Nat.mul_one]
          rw [if_pos (by omega), Option.bind_some]
          have := bytesOfE_sim h2 (by rw [flat_ones]; exact (g2.drop off).take n)
          rw [this]
          rfl
        · cases hu
  | nil => exact rest h
  | fz es cp => exact rest h
theorem toPs_sim : ∀ {l : List V} {us vs' : List Value}, toPs l = some us → VRs P c l vs' → vs' = us ∧ plainVs us = true
  | [], us, vs', h, hr => by cases hr; simp only [toPs, Option.some.injEq] at h; subst h; exact ⟨rfl, rfl⟩
  | v :: l, us, vs', h, hr => by
    simp only [toPs, Option.bind_eq_some_iff, Option.map_eq_some_iff] at h
    obtain ⟨u, hu, r, hr2, rfl⟩ := h
    cases hr with
    | cons a b =>
      obtain ⟨h1, h2⟩ := toPs_sim hr2 b
      have h3 := toP_rel hu a
      subst h1 h3
      refine ⟨rfl, ?_⟩
      have hp : ∀ {a : Value}, toP v = some a → plainV a = true := by
        intro a ha
        cases v <;> simp only [toP, Option.some.injEq, reduceCtorEq] at ha <;> (subst ha; rfl)
      simp [plainVs, hp hu, h2]
theorem freeze_sim {b : Bool} (hc : VSim P c) {v : V} {v' : Value} (hv : VR P c v v') {r : V × VH} (h : freeze P b v c.H = some r) : Le c ⟨c.σ, r.2, c.h, c.X⟩ ∧ VSim P ⟨c.σ, r.2, c.h, c.X⟩ ∧ VR P ⟨c.σ, r.2, c.h, c.X⟩ r.1 v' := by
  unfold freeze at h
  cases b with
  | false => simp only [cond_false, Option.some.injEq] at h; subst h; exact ⟨Le.refl _, hc, hv⟩
  | true =>
    simp only [cond_true] at h
    split at h
    · rename_i e i off n
      rw [Option.map_eq_some_iff] at h
      obtain ⟨es, h1, rfl⟩ := h
      obtain ⟨cs, hi, hle, hf, hl, hy, hcl⟩ := hpEs_some h1
      cases hv with
      | slHp hk =>
        rename_i k
        obtain ⟨hk, _⟩ := hk
        obtain ⟨ys, h2, h3⟩ := hc.row hi hk
        have hklt := hc.klt hi rfl hk
        obtain ⟨t1, t2⟩ := hc.turn hi rfl hk .dead (.row true e ys) rfl (fun _ _ _ => trivial)
        have hset : c.h.set k (.row true e ys) = c.h := by
          obtain ⟨h4, h5⟩ := List.getElem?_eq_some_iff.1 h2
          rw [← h5]; exact List.set_getElem_self h4
        rw [hset] at t1 t2
        refine ⟨t1, t2, ?_⟩
        have hlen := h3.length
        have hfl : es.flatten.length = n * P.cellsOf e := by rw [hf]; simp; omega
        have := VR.slFz (P := P) (c := ⟨c.σ, c.H.set i .dead, c.h, c.X⟩) (e := e) (es := es) (cap := .no) (k := k) (off := off) (x := 0) (ys := ys) (by unfold rowT; rw [h2]) ⟨hc.X i _ k hi rfl hk, fun j u hj hu hk2 => by
            rcases set_get hj with ⟨rfl, rfl, _⟩ | ⟨hne, hj⟩
            · cases hu
            · exact hne (hc.inj j i u _ k hj (VO.live_of_hard hu) hi rfl hk2 hk)⟩ (by omega) (by
            rw [hfl, hf]
            exact (((h3.drop off).take _).map fun _ _ h => h.strip1).mono t1) hcl hy trivial (fun h => absurd rfl h)
        rw [hl] at this
        exact this
    · injection h with h; subst h; exact ⟨Le.refl _, hc, hv⟩
end
end Go.Proofs.Ytfneikjincmhpaa.Sh.V
namespace Go.Proofs.Ytfneikjincmhpaa.Sh.V
open Go.Proofs.Ytfneikjincmhpaa.Sh
section
variable {P : Program} {c : Cx} {G : Cx → V × VH → Value × Heap → Prop}
theorem ty1_flat {T : TypeId} {τ : FT} (h : ty1Of P T = .flat τ) : Sh.ty1Of P T = .flat τ.S := by rw [← ty1Of_S, h]; rfl
theorem ty1_agg {T : TypeId} {l : List FT} (h : ty1Of P T = .agg l) : Sh.ty1Of P T = .agg (l.map FT.S) := by rw [← ty1Of_S, h]; rfl
theorem any_tup {ps : List (Nat × V)} {ps' : List (Nat × Value)} (hp : PRel P c ps ps') (h : ∀ x ∈ ps, isTupV x.2 = false) : ∀ x ∈ ps', isTup x.2 = false := by
  induction hp with
  | nil => intro x hx; cases hx
  | cons a b ih =>
    intro x hx
    rcases List.mem_cons.1 hx with rfl | hx
    · exact (not_tup a (h _ (List.mem_cons_self ..))).1
    · exact ih (fun x hx => h x (List.mem_cons_of_mem _ hx)) x hx
theorem mkD_sim (hc : VSim P c) {e : TypeId} {l cp : Int} {keep : Bool} {r : VS × VH} (h : mkD P keep c.H e l cp = some r) :
    ∃ q h' σ', Sh.mkD P c.h e l cp = some (q, h') ∧ Le c ⟨σ', r.2, h', c.X⟩ ∧ VSim P ⟨σ', r.2, h', c.X⟩ ∧ VR P ⟨σ', r.2, h', c.X⟩ (.sl e r.1) (.slice q.a q.n q.c) := by
  unfold mkD at h
  rw [holdV_eq] at h
  have h' := ite_some h
  clear h
  obtain ⟨hb, h⟩ := h'
  rw [Option.bind_eq_some_iff] at h
  obtain ⟨z, hz, h⟩ := h
  have h' := ite_some h
  clear h
  obtain ⟨hl, h⟩ := h'
  obtain ⟨z', h1, h2, h3⟩ := zeroV_sim (c := c) hz
  have hlen := h2.length
  have hS : Sh.mkD P c.h e l cp = some (⟨some ⟨c.h.length, 0, none⟩, l.toNat, 0⟩, c.h ++ [.row true e (repL l.toNat z')]) := by
    unfold Sh.mkD
    rw [hold_eq, if_pos hb, h1, Option.bind_some, if_pos (by omega)]
  cases keep with
  | true =>
    simp only [cond_true, Option.some.injEq] at h
    subst h
    obtain ⟨a1, a2, a3⟩ := new_fz hc (e := e) (es := List.replicate l.toNat z) (cs := repL l.toNat z') (b := .row true e (repL l.toNat z')) (rowT_row_last _ _ _ _) (by rw [rep_flat]; exact repV_sim h2 _) (by
      intro v hv
      rw [List.mem_flatten] at hv
      obtain ⟨y, hy, hv⟩ := hv
      rw [(List.mem_replicate.1 hy).2] at hv
      exact h3 v hv) (by intro y hy; rw [(List.mem_replicate.1 hy).2]; exact hl) (cap := .no) (x := 0) (.inl rfl) (fun h => absurd rfl h)
    rw [List.length_replicate] at a3
    exact ⟨_, _, _, hS, a1, a2, a3⟩
  | false =>
    simp only [cond_false, Option.some.injEq] at h
    subst h
    obtain ⟨a1, a2, a3⟩ := new_row hc e (repV_sim h2 l.toNat)
    exact ⟨_, _, _, hS, a1, a2, .slHp a3⟩
theorem vOp_sim {E : Env} {E' : Sh.Env} (hE0 : E.call = fun _ _ _ => none) (hE1 : E'.ext = E.ext) (hE2 : E'.same = E.same) (hE3 : E'.keep = E.keep) (hG : ∀ (c d : Cx) (x : V × VH) (y : Value × Heap), Le c d → G d x y → G c x y) (hc : VSim P c) {t : List V} {t' : List Value} (ht : VRs P c t t') {o : Oper} {K : V → VH → VRes} {K' : Value → Heap → Res}
    (hK : ∀ (d : Cx) (v : V) (v' : Value), Le c d → VSim P d → VR P d v v' → Rel G d (K v d.H) (K' v' d.h)) : Rel G c (vOp P E o t c.H K) (eOp P E' o t' c.h K') := by
  have quiet : Rel G c (vQuiet P o t c.H fun v => K v c.H) (eQuiet P o t' c.h fun v => K' v c.h) := vQuiet_sim hc ht fun v v' h => hK c v v' (Le.refl c) hc h
  have here : ∀ {v : V} {v' : Value}, VR P c v v' → Rel G c (K v c.H) (K' v' c.h) := fun h => hK c _ _ (Le.refl c) hc h
  have at_ : ∀ {σ' : List Nat} {H' : VH} {h' : Heap} {v : V} {v' : Value}, Le c ⟨σ', H', h', c.X⟩ → VSim P ⟨σ', H', h', c.X⟩ → VR P ⟨σ', H', h', c.X⟩ v v' → Rel G c (K v H') (K' v' h') := fun a b h => (hK ⟨_, _, _, _⟩ _ _ a b h).later hG a
  unfold vOp
  split
  · rename_i T ho
    unfold eOp; simp only [ho]
    refine Rel.bind fun z hz => ?_
    obtain ⟨z', h1, h2, _⟩ := zeroV_sim (c := c) hz
    obtain ⟨a1, a2, a3⟩ := new_row hc (T + boxK) h2
    exact ⟨z', h1, at_ a1 a2 (.ptrOb a3)⟩
  · rename_i T x ho
    unfold eOp; simp only [ho]
    refine Rel.bind fun v hv => ?_
    obtain ⟨v', h1, h2⟩ := ev_sim ht hv
    refine ⟨v', h1, Rel.ite fun h1v => ?_⟩
    have hu : v ≠ .undef := by rintro rfl; simp [onesV, V.cells, one1] at h1v
    have hcr := cells_sim h2 hu
    obtain ⟨a1, a2, a3⟩ := new_row hc (T + boxK) hcr
    exact ⟨ones_sim h1v hcr, at_ a1 a2 (.ptrOb a3)⟩
  · rename_i T parts ho
    unfold eOp; simp only [ho]
    split
    · rename_i fs z ps hT hz hps
      obtain ⟨z', h1, h2, _⟩ := zeroV_sim (c := c) hz
      obtain ⟨ps', h3, h4⟩ := evParts_sim ht hps
      simp only [hT, h1, h3]
      refine Rel.ite fun htup => ?_
      have htup' : ∀ x ∈ ps, isTupV x.2 = false := by
        intro x hx
        have := List.all_eq_true.1 htup x hx
        simpa using this
      refine ⟨?_, ?_⟩
      · rw [List.all_eq_true]
        intro x hx
        simp [any_tup h4 htup' x hx]
      · refine Rel.bind fun pl hpl => ⟨pl, hpl, Rel.bind fun cs hcs => ?_⟩
        obtain ⟨out', h5, h6, _⟩ := fillV_sim h4 htup' h2 hcs
        exact ⟨out', h5, here (.agg h6)⟩
    · exact Rel.none
  · rename_i T n parts ho
    unfold eOp; simp only [ho]
    split
    · rename_i e ps hT hps
      obtain ⟨ps', h3, h4⟩ := evParts_sim ht hps
      simp only [hT, h3]
      refine Rel.tite fun hcond => ?_
      have htup' : ∀ x ∈ ps, isTupV x.2 = false := by
        intro x hx
        cases hb : isTupV x.2 with
        | false => rfl
        | true => exact absurd (.inr (List.any_eq_true.2 ⟨x, hx, hb⟩)) hcond
      refine ⟨fun h => ?_, ?_⟩
      · rcases h with h | h
        · exact hcond (.inl h)
        · obtain ⟨x, hx, hb⟩ := List.any_eq_true.1 h
          rw [any_tup h4 htup' x hx] at hb
          cases hb
      · refine Rel.bind fun z hz => ?_
        obtain ⟨z', h1, h2, _⟩ := zeroV_sim (c := c) hz
        have hlz := h2.length
        refine ⟨z', h1, Rel.ite fun hl => ⟨by omega, Rel.bind fun cs hcs => ?_⟩⟩
        obtain ⟨out', h5, h6, h7⟩ := fillV_sim h4 htup' (repV_sim h2 n) hcs
        refine ⟨out', h5, Rel.ite fun h1v => ⟨ones_sim h1v h6, ?_⟩⟩
        rw [repV_len, hl] at h7
        rw [hE3]
        cases hk : E.keep with
        | true =>
          simp only [cond_true]
          intro xx h
          obtain ⟨hcl, h⟩ := ite_some h
          have hfl : (chunk (P.cellsOf e) n (cs.map strip1)).flatten = cs.map strip1 := by rw [chunk_flat, List.take_of_length_le (by simp; omega)]
          obtain ⟨a1, a2, a3⟩ := new_fz hc (e := e) (es := chunk (P.cellsOf e) n (cs.map strip1)) (cs := out') (b := .row true e out') (rowT_row_last _ _ _ _) (by rw [hfl]; exact h6.map fun _ _ h => h.strip1) (by
            intro v hv
            rw [hfl] at hv
            obtain ⟨u, hu, rfl⟩ := List.mem_map.1 hv
            exact closed_strip1 (List.all_eq_true.1 hcl u hu)) (chunk_each _ _ _ (by simp; omega)) (cap := .ex n) (x := n + 1) (.inr ⟨n, rfl, rfl, by rw [chunk_len]; exact Nat.le_refl _⟩) (fun _ => by rw [chunk_len]; exact Nat.lt_succ_self _)
          rw [chunk_len] at a3
          exact at_ a1 a2 a3 xx h
        | false =>
          simp only [cond_false]
          obtain ⟨a1, a2, a3⟩ := new_row hc e h6
          exact at_ a1 a2 (.slHp a3)
    · exact Rel.none
  · rename_i T x ho
    unfold eOp; simp only [ho]
    split
    · rename_i a h1
      obtain ⟨v1, e1, r1⟩ := ev_sim ht h1
      intro xx h
      split at h
      · cases h
      · rename_i hU
        split at h
        · rename_i τ hf
          rw [Option.bind_eq_some_iff] at h
          obtain ⟨q, hq, h⟩ := h
          obtain ⟨ad, x', rfl, h2, h3⟩ := ld_sim hc hq r1
          simp only [e1, if_neg hU, ty1_flat hf, Option.bind_some]
          have h2 : Sh.ld1 (.flat τ.S) c.h ad = some x' := h2
          rw [h2]
          exact here h3 xx h
        · rename_i l hf
          obtain ⟨hl, h⟩ := ite_some h
          rw [Option.bind_eq_some_iff] at h
          obtain ⟨q, hq, h⟩ := h
          obtain ⟨ad, x', rfl, h2, h3⟩ := ld_sim hc hq r1
          simp only [e1, if_neg hU, ty1_agg hf, List.length_map, if_pos hl]
          have h2 : Sh.ld1 (.agg (l.map FT.S)) c.h ad = some x' := h2
          rw [h2]
          exact here h3 xx h
    · exact Rel.none
  · rename_i T x y ho
    unfold eOp; simp only [ho]
    split
    · rename_i a v h1 h2
      obtain ⟨v1, e1, r1⟩ := ev_sim ht h1
      obtain ⟨v2, e2, r2⟩ := evT_sim ht h2
      intro xx h
      obtain ⟨⟨hl, hz⟩, h⟩ := ite_some h
      rw [Option.bind_eq_some_iff] at h
      obtain ⟨H1, hst, h⟩ := h
      have hcr : onesV v.cells = true → VRs P c v.cells v2.cells.toList := fun h1v => cells_sim r2 (by rintro rfl; simp [onesV, V.cells, one1] at h1v)
      obtain ⟨ad, h', rfl, g1, g2, g3⟩ := st_sim hc r1 hcr hst
      have h1v : onesV v.cells = true := by
        unfold stV at hst
        split at hst
        · split at hst
          · exact (ite_some hst).1.2
          · cases hst
        · cases hst
      have hlen := (hcr h1v).length
      simp only [e1, e2]
      rw [if_pos ⟨by omega, hz⟩, g1]
      exact at_ g2 g3 (.undef _) xx h
    · exact Rel.none
  · rename_i T l cp ho
    unfold eOp; simp only [ho]
    split
    · rename_i e k l k2 cp hT h1 h2
      obtain ⟨v1, e1, r1⟩ := ev_sim ht h1
      obtain ⟨v2, e2, r2⟩ := ev_sim ht h2
      cases r1; cases r2
      simp only [hT, e1, e2]
      refine Rel.bind fun r hr => ?_
      obtain ⟨q, h', σ', g1, g2, g3, g4⟩ := mkD_sim hc hr
      exact ⟨_, g1, at_ g2 g3 g4⟩
    · exact Rel.none
  · rename_i src dst x ho
    unfold eOp; simp only [ho]
    split
    · rename_i e s hs hd h1
      obtain ⟨v1, e1, r1⟩ := ev_sim ht h1
      cases r1
      simp only [hs, hd, e1]
      split
      · rename_i hu
        simp only [hu]
        refine Rel.ite fun hcond => ⟨hcond, ?_⟩
        obtain ⟨b1, b2, b3, b4⟩ := bytesE_rel (P := P) (c := c) s
        cases hk : E.frm with
        | true =>
          simp only [cond_true]
          obtain ⟨a1, a2, a3⟩ := new_fz hc (e := e) (es := bytesE s) (cs := byteVals s) (b := .row true e (byteVals s)) (rowT_row_last _ _ _ _) b1 b2 (by rw [hcond.2]; exact b3) (cap := .no) (x := 0) (.inl rfl) (fun h => absurd rfl h)
          rw [b4] at a3
          exact at_ a1 a2 a3
        | false =>
          simp only [cond_false]
          obtain ⟨a1, a2, a3⟩ := new_row hc e b1
          exact at_ a1 a2 (.slHp a3)
      · exact Rel.none
    · rename_i e e0 s hs hd h1
      obtain ⟨v1, e1, r1⟩ := ev_sim ht h1
      split
      · rename_i hu
        intro xx h
        obtain ⟨hz, h⟩ := ite_some h
        simp only [Option.bind_eq_some_iff] at h
        obtain ⟨s2, hs2, r, hr, h⟩ := h
        obtain ⟨a, n, x2, rfl, g1⟩ := str_sim hc hz (atE_rel hs2 r1) hr
        simp only [hs, hd, e1, hu, g1, Option.bind_some]
        exact here (.str _) xx h
      · exact Rel.none
    · rename_i e0 e e2 i off n hs hd h1
      obtain ⟨v1, e1, r1⟩ := ev_sim ht h1
      split
      · rename_i hu
        intro xx h
        obtain ⟨⟨hsd, hrow⟩, h⟩ := ite_some h
        cases r1 with
        | slHp hh =>
          unfold rowV at hrow
          split at hrow
          · rename_i ez cs1 hi
            obtain ⟨ys, g1, g2⟩ := hc.ob i _ _ hi hh.1
            simp only [hs, hd, e1, hu, hsd, beq_self_eq_true, if_true, Option.bind_some, rwRow, g1]
            exact here (.slHp hh) xx h
          · cases hrow
      · exact Rel.none
    · rename_i n1 n2 n3
      cases hev : ev t x with
      | none =>
        have : vQuiet P o t c.H (fun v => K v c.H) = none := by unfold vQuiet; simp only [ho, hev, Option.bind_none]
        rw [this]; exact Rel.none
      | some u =>
        obtain ⟨v1, e1, r1⟩ := ev_sim ht hev
        cases hp : toP u with
        | none =>
          have : vQuiet P o t c.H (fun v => K v c.H) = none := by unfold vQuiet; simp only [ho, hev, Option.bind_some, vConv, hp]
          rw [this]; exact Rel.none
        | some a =>
          have := toP_rel hp r1
          subst this
          cases u <;> simp only [toP, Option.some.injEq, reduceCtorEq] at hp <;> subst hp <;> (
            simp only [e1]
            split
            · rename_i h1 h2 h3
              first
                | (injection h3 with h3; cases h3; done)
                | (injection h3 with h3; injection h3 with h3; subst h3; exact (n1 _ _ h1 h2 hev).elim)
                | skip
            all_goals first
              | exact quiet
              | (rename_i h3; injection h3 with h3; cases h3; done)
              | (rename_i h2 h3; injection h3 with h3; cases h3; done))
  · rename_i s x T U ho
    unfold eOp; simp only [ho]
    split
    · rename_i e e1' a e2' b hT h1 h2
      obtain ⟨v1, e1, r1⟩ := ev_sim ht h1
      obtain ⟨v2, e2, r2⟩ := ev_sim ht h2
      intro xx h
      obtain ⟨hcond, h⟩ := ite_some h
      simp only [Option.bind_eq_some_iff] at h
      obtain ⟨a2, ha2, b2, hb2, r, hr, h⟩ := h
      obtain ⟨p, n, cp, p', n', cp', q, h', σ', rfl, rfl, g1, g2, g3, g4⟩ := appD_sim hc rfl (atE_rel ha2 r1) (atE_rel hb2 r2) hr
      simp only [hT, e1, e2]
      rw [if_pos hcond, hE3, g1]
      exact at_ g2 g3 g4 xx h
    · rename_i e e1' a s2 hT h1 h2
      obtain ⟨v1, e1, r1⟩ := ev_sim ht h1
      obtain ⟨v2, e2, r2⟩ := ev_sim ht h2
      cases r2
      intro xx h
      obtain ⟨hcond, h⟩ := ite_some h
      simp only [Option.bind_eq_some_iff] at h
      obtain ⟨a2, ha2, r, hr, h⟩ := h
      obtain ⟨p, n, cp, q, h', σ', rfl, g1, g2, g3, g4⟩ := appS_sim hc hcond.1 (atE_rel ha2 r1) hr
      simp only [hT, e1, e2]
      rw [if_pos hcond, hE3, g1]
      exact at_ g2 g3 g4 xx h
    · exact Rel.none
  · rename_i f args Ts ho
    unfold eOp; simp only [ho]
    split
    · rename_i g first cap vs h1 h2
      obtain ⟨v1, e1, r1⟩ := ev_sim ht h1
      obtain ⟨vs', e2, r2⟩ := evTs_sim ht h2
      cases r1 with
      | func ra rb =>
        rename_i l' m'
        have hargs := (ra.append r2).append rb
        simp only [e1, e2]
        rw [hE1, hE2]
        split
        · rename_i e hx
          simp only [hx]
          intro xx h
          simp only [Option.bind_eq_some_iff] at h
          obtain ⟨l, hl, x, hx2, h⟩ := h
          obtain ⟨h3, h4⟩ := toPs_sim hl hargs
          rw [h3, if_pos h4, hx2]
          simp only [Option.bind_some]
          split at h
          · rename_i u hu
            exact here (ofP_rel hu) xx h
          · cases h
        · rename_i hx
          simp only [hx]
          split
          · rename_i hs
            simp only [hs]
            split
            · rename_i v hv
              rw [hv] at hargs
              cases hargs2 : l' ++ vs' ++ m' with
              | nil => rw [hargs2] at hargs; cases hargs
              | cons v' r =>
                rw [hargs2] at hargs
                cases hargs with
                | cons a b => cases b; exact here a
            · exact Rel.none
          · rename_i hs
            simp only [hs]
            rw [hE0]
            exact Rel.none
    · exact Rel.none
  · unfold eOp
    split
    all_goals first
      | exact quiet
      | (rename_i ho
         unfold vQuiet
         simp only [ho]
         exact Rel.none)
      | (rename_i ho
         exfalso
         solve_by_elim)
end
end Go.Proofs.Ytfneikjincmhpaa.Sh.V
namespace Go.Proofs.Ytfneikjincmhpaa.Sh.V
open Go.Proofs.Ytfneikjincmhpaa.Sh Go.RowKit

/-! ### What an operation looks at -/
section
variable {P : Program} {E : Env} {o : Oper} {t t' : List V}
theorem evT_look {T : TypeId} {x : Operand} (h : ev t' x = ev t x) : evT P T t' x = evT P T t x := by
  cases x with
  | const v => rfl
  | _ => exact h
theorem evs_look : ∀ {xs : List Operand}, (∀ x ∈ xs, ev t' x = ev t x) → evs t' xs = evs t xs
  | [], _ => rfl
  | x :: r, h => by simp only [evs]; rw [h x (by simp), evs_look fun y hy => h y (by simp [hy])]
theorem evTs_look : ∀ {Ts : List TypeId} {xs : List Operand}, (∀ x ∈ xs, ev t' x = ev t x) → evTs P t' Ts xs = evTs P t Ts xs
  | [], xs, h => by unfold evTs; exact evs_look h
  | _ :: _, [], h => by unfold evTs; exact evs_look h
  | T :: Ts, x :: r, h => by simp only [evTs]; rw [evT_look (h x (by simp)), evTs_look fun y hy => h y (by simp [hy])]
theorem evParts_look : ∀ {xs : List (Nat × Operand)}, (∀ x ∈ xs, ev t' x.2 = ev t x.2) → evParts t' xs = evParts t xs
  | [], _ => rfl
  | (i, x) :: r, h => by simp only [evParts]; rw [h (i, x) (by simp), evParts_look fun y hy => h y (by simp [hy])]
theorem evo_look {x : Option Operand} (h : ∀ y ∈ x.toArray.toList, ev t' y = ev t y) : evo t' x = evo t x := by
  cases x with
  | none => rfl
  | some y => simp only [evo]; rw [h y (by simp)]
theorem vQuiet_look {H : VH} {K : V → VRes} (h : ∀ x ∈ o.op.operands.toList, ev t' x = ev t x) : vQuiet P o t' H K = vQuiet P o t H K := by
  unfold vQuiet
  split
  · rename_i x ho; rw [ho] at h; rw [evT_look (h x (by simp [Op.operands]))]
  · rename_i x ho; rw [ho] at h; rw [evT_look (h x (by simp [Op.operands]))]
  · rename_i x a b ho; rw [ho] at h; rw [h x (by simp [Op.operands]), h a (by simp [Op.operands]), h b (by simp [Op.operands])]
  · rename_i x ho; rw [ho] at h; rw [h x (by simp [Op.operands])]
  · rename_i op T x y U ho; rw [ho] at h; rw [h x (by simp [Op.operands]), h y (by simp [Op.operands])]
  · rename_i op T x ho; rw [ho] at h; rw [h x (by simp [Op.operands])]
  · rename_i src d x ho; rw [ho] at h; rw [h x (by simp [Op.operands])]
  · rename_i fn first captured ho; rw [ho] at h; rw [evs_look (xs := first.toList) fun x hx => h x (by simp [Op.operands] at hx ⊢; exact .inl hx), evs_look (xs := captured.toList) fun x hx => h x (by simp [Op.operands] at hx ⊢; exact .inr hx)]
  · rename_i s x f ho; rw [ho] at h; rw [h x (by simp [Op.operands])]
  · rename_i s x f ho; rw [ho] at h; rw [h x (by simp [Op.operands])]
  · rename_i T x i ho; rw [ho] at h; rw [h x (by simp [Op.operands]), h i (by simp [Op.operands])]
  · rename_i T x i ho; rw [ho] at h; rw [h x (by simp [Op.operands]), h i (by simp [Op.operands])]
  · rename_i T x lo hi mx ho
    rw [ho] at h
    rw [h x (by simp [Op.operands]), evo_look (x := lo) fun y hy => h y (by simp [Op.operands] at hy ⊢; simp [hy]), evo_look (x := hi) fun y hy => h y (by simp [Op.operands] at hy ⊢; simp [hy]), evo_look (x := mx) fun y hy => h y (by simp [Op.operands] at hy ⊢; simp [hy])]
  · rename_i x i ho; rw [ho] at h; rw [h x (by simp [Op.operands])]
  · rename_i x T ho; rw [ho] at h; rw [h x (by simp [Op.operands, Call.operands])]
  · rename_i x y Ts ho; rw [ho] at h; rw [h x (by simp [Op.operands, Call.operands]), h y (by simp [Op.operands, Call.operands])]
  · rename_i x y Ts ho; rw [ho] at h; rw [h x (by simp [Op.operands, Call.operands]), h y (by simp [Op.operands, Call.operands])]
  · rfl
theorem vOp_look {H : VH} {K : V → VH → VRes} (h : ∀ x ∈ o.op.operands.toList, ev t' x = ev t x) : vOp P E o t' H K = vOp P E o t H K := by
  unfold vOp
  split
  · rfl
  · rename_i T x ho; rw [ho] at h; rw [h x (by simp [Op.operands])]
  · rename_i T parts ho; rw [ho] at h; rw [evParts_look fun x hx => h x.2 (by simp [Op.operands]; exact ⟨x.1, by simpa using hx⟩)]
  · rename_i T n parts ho; rw [ho] at h; rw [evParts_look fun x hx => h x.2 (by simp [Op.operands]; exact ⟨x.1, by simpa using hx⟩)]
  · rename_i T x ho; rw [ho] at h; rw [h x (by simp [Op.operands])]
  · rename_i T x y ho; rw [ho] at h; rw [h x (by simp [Op.operands]), evT_look (h y (by simp [Op.operands]))]
  · rename_i T x y ho; rw [ho] at h; rw [h x (by simp [Op.operands]), h y (by simp [Op.operands])]
  · rename_i src d x ho; rw [vQuiet_look h]; rw [ho] at h; rw [h x (by simp [Op.operands])]
  · rename_i s x T U ho; rw [ho] at h; rw [h s (by simp [Op.operands, Call.operands]), h x (by simp [Op.operands, Call.operands])]
  · rename_i f args Ts ho; rw [ho] at h; rw [h f (by simp [Op.operands, Call.operands]), evTs_look fun x hx => h x (by simp [Op.operands, Call.operands] at hx ⊢; exact .inr hx)]
  · rw [vQuiet_look h]
theorem ev_put {t : List V} {d : Option Tmp} {v : V} {x : Operand} (h : ∀ s, d = some s → x ≠ .tmp s) : ev (put t d v) x = ev t x := by
  cases d with
  | none => rfl
  | some d =>
    cases x with
    | tmp i =>
      have hne : d ≠ i := fun e => h d rfl (e ▸ rfl)
      simp only [put, ev, List.getD_eq_getElem?_getD]
      rw [List.getElem?_set_ne hne]
    | _ => rfl
theorem looks_ev {ops : Array Oper} {d : Option Tmp} {v : V} (h : ∀ s, d = some s → s ∉ o.looksAt ops) : ∀ x ∈ o.op.operands.toList, ev (put t d v) x = ev t x := by
  intro x hx
  refine ev_put fun s hs e => h s hs ?_
  subst e
  unfold Oper.looksAt
  rw [List.mem_append]
  left
  rw [List.mem_filterMap]
  exact ⟨_, hx, rfl⟩
end
/-! ### All orders of a region -/
inductive GV where | yes | no | bad
/-- Is an operation carried out? -/
def gv (ops : Array Oper) (o : Oper) (t : List V) : GV :=
  match o.guard with
  | none => .yes
  | some (j, want) =>
    match (ops[j]?).bind (·.dst) with
    | some s =>
      match t.getD s .undef with
      | .bool b => if b = want then .yes else .no
      | .skip => .no
      | _ => .bad
    | none => .bad
section
variable (P : Program) (E : Env) (ops : Array Oper)
def vStep (i : Nat) (Kp : List V → VH → Prop) (t : List V) (H : VH) : Prop :=
  match ops[i]? with
  | none => False
  | some o =>
    match gv ops o t with
    | .yes => ∃ v H', vOp P E o t H (fun v H => some (v, H)) = some (v, H') ∧ Kp (put t o.dst v) H'
    | .no => Kp (put t o.dst .skip) H
    | .bad => False
def vAny (Q : List V → VH → Prop) (S : Nat → VH → Prop) : Nat → Array Bool → List V → VH → Prop
  | 0, listed, t, H => Region.ready .any ops listed = [] ∧ Q t H
  | f + 1, listed, t, H => (Region.ready .any ops listed = [] → Q t H) ∧ ∀ i ∈ Region.ready .any ops listed, vStep P E ops i (fun t' H' => (H' = H ∨ S i H') ∧ vAny Q S f (listed.setIfInBounds i true) t' H') t H
end
section
variable {P : Program} {E : Env} {ops : Array Oper} {Q : List V → VH → Prop} {S : VH → Prop}
theorem vStep_mono {i : Nat} {K K' : List V → VH → Prop} {t : List V} {H : VH} (hk : ∀ t H, K t H → K' t H) (h : vStep P E ops i K t H) : vStep P E ops i K' t H := by
  unfold vStep at *
  split at h
  · exact h
  · split at h
    · obtain ⟨v, H', h1, h2⟩ := h; exact ⟨v, H', h1, hk _ _ h2⟩
    · exact hk _ _ h
    · exact h
theorem vAny_mono {S S' : Nat → VH → Prop} (hS : ∀ i H, S' i H → S i H) : ∀ (f : Nat) (listed : Array Bool) (t : List V) (H : VH), vAny P E ops Q S' f listed t H → vAny P E ops Q S f listed t H
  | 0, _, _, _, h => h
  | f + 1, _, _, _, h => ⟨h.1, fun i hi => vStep_mono (fun t' H' h' => ⟨h'.1.imp id (hS _ _), vAny_mono hS f _ t' H' h'.2⟩) (h.2 i hi)⟩
/-- In this state, and whatever else there is (if S holds), an operation yields v and changes nothing. -/
def VYields (P : Program) (E : Env) (ops : Array Oper) (S : VH → Prop) (o : Oper) (v : V) (t : List V) : Prop :=
  (gv ops o t = .yes ∧ ∀ H, S H → vOp P E o t H (fun v H => some (v, H)) = some (v, H)) ∨ (gv ops o t = .no ∧ v = .skip)
theorem gv_put {o : Oper} {t : List V} {d : Option Tmp} {v : V} (h : ∀ s, d = some s → s ∉ o.looksAt ops) : gv ops o (put t d v) = gv ops o t := by
  unfold gv
  cases hg : o.guard with
  | none => rfl
  | some p =>
    obtain ⟨j, want⟩ := p
    simp only
    cases hd : (ops[j]?).bind (·.dst) with
    | none => rfl
    | some s =>
      simp only
      cases d with
      | none => rfl
      | some d =>
        have hne : d ≠ s := by
          rintro rfl
          refine h d rfl ?_
          unfold Oper.looksAt
          simp [hg, hd]
        simp only [put, List.getD_eq_getElem?_getD]
        rw [List.getElem?_set_ne hne]
theorem VYields.put {o : Oper} {v u : V} {t : List V} {d : Option Tmp} (hy : VYields P E ops S o v t) (h : ∀ s, d = some s → s ∉ o.looksAt ops) : VYields P E ops S o v (put t d u) := by
  unfold VYields at *
  rw [gv_put h]
  rcases hy with ⟨h1, h2⟩ | h2
  · left
    refine ⟨h1, fun H hH => ?_⟩
    rw [vOp_look (looks_ev h)]
    exact h2 H hH
  · exact .inr h2
theorem put_comm {t : List V} {d e : Option Tmp} {u v : V} (h : ∀ s, d = some s → e ≠ some s) : put (put t d u) e v = put (put t e v) d u := by
  cases d with
  | none => rfl
  | some d =>
    cases e with
    | none => rfl
    | some e =>
      have : d ≠ e := fun x => h d rfl (x ▸ rfl)
      exact List.set_comm _ _ this
theorem VYields.step {i : Nat} {o : Oper} {v : V} {t : List V} {H : VH} {K : List V → VH → Prop} (hi : ops[i]? = some o) (hy : VYields P E ops S o v t) (hS : S H) (h : K (V.put t o.dst v) H) : vStep P E ops i K t H := by
  unfold vStep
  rw [hi]
  simp only
  rcases hy with ⟨h1, h2⟩ | ⟨h1, rfl⟩
  · rw [h1]; exact ⟨v, H, h2 H hS, h⟩
  · rw [h1]; exact h
theorem vStep_put {j : Nat} {oi oj : Oper} {v : V} (hj : ops[j]? = some oj) (hap : oi.apart ops oj = true) {K : List V → VH → Prop} {t : List V} {H : VH} (hy : VYields P E ops S oi v t) (h : vStep P E ops j K (V.put t oi.dst v) H) :
    vStep P E ops j (fun t' H' => VYields P E ops S oi v t' ∧ K (V.put t' oi.dst v) H') t H := by
  obtain ⟨h1, h2, h3⟩ := Oper.apart_spec hap
  unfold vStep at *
  simp only [hj] at *
  rw [gv_put h1] at h
  split
  · rename_i hg
    rw [hg] at h
    simp only at h
    obtain ⟨u, H', h4, h5⟩ := h
    rw [vOp_look (looks_ev h1)] at h4
    refine ⟨u, H', h4, hy.put h3, ?_⟩
    rw [put_comm h2] at h5
    exact h5
  · rename_i hg
    rw [hg] at h
    simp only at h
    refine ⟨hy.put h3, ?_⟩
    rw [put_comm h2] at h
    exact h
  · rename_i hg
    rw [hg] at h
    exact h
def waitsB (ops : Array Oper) (i j : Nat) : Bool :=
  match ops[i]? with
  | some o => waitsL o.after.toList j
  | none => false
theorem waitsL_false {i : Nat} : ∀ {as : List Edge}, (∀ e ∈ as, Region.binds .any e = true → e.on ≠ i) → waitsL as i = false
  | [], _ => rfl
  | e :: r, h => by
    unfold waitsL
    have ih := waitsL_false (as := r) (fun e he => h e (List.mem_cons_of_mem _ he))
    cases hb : Nat.beq e.on i with
    | false => exact ih
    | true =>
      have := Nat.eq_of_beq_eq_true hb
      cases hd : Region.binds .any e with
      | false => simpa using ih
      | true => exact absurd this (h e (List.mem_cons_self ..) hd)
theorem waitsB_false {i j : Nat} {oj : Oper} (hj : ops[j]? = some oj) (h : ∀ e ∈ oj.after, Region.binds .any e = true → e.on ≠ i) : waitsB ops j i = false := by
  unfold waitsB
  rw [hj]
  exact waitsL_false (fun e he => h e (by simpa using he))
theorem vAny_first {i : Nat} {oi : Oper} {v : V} (hi : ops[i]? = some oi) {Si : VH → Prop} {S : Nat → VH → Prop} (hSi : ∀ j H, waitsB ops j i = false → S j H → Si H) :
    ∀ (fuel : Nat) (listed : Array Bool) (t : List V) (H : VH),
      (∀ j oj, ops[j]? = some oj → j ≠ i → listed.getD j true = false → (∀ e ∈ oj.after, Region.binds .any e = true → e.on ≠ i) → oi.apart ops oj = true) →
      i ∈ Region.ready .any ops listed → VYields P E ops Si oi v t → Si H →
      vAny P E ops Q S fuel (listed.setIfInBounds i true) (put t oi.dst v) H → vAny P E ops Q S (fuel + 1) listed t H := by
  intro fuel
  induction fuel with
  | zero =>
    intro listed t H _ hr hy hS hA
    refine ⟨fun h => (by rw [h] at hr; cases hr), fun j hj => ?_⟩
    by_cases hji : j = i
    · subst hji; exact hy.step hi hS ⟨.inl rfl, hA⟩
    · have := ready_mono hj hji
      rw [hA.1] at this
      cases this
  | succ fuel ih =>
    intro listed t H hfree hr hy hS hA
    refine ⟨fun h => (by rw [h] at hr; cases hr), fun j hj => ?_⟩
    by_cases hji : j = i
    · subst hji; exact hy.step hi hS ⟨.inl rfl, hA⟩
    · have h1 := hA.2 j (ready_mono hj hji)
      obtain ⟨hjun, oj, hoj, hall⟩ := mem_ready.1 hj
      have hnot : ∀ e ∈ oj.after, Region.binds .any e = true → e.on ≠ i := fun e he hb heq => by
        have h1 := hall e he hb
        have h0 := (mem_ready.1 hr).1
        rw [heq] at h1
        rcases Nat.lt_or_ge i listed.size with h' | h'
        · simp [h'] at h0 h1; rw [h0] at h1; cases h1
        · simp [Array.getElem?_eq_none h'] at h1
      have h2 := vStep_put hoj (hfree j oj hoj hji hjun hnot) hy h1
      have hfree' : ∀ k ok, ops[k]? = some ok → k ≠ i → (listed.setIfInBounds j true).getD k true = false →
          (∀ e ∈ ok.after, Region.binds .any e = true → e.on ≠ i) → oi.apart ops ok = true := fun k ok hk hki hun hno => by
        refine hfree k ok hk hki ?_ hno
        by_cases hjk : j = k
        · subst hjk; exact hjun
        · rw [getD_set_ne true hjk] at hun; exact hun
      refine vStep_mono (fun t' H' h3 => ?_) h2
      have hS' : Si H' := by
        rcases h3.2.1 with h4 | h4
        · rw [h4]; exact hS
        · exact hSi j H' (waitsB_false hoj hnot) h4
      refine ⟨h3.2.1, ih (listed.setIfInBounds j true) t' H' hfree' (ready_mono hr (Ne.symm hji)) h3.1 hS' ?_⟩
      rw [Array.setIfInBounds_comm _ _ hji]
      exact h3.2.2
/-! ### One order is enough -/
def HeldV (held : Held) (H : VH) : Prop := ∀ x ∈ held, (ldV (.flat x.2.1) H x.1).map (fenc x.2.1) = some x.2.2
theorem eqL_eq {f : V → V → Bool} (hf : ∀ a b, f a b = true → a = b) : ∀ {l m : List V}, eqL f l m = true → l = m
  | [], [], _ => rfl
  | [], _ :: _, h => by cases h
  | _ :: _, [], h => by cases h
  | a :: l, b :: m, h => by simp only [eqL, Bool.and_eq_true] at h; rw [hf a b h.1, eqL_eq hf h.2]
theorem eqLL_eq {f : V → V → Bool} (hf : ∀ a b, f a b = true → a = b) : ∀ {l m : List (List V)}, eqLL f l m = true → l = m
  | [], [], _ => rfl
  | [], _ :: _, h => by cases h
  | _ :: _, [], h => by cases h
  | a :: l, b :: m, h => by simp only [eqLL, Bool.and_eq_true] at h; rw [eqL_eq hf h.1, eqLL_eq hf h.2]
theorem eqC_eq {a b : VC} (h : eqC a b = true) : a = b := by
  cases a <;> cases b <;> simp only [eqC, Bool.and_eq_true, Bool.false_eq_true] at h <;> first
    | rfl
    | (rw [Nat.eq_of_beq_eq_true h])
    | (rw [Nat.eq_of_beq_eq_true h.1, Nat.eq_of_beq_eq_true h.2])
theorem eqV_eq : ∀ (n : Nat) (a b : V), eqV n a b = true → a = b
  | 0, _, _, h => by cases h
  | n + 1, a, b, h => by
    unfold eqV at h
    split at h <;> first
      | (cases h; done)
      | rfl
      | (rw [eq_of_beq h])
      | (simp only [Bool.and_eq_true, decide_eq_true_eq] at h; obtain ⟨rfl, rfl⟩ := h; rfl)
      | (simp only [Bool.and_eq_true, decide_eq_true_eq] at h; obtain ⟨rfl, h⟩ := h; rw [Nat.eq_of_beq_eq_true h])
      | (rw [of_decide_eq_true h])
      | (simp only [Bool.and_eq_true] at h; rw [Nat.eq_of_beq_eq_true h.1, Nat.eq_of_beq_eq_true h.2])
      | (rw [eqL_eq (eqV_eq n) h])
      | (rw [Nat.eq_of_beq_eq_true h])
      | (simp only [Bool.and_eq_true] at h; rw [Nat.eq_of_beq_eq_true h.1, eqC_eq h.2.1, eqLL_eq (eqV_eq n) h.2.2])
theorem same_eq {v u : V} (h : same v u = true) : u = v := by
  unfold same at h
  rw [Bool.or_eq_true] at h
  rcases h with h | h
  · exact (eqV_eq _ _ _ h).symm
  · exact (@of_decide_eq_true _ (Classical.propDecidable _) h).symm
theorem same_self (v : V) : same v v = true := by
  unfold same
  rw [Bool.or_eq_true]
  exact .inr (@decide_eq_true _ (Classical.propDecidable _) rfl)
theorem stays_held {H : VH} : ∀ {held : Held}, stays H held = true → HeldV held H
  | [], _ => fun x hx => by cases hx
  | (p, τ, v) :: r, h => by
    simp only [stays, Bool.and_eq_true] at h
    intro x hx
    rcases List.mem_cons.1 hx with rfl | hx
    · have h1 := h.1
      split at h1
      · rename_i u hu
        rw [hu, Option.map_some, same_eq h1]
      · cases h1
    · exact stays_held h.2 x hx
theorem vQuiet_par {o : Oper} {t : List V} {H0 : VH} {K : V → VRes} {r : V × VH} (h : vQuiet P o t H0 K = some r) : ∃ v, K v = some r ∧ ∀ (H : VH) (K2 : V → VRes), (H = H0 ∨ H0 = []) → vQuiet P o t H K2 = K2 v := by
  have vb : ∀ {op : BinOp} {T rt : TypeId} {x y : V} {K : V → VRes}, vBin P op T rt x y K = some r → ∃ v, K v = some r ∧ ∀ (K2 : V → VRes), vBin P op T rt x y K2 = K2 v := by
    intro op T rt x y K h
    unfold vBin at h
    have nil : ∀ {b : Bool} , nilEq op b K = some r → ∃ v, K v = some r ∧ ∀ (K2 : V → VRes), nilEq op b K2 = K2 v := by
      intro b h
      cases op <;> simp only [nilEq] at h <;> first | (cases h; done) | exact ⟨_, h, fun K2 => rfl⟩
    split at h
    · rename_i a b ha hb
      obtain ⟨q, h1, h2⟩ := eBin_par (γ := V × VH) h
      split at h1
      · rename_i u hu
        refine ⟨u, h1, fun K2 => ?_⟩
        unfold vBin
        simp only [ha, hb]
        rw [h2, hu]
      · cases h1
    · rename_i hne
      have unf : ∀ (K : V → VRes), vBin P op T rt x y K = vCmp P op T x y K := by
        intro K
        unfold vBin
        split
        · rename_i a b ha hb; exact (hne a b ha hb).elim
        · rfl
      simp only [unf]
      unfold vCmp at h
      split at h
      · split at h
        · rename_i e he
          rw [Option.bind_eq_some_iff] at h
          obtain ⟨q, hq, h⟩ := h
          obtain ⟨v, h1, h2⟩ := nil h
          exact ⟨v, h1, fun K2 => by unfold vCmp; simp only [he, hq, Option.bind_some]; exact h2 K2⟩
        · cases h
      · split at h
        · rename_i e he
          obtain ⟨v, h1, h2⟩ := nil h
          exact ⟨v, h1, fun K2 => by unfold vCmp; simp only [he]; exact h2 K2⟩
        · cases h
      · split at h
        · rename_i e1 e2 he
          obtain ⟨v, h1, h2⟩ := nil h
          exact ⟨v, h1, fun K2 => by unfold vCmp; simp only [he]; exact h2 K2⟩
        · cases h
      · cases h
  unfold vQuiet at h
  split at h
  · rename_i x ho
    rw [Option.bind_eq_some_iff] at h; obtain ⟨v, hv, h⟩ := h
    exact ⟨v, h, fun H K2 hH => by unfold vQuiet; simp only [ho, hv, Option.bind_some]⟩
  · rename_i x ho
    rw [Option.bind_eq_some_iff] at h; obtain ⟨v, hv, h⟩ := h
    exact ⟨v, h, fun H K2 hH => by unfold vQuiet; simp only [ho, hv, Option.bind_some]⟩
  · rename_i x a b ho
    split at h
    · rename_i h1 h2 h3
      exact ⟨_, h, fun H K2 hH => by unfold vQuiet; simp only [ho, h1, h2, h3]⟩
    · rename_i q y z hne h1 h2 h3
      have key : ∀ (H : VH) (K2 : V → VRes), vQuiet P o t H K2 = cond q (K2 y) (K2 z) := by
        intro H K2
        unfold vQuiet
        simp only [ho, h1, h2, h3]
      cases q with
      | true => exact ⟨y, h, fun H K2 _ => key H K2⟩
      | false => exact ⟨z, h, fun H K2 _ => key H K2⟩
    · cases h
  · rename_i x ho
    split at h
    · rename_i p h1
      rw [Option.bind_eq_some_iff] at h; obtain ⟨v, hv, h⟩ := h
      exact ⟨_, h, fun H K2 hH => by unfold vQuiet; simp only [ho, h1, hv, Option.bind_some]⟩
    · rename_i f a b h1
      exact ⟨_, h, fun H K2 hH => by unfold vQuiet; simp only [ho, h1]⟩
    · cases h
  · rename_i op T x y U ho
    split at h
    · rename_i a b h1 h2
      obtain ⟨v, h3, h4⟩ := vb h
      exact ⟨v, h3, fun H K2 _ => by unfold vQuiet; simp only [ho, h1, h2]; exact h4 K2⟩
    · cases h
  · rename_i op T x ho
    rw [Option.bind_eq_some_iff] at h; obtain ⟨v, hv, h⟩ := h
    unfold vUn at h
    split at h
    · rename_i a ha
      obtain ⟨q, h1, h2⟩ := eUn_par (γ := V × VH) h
      split at h1
      · rename_i u hu
        exact ⟨u, h1, fun H K2 hH => by unfold vQuiet; simp only [ho, hv, Option.bind_some, vUn, ha]; rw [h2, hu]⟩
      · cases h1
    · cases h
  · rename_i src d x ho
    rw [Option.bind_eq_some_iff] at h; obtain ⟨v, hv, h⟩ := h
    unfold vConv at h
    split at h
    · rename_i a ha
      obtain ⟨q, h1, h2⟩ := eConv_par (γ := V × VH) h
      split at h1
      · rename_i u hu
        exact ⟨u, h1, fun H K2 hH => by unfold vQuiet; simp only [ho, hv, Option.bind_some, vConv, ha]; rw [h2, hu]⟩
      · cases h1
    · cases h
  · rename_i fn first captured ho
    split at h
    · rename_i f c h1 h2
      exact ⟨_, h, fun H K2 hH => by unfold vQuiet; simp only [ho, h1, h2]⟩
    · cases h
  · rename_i s x f ho
    split at h
    · rename_i fs a hs h1
      split at h
      · rename_i fd hf
        split at h
        · cases h
        · rename_i hz
          rw [Option.bind_eq_some_iff] at h; obtain ⟨v, hv, h⟩ := h
          exact ⟨_, h, fun H K2 hH => by unfold vQuiet; simp only [ho, hs, h1, hf, if_neg hz, hv, Option.bind_some]⟩
      · cases h
    · cases h
  · rename_i s x f ho
    split at h
    · rename_i fs vs hs h1
      split at h
      · rename_i fd hf
        split at h
        · rename_i h2; exact ⟨_, h, fun H K2 hH => by unfold vQuiet; simp only [ho, hs, h1, hf, h2]⟩
        · rename_i h2; exact ⟨_, h, fun H K2 hH => by unfold vQuiet; simp only [ho, hs, h1, hf, h2]⟩
        · rename_i d n1 n2 h2
          rw [Option.bind_eq_some_iff] at h; obtain ⟨v, hv, h⟩ := h
          refine ⟨v, h, fun H K2 hH => ?_⟩
          unfold vQuiet
          simp only [ho, hs, h1, hf]
          split
          · rename_i h3; rw [h2] at h3; injection h3 with h3; exact absurd h3 (n1 _)
          · rename_i h3; rw [h2] at h3; injection h3 with h3; exact absurd h3 (n2 _ _)
          · rw [hv]; rfl
          · rename_i h3; rw [h2] at h3; cases h3
        · cases h
      · cases h
    · cases h
  · rename_i T x i ho
    split at h
    · rename_i e e0 s k i hT h1 h2
      split at h
      · cases h
      · rename_i hz
        simp only [Option.bind_eq_some_iff] at h
        obtain ⟨s2, hs2, q, hq2, h⟩ := h
        exact ⟨_, h, fun H K2 hH => by unfold vQuiet; simp only [ho, hT, h1, h2, if_neg hz, hs2, hq2, Option.bind_some]⟩
    · cases h
  · rename_i T x i ho
    split at h
    · rename_i s k i hT h1 h2
      rw [Option.bind_eq_some_iff] at h; obtain ⟨v, hv, h⟩ := h
      exact ⟨_, h, fun H K2 hH => by unfold vQuiet; simp only [ho, hT, h1, h2, hv, Option.bind_some]⟩
    · cases h
  · rename_i T x lo hi mx ho
    split at h
    · rename_i s lo hi hT h1 h2 h3 h4
      rw [Option.bind_eq_some_iff] at h; obtain ⟨v, hv, h⟩ := h
      exact ⟨_, h, fun H K2 hH => by unfold vQuiet; simp only [ho, hT, h1, h2, h3, h4, hv, Option.bind_some]⟩
    · rename_i e e0 s lo hi mx hT h1 h2 h3 h4
      split at h
      · cases h
      · rename_i hz
        split at h
        · cases h
        · rename_i hm
          simp only [Option.bind_eq_some_iff] at h
          obtain ⟨s2, hs2, q, hq2, h⟩ := h
          have hcut : ∀ H : VH, (H = H0 ∨ H0 = []) → cutD H e (P.cellsOf e) s2 lo hi mx = some q := by
            intro H hH
            rcases hH with rfl | rfl
            · exact hq2
            · unfold cutD at hq2 ⊢
              rw [holdV_eq] at hq2 ⊢
              cases s2 with
              | nil => exact hq2
              | fz es cp => exact hq2
              | hp i off n =>
                simp only [cutV, List.getElem?_nil] at hq2
                cases hq2
          exact ⟨_, h, fun H K2 hH => by unfold vQuiet; simp only [ho, hT, h1, h2, h3, h4, if_neg hz, if_neg hm, hs2, hcut H hH, Option.bind_some]⟩
    · cases h
  · rename_i x i ho
    split at h
    · rename_i vs h1
      cases hs : isSkip vs with
      | true => rw [hs] at h; cases h
      | false =>
        rw [hs] at h
        simp only [cond_false, Option.bind_eq_some_iff] at h
        obtain ⟨v, hv, h⟩ := h
        exact ⟨_, h, fun H K2 hH => by unfold vQuiet; simp only [ho, h1, hs, cond_false, hv, Option.bind_some]⟩
    · cases h
  · rename_i x T ho
    split at h
    · rename_i s e0 e hT h1
      exact ⟨_, h, fun H K2 hH => by unfold vQuiet; simp only [ho, hT, h1]⟩
    · rename_i s hT h1
      exact ⟨_, h, fun H K2 hH => by unfold vQuiet; simp only [ho, hT, h1]⟩
    · cases h
  · rename_i x y Ts ho
    split at h
    · rename_i k a k2 b h1 h2
      exact ⟨_, h, fun H K2 hH => by unfold vQuiet; simp only [ho, h1, h2]⟩
    · cases h
  · rename_i x y Ts ho
    split at h
    · rename_i k a k2 b h1 h2
      exact ⟨_, h, fun H K2 hH => by unfold vQuiet; simp only [ho, h1, h2]⟩
    · cases h
  · cases h
theorem vQuiet_any {o : Oper} {t : List V} {K : V → VRes} {r : V × VH} (h : vQuiet P o t [] K = some r) : ∃ v, K v = some r ∧ ∀ (H : VH), vQuiet P o t H (fun v => some (v, H)) = some (v, H) := by
  obtain ⟨v, h1, h2⟩ := vQuiet_par h
  exact ⟨v, h1, fun H => h2 H _ (.inr rfl)⟩
theorem vOp_factor {o : Oper} {t : List V} {H : VH} {K : V → VH → VRes} {r : V × VH} (h : vOp P E o t H K = some r) : ∃ v H', vOp P E o t H (fun v H => some (v, H)) = some (v, H') ∧ K v H' = some r := by
  have quiet : vQuiet P o t H (fun v => K v H) = some r → ∃ v H', vQuiet P o t H (fun v => some (v, H)) = some (v, H') ∧ K v H' = some r := by
    intro h
    obtain ⟨v, h1, h2⟩ := vQuiet_par h
    exact ⟨v, H, h2 H _ (.inl rfl), h1⟩
  unfold vOp at h ⊢
  split at h
  · rename_i T ho
    rw [Option.bind_eq_some_iff] at h; obtain ⟨z, hz, h⟩ := h
    exact ⟨_, _, by simp only [ho, hz, Option.bind_some], h⟩
  · rename_i T x ho
    rw [Option.bind_eq_some_iff] at h; obtain ⟨z, hz, h⟩ := h
    obtain ⟨h1, h⟩ := ite_some h
    exact ⟨_, _, by simp only [ho, hz, Option.bind_some, if_pos h1], h⟩
  · rename_i T parts ho
    split at h
    · rename_i fs z ps h1 h2 h3
      obtain ⟨h4, h⟩ := ite_some h
      simp only [Option.bind_eq_some_iff] at h
      obtain ⟨pl, hpl, cs, hcs, h⟩ := h
      exact ⟨_, _, by simp only [ho, h1, h2, h3, if_pos h4, hpl, hcs, Option.bind_some], h⟩
    · cases h
  · rename_i T n parts ho
    split at h
    · rename_i e ps h1 h2
      split at h
      · cases h
      · rename_i h3
        rw [Option.bind_eq_some_iff] at h; obtain ⟨z, hz, h⟩ := h
        obtain ⟨h4, h⟩ := ite_some h
        rw [Option.bind_eq_some_iff] at h; obtain ⟨cs, hcs, h⟩ := h
        obtain ⟨h5, h⟩ := ite_some h
        cases hk : E.keep with
        | true =>
          rw [hk] at h
          simp only [cond_true] at h
          obtain ⟨h6, h⟩ := ite_some h
          exact ⟨_, _, by simp only [ho, h1, h2, if_neg h3, hz, if_pos h4, hcs, if_pos h5, hk, cond_true, if_pos h6, Option.bind_some], h⟩
        | false =>
          rw [hk] at h
          simp only [cond_false] at h
          exact ⟨_, _, by simp only [ho, h1, h2, if_neg h3, hz, if_pos h4, hcs, if_pos h5, hk, cond_false, Option.bind_some], h⟩
    · cases h
  · rename_i T x ho
    split at h
    · rename_i a h1
      split at h
      · cases h
      · rename_i hU
        split at h
        · rename_i τ hf
          rw [Option.bind_eq_some_iff] at h; obtain ⟨q, hq, h⟩ := h
          exact ⟨_, _, by simp only [ho, h1, if_neg hU, hf]; rw [hq]; rfl, h⟩
        · rename_i l hf
          obtain ⟨hl, h⟩ := ite_some h
          rw [Option.bind_eq_some_iff] at h; obtain ⟨q, hq, h⟩ := h
          exact ⟨_, _, by simp only [ho, h1, if_neg hU, hf, if_pos hl]; rw [hq]; rfl, h⟩
    · cases h
  · rename_i T x y ho
    split at h
    · rename_i a v h1 h2
      obtain ⟨h3, h⟩ := ite_some h
      rw [Option.bind_eq_some_iff] at h; obtain ⟨q, hq, h⟩ := h
      exact ⟨_, _, by simp only [ho, h1, h2, if_pos h3, hq, Option.bind_some], h⟩
    · cases h
  · rename_i T x y ho
    split at h
    · rename_i e k l k2 c h1 h2 h3
      rw [Option.bind_eq_some_iff] at h; obtain ⟨q, hq, h⟩ := h
      exact ⟨_, _, by simp only [ho, h1, h2, h3, hq, Option.bind_some], h⟩
    · cases h
  · rename_i src d x ho
    simp only [ho]
    split at h
    · rename_i e s hs hd h1
      split at h
      · rename_i hu
        obtain ⟨h3, h⟩ := ite_some h
        cases hk : E.frm with
        | true =>
          rw [hk] at h
          exact ⟨_, _, by simp only [hs, hd, h1, hu, if_pos h3, hk, cond_true], h⟩
        | false =>
          rw [hk] at h
          exact ⟨_, _, by simp only [hs, hd, h1, hu, if_pos h3, hk, cond_false], h⟩
      · cases h
    · rename_i e e0 s hs hd h1
      split at h
      · rename_i hu
        obtain ⟨h3, h⟩ := ite_some h
        simp only [Option.bind_eq_some_iff] at h
        obtain ⟨s2, hs2, q, hq, h⟩ := h
        exact ⟨_, _, by simp only [hs, hd, h1, hu, if_pos h3, hs2, hq, Option.bind_some], h⟩
      · cases h
    · rename_i e0 e e2 i off n2 hs hd h1
      split at h
      · rename_i hu
        obtain ⟨h3, h⟩ := ite_some h
        exact ⟨_, _, by simp only [hs, hd, h1, hu, if_pos h3], h⟩
      · cases h
    · exact quiet h
  · rename_i s x T U ho
    split at h
    · rename_i e e1 a e2 b h1 h2 h3
      obtain ⟨h4, h⟩ := ite_some h
      simp only [Option.bind_eq_some_iff] at h
      obtain ⟨a2, ha2, b2, hb2, q, hq, h⟩ := h
      exact ⟨_, _, by simp only [ho, h1, h2, h3, if_pos h4, ha2, hb2, hq, Option.bind_some], h⟩
    · rename_i e e1 a b h1 h2 h3
      obtain ⟨h4, h⟩ := ite_some h
      simp only [Option.bind_eq_some_iff] at h
      obtain ⟨a2, ha2, q, hq, h⟩ := h
      exact ⟨_, _, by simp only [ho, h1, h2, h3, if_pos h4, ha2, hq, Option.bind_some], h⟩
    · cases h
  · rename_i f args Ts ho
    split at h
    · rename_i g first cap vs h1 h2
      split at h
      · rename_i e he
        simp only [Option.bind_eq_some_iff] at h
        obtain ⟨l, hl, x, hx, h⟩ := h
        split at h
        · rename_i u hu
          exact ⟨_, _, by simp only [ho, h1, h2, he, hl, hx, hu, Option.bind_some], h⟩
        · cases h
      · rename_i he
        split at h
        · rename_i hs
          split at h
          · rename_i v hv
            exact ⟨_, _, by simp only [ho, h1, h2, he, hs, hv], h⟩
          · cases h
        · rename_i hs
          rw [Option.bind_eq_some_iff] at h; obtain ⟨q, hq, h⟩ := h
          exact ⟨_, _, by simp only [ho, h1, h2, he, hs, hq, Option.bind_some], h⟩
    · cases h
  · exact quiet h
theorem fenc_inj {τ : FT} {x y : τ.T} (h : fenc τ x = fenc τ y) : x = y := by
  cases τ <;> simp only [fenc, V.int.injEq, V.bool.injEq, V.str.injEq, V.ptr.injEq, V.sl.injEq, V.map.injEq, V.flt.injEq, true_and] at h <;> exact h
theorem encs_len : ∀ (l : List FT) (x : aggT l), (encs l x).length = l.length
  | [], _ => rfl
  | τ :: l, x => by simp [encs, encs_len l x.2]
theorem held_flat {H : VH} {i off : Nat} {τ : FT} {v : V} (h : (ldV (.flat τ) H (.ob i off)).map (fenc τ) = some v) : ∃ cs u, rowV H i = some cs ∧ cs[off]? = some u ∧ (fdec τ u).map (fenc τ) = some v := by
  rw [Option.map_eq_some_iff] at h
  obtain ⟨x, hx, rfl⟩ := h
  simp only [ldV, Option.bind_eq_some_iff] at hx
  obtain ⟨u, ⟨cs, hcs, hu⟩, hx⟩ := hx
  exact ⟨cs, u, hcs, hu, by rw [hx]; rfl⟩
theorem held_agg : ∀ {l : List FT} {x : aggT l} {H : VH} {i off : Nat} {cs : List V}, rowV H i = some cs → HeldV (heldFrom i off l (encs l x)) H → off + l.length ≤ cs.length ∨ l = [] → decs l ((cs.drop off).take l.length) = some x
  | [], x, H, i, off, cs, hr, hh, hl => by simp only [List.length_nil, List.take_zero, decs]
  | τ :: l, x, H, i, off, cs, hr, hh, hl => by
    obtain ⟨cs2, u, h1, h2, h3⟩ := held_flat (hh (.ob i off, τ, fenc τ x.1) (List.mem_cons_self ..))
    rw [hr] at h1
    injection h1 with h1
    subst h1
    obtain ⟨hlt, hu⟩ := List.getElem?_eq_some_iff.1 h2
    have hle : off + (l.length + 1) ≤ cs.length := by
      rcases hl with hl | hl
      · exact hl
      · cases hl
    have ih := held_agg (l := l) (x := x.2) (off := off + 1) hr (fun y hy => hh y (List.mem_cons_of_mem _ hy)) (.inl (by omega))
    rw [Option.map_eq_some_iff] at h3
    obtain ⟨y, hy, he⟩ := h3
    have := fenc_inj he
    subst this
    rw [List.drop_eq_getElem_cons hlt, List.length_cons, List.take_succ_cons, hu]
    simp only [decs, hy, Option.bind_some]
    rw [ih]
    rfl
theorem heldFrom_row : ∀ {l : List FT} {x : aggT l} {H : VH} {i off : Nat}, l ≠ [] → HeldV (heldFrom i off l (encs l x)) H → ∃ cs, rowV H i = some cs ∧ off + l.length ≤ cs.length
  | [], x, H, i, off, hl, hh => absurd rfl hl
  | [τ], x, H, i, off, hl, hh => by
    obtain ⟨cs2, u, h1, h2, h3⟩ := held_flat (hh (.ob i off, τ, fenc τ x.1) (List.mem_cons_self ..))
    have := (List.getElem?_eq_some_iff.1 h2).1
    exact ⟨cs2, h1, by simp only [List.length_cons, List.length_nil]; omega⟩
  | τ :: τ' :: l, x, H, i, off, hl, hh => by
    obtain ⟨cs, h1, h2⟩ := heldFrom_row (l := τ' :: l) (x := x.2) (off := off + 1) (by simp) (fun y hy => hh y (List.mem_cons_of_mem _ hy))
    exact ⟨cs, h1, by simp only [List.length_cons] at h2 ⊢; omega⟩
theorem heldFrom_now : ∀ {l : List FT} {x : aggT l} {H : VH} {i off : Nat} {cs : List V}, rowV H i = some cs → off + l.length ≤ cs.length → decs l ((cs.drop off).take l.length) = some x → HeldV (heldFrom i off l (encs l x)) H
  | [], x, H, i, off, cs, hr, hl, hd => fun y hy => by cases hy
  | τ :: l, x, H, i, off, cs, hr, hl, hd => by
    simp only [List.length_cons] at hl
    have hlt : off < cs.length := by omega
    rw [List.drop_eq_getElem_cons hlt, List.length_cons, List.take_succ_cons] at hd
    simp only [decs, Option.bind_eq_some_iff, Option.map_eq_some_iff] at hd
    obtain ⟨y, hy, z, hz, rfl⟩ := hd
    intro q hq
    rcases List.mem_cons.1 hq with rfl | hq
    · simp only [ldV, hr, Option.bind_some, List.getElem?_eq_getElem hlt, hy, Option.map_some]
    · exact heldFrom_now (l := l) (x := z) (off := off + 1) hr (by omega) hz q hq
theorem ints_of : ∀ {cs : List V} {l : List UInt8}, bytesOfE (cs.map fun v => [v]) = some l → ∀ v ∈ cs, ∃ n, v = .int .u8 n
  | [], _, _, v, hv => by cases hv
  | y :: cs, l, h, v, hv => by
    rw [List.map_cons] at h
    unfold bytesOfE at h
    split at h
    · rename_i he; cases he
    · rename_i n r he
      injection he with e1 e2
      injection e1 with e1
      subst e1 e2
      rw [Option.map_eq_some_iff] at h
      obtain ⟨l', h1, rfl⟩ := h
      rcases List.mem_cons.1 hv with rfl | hv
      · exact ⟨_, rfl⟩
      · exact ints_of h1 v hv
    · cases h
theorem heldInts_now {H : VH} {i : Nat} {cs : List V} (hr : rowV H i = some cs) : ∀ (n off : Nat), off + n ≤ cs.length → (∀ v ∈ (cs.drop off).take n, ∃ m, v = .int .u8 m) → HeldV (heldFrom i off (List.replicate n (.int .u8)) ((cs.drop off).take n)) H
  | 0, off, _, _ => fun x hx => by cases hx
  | n + 1, off, hl, hv => by
    have hlt : off < cs.length := by omega
    rw [List.drop_eq_getElem_cons hlt, List.take_succ_cons] at hv ⊢
    intro x hx
    rcases List.mem_cons.1 hx with rfl | hx
    · obtain ⟨m, hm⟩ := hv _ (List.mem_cons_self ..)
      simp only [ldV, hr, Option.bind_some, List.getElem?_eq_getElem hlt, hm]
      rfl
    · exact heldInts_now hr n (off + 1) (by omega) (fun v h => hv v (List.mem_cons_of_mem _ h)) x hx
theorem heldInts_back {H : VH} {i : Nat} : ∀ (vs : List V) (off : Nat), vs ≠ [] → (∀ v ∈ vs, ∃ m, v = .int .u8 m) → HeldV (heldFrom i off (List.replicate vs.length (.int .u8)) vs) H → ∃ cs, rowV H i = some cs ∧ off + vs.length ≤ cs.length ∧ (cs.drop off).take vs.length = vs
  | [], _, h, _, _ => absurd rfl h
  | v :: vs, off, _, hv, hh => by
    have h1 := hh _ (List.mem_cons_self ..)
    obtain ⟨m, rfl⟩ := hv v (List.mem_cons_self ..)
    obtain ⟨cs, u, h2, h3, h4⟩ := held_flat h1
    have hu : u = .int .u8 m := by
      rw [Option.map_eq_some_iff] at h4
      obtain ⟨y, hy, he⟩ := h4
      have he : V.int .u8 y = .int .u8 m := he
      injection he with _ he
      rw [he] at hy
      cases u with
      | int k x =>
        have hy : (if k = .u8 then some x else none) = some m := hy
        obtain ⟨hk, hy⟩ := ite_some hy
        injection hy with hy
        rw [hk, hy]
      | _ => cases hy
    subst hu
    obtain ⟨hlt, hget⟩ := List.getElem?_eq_some_iff.1 h3
    by_cases h0 : vs = []
    · subst h0
      refine ⟨cs, h2, by simp only [List.length_singleton]; omega, ?_⟩
      rw [List.drop_eq_getElem_cons hlt, hget]; rfl
    · obtain ⟨cs2, g1, g2, g3⟩ := heldInts_back vs (off + 1) h0 (fun v h => hv v (List.mem_cons_of_mem _ h)) (fun x hx => hh x (List.mem_cons_of_mem _ hx))
      rw [h2] at g1
      injection g1 with g1
      subst g1
      refine ⟨cs, h2, by simp only [List.length_cons]; omega, ?_⟩
      rw [List.drop_eq_getElem_cons hlt, hget, List.length_cons, List.take_succ_cons, g3]
theorem heldStr_hp {H : VH} {i off n : Nat} {cs : List V} (h : hpCells H i off n = some cs) : heldStr H (.hp i off n) = heldFrom i off (List.replicate n (.int .u8)) cs := by
  show (match hpCells H i off n with | some cs => heldFrom i off (List.replicate n (.int .u8)) cs | none => []) = _
  rw [h]
theorem heldStr_hp0 {H : VH} {i off n : Nat} (h : hpCells H i off n = none) : heldStr H (.hp i off n) = [] := by
  show (match hpCells H i off n with | some cs => heldFrom i off (List.replicate n (.int .u8)) cs | none => []) = _
  rw [h]
theorem heldStr_now {H : VH} {e : TypeId} {s : VS} {r : ByteArray} (h : strV H e s = some r) : HeldV (heldStr H s) H := by
  cases s with
  | nil => intro x hx; cases hx
  | fz es cp => intro x hx; cases hx
  | hp i off n =>
    cases hq : hpCells H i off n with
    | none => rw [heldStr_hp0 hq]; intro x hx; cases hx
    | some cs =>
      rw [heldStr_hp hq]
      unfold strV at h
      simp only at h
      by_cases h0 : n = 0
      · subst h0; intro x hx; cases hx
      · rw [if_neg h0, hq, Option.bind_some, Option.map_eq_some_iff] at h
        obtain ⟨l, hl, _⟩ := h
        simp only [hpCells, Option.bind_eq_some_iff, takeN] at hq
        obtain ⟨us, hu, hcs⟩ := hq
        obtain ⟨hle, hcs⟩ := ite_some hcs
        injection hcs with hcs
        subst hcs
        exact heldInts_now hu n off hle (ints_of hl)
theorem heldStr_back {H H' : VH} {e : TypeId} {s : VS} {r : ByteArray} (h : strV H e s = some r) (hh : HeldV (heldStr H s) H') : strV H' e s = some r := by
  cases s with
  | nil => exact h
  | fz es cp => exact h
  | hp i off n =>
    unfold strV at h ⊢
    simp only at h ⊢
    by_cases h0 : n = 0
    · rw [if_pos h0] at h ⊢; exact h
    · rw [if_neg h0] at h ⊢
      cases hq : hpCells H i off n with
      | none => rw [hq] at h; cases h
      | some cs =>
        rw [heldStr_hp hq] at hh
        rw [hq] at h
        simp only [Option.bind_some] at h
        have hlen : cs.length = n := by
          simp only [hpCells, Option.bind_eq_some_iff, takeN] at hq
          obtain ⟨us, hu, hcs⟩ := hq
          obtain ⟨hle, hcs⟩ := ite_some hcs
          injection hcs with hcs
          subst hcs
          rw [List.length_take, List.length_drop]; omega
        have h' := h
        rw [Option.map_eq_some_iff] at h'
        obtain ⟨l, hl, _⟩ := h'
        subst hlen
        obtain ⟨cs2, g1, g2, g3⟩ := heldInts_back cs off (fun h1 => h0 (by rw [h1]; rfl)) (ints_of hl) hh
        have : hpCells H' i off cs.length = some cs := by
          unfold hpCells takeN
          rw [g1, Option.bind_some, if_pos g2, g3]
        rw [this, Option.bind_some]
        exact h
theorem vFree_some {o : Oper} {t : List V} {H : VH} {K : V → Held → VRes} {r : V × VH} (h : vFree P o t H K = some r) :
    ∃ v hs, K v hs = some r ∧ HeldV hs H ∧ ∀ (E : Env) (H' : VH), HeldV hs H' → vOp P E o t H' (fun v H => some (v, H)) = some (v, H') := by
  unfold vFree at h
  split at h
  · rename_i T a ho
    split at h
    · rename_i p h1
      split at h
      · cases h
      · rename_i hU
        split at h
        · rename_i τ hf
          rw [Option.bind_eq_some_iff] at h
          obtain ⟨x, hx, h⟩ := h
          have run : ∀ (E : Env) (H' : VH), ldV (.flat τ) H' p = some x → vOp P E o t H' (fun v H => some (v, H)) = some (fenc τ x, H') := by
            intro E H' hx'
            unfold vOp
            simp only [ho, h1, if_neg hU, hf]
            rw [hx']
            rfl
          refine ⟨_, _, h, ?_, fun E H' hh => run E H' ?_⟩
          · cases p with
            | ob i off =>
              intro y hy
              rcases List.mem_cons.1 hy with rfl | hy
              · show (ldV (.flat τ) H (.ob i off)).map (fenc τ) = _
                rw [hx]; rfl
              · cases hy
            | _ => intro y hy; cases hy
          · cases p with
            | nil => exact hx
            | fz cs => exact hx
            | ob i off =>
              have := hh (.ob i off, τ, fenc τ x) (List.mem_cons_self ..)
              rw [Option.map_eq_some_iff] at this
              obtain ⟨y, hy, he⟩ := this
              rw [hy, fenc_inj he]
        · rename_i l hf
          obtain ⟨⟨hl, hne⟩, h⟩ := ite_some h
          rw [Option.bind_eq_some_iff] at h
          obtain ⟨x, hx, h⟩ := h
          have hne : l ≠ [] := by rintro rfl; cases hne
          have run : ∀ (E : Env) (H' : VH), ldV (.agg l) H' p = some x → vOp P E o t H' (fun v H => some (v, H)) = some (.agg (encs l x), H') := by
            intro E H' hx'
            unfold vOp
            simp only [ho, h1, if_neg hU, hf, if_pos hl]
            rw [hx']
            rfl
          refine ⟨_, _, h, ?_, fun E H' hh => run E H' ?_⟩
          · cases p with
            | ob i off =>
              simp only [ldV, Option.bind_eq_some_iff, takeN] at hx
              obtain ⟨us, ⟨cs, hcs, hu⟩, hx⟩ := hx
              obtain ⟨hle, hu⟩ := ite_some hu
              injection hu with hu
              subst hu
              exact heldFrom_now hcs hle hx
            | _ => intro y hy; cases hy
          · cases p with
            | nil => exact hx
            | fz cs => exact hx
            | ob i off =>
              obtain ⟨cs, h2, h3⟩ := heldFrom_row (l := l) (x := x) hne hh
              simp only [ldV, h2, Option.bind_some, takeN, if_pos h3]
              exact held_agg h2 hh (.inl h3)
    · cases h
  · rename_i src d x ho
    have quiet : (∀ e e0 s, P.underlying src = some (.slice e) → P.underlying d = some .string → ev t x = some (.sl e0 s) → False) → vQuiet P o t [] (fun v => K v []) = some r →
        ∃ v hs, K v hs = some r ∧ HeldV hs H ∧ ∀ (E : Env) (H' : VH), HeldV hs H' → vOp P E o t H' (fun v H => some (v, H)) = some (v, H') := by
      intro hno h
      obtain ⟨v, h1, h2⟩ := vQuiet_any h
      refine ⟨v, [], h1, (fun y hy => by cases hy), fun E H' _ => ?_⟩
      have hv : vOp P E o t H' (fun v H => some (v, H)) = vQuiet P o t H' (fun v => some (v, H')) := by
        unfold vOp
        simp only [ho]
        split
        · rename_i e s hs hd h3
          exfalso
          have := h2 []
          unfold vQuiet at this
          simp only [ho, h3, Option.bind_some, vConv, toP, eConv, hs, hd] at this
          cases this
        · rename_i e e0 s hs hd h3
          exact (hno e e0 s hs hd h3).elim
        · rename_i e0 e e1 i off n hs hd h3
          exfalso
          have := h2 []
          unfold vQuiet at this
          simp only [ho, h3, Option.bind_some, vConv, toP] at this
          cases this
        · rfl
      rw [hv]
      exact h2 H'
    split at h
    · rename_i e e0 s hs hd h1
      split at h
      · rename_i hu
        obtain ⟨hz, h⟩ := ite_some h
        simp only [Option.bind_eq_some_iff] at h
        obtain ⟨s2, hs2, q, hq, h⟩ := h
        refine ⟨_, _, h, heldStr_now hq, fun E H' hh => ?_⟩
        unfold vOp
        simp only [ho, hs, hd, h1, hu, if_pos hz, hs2, Option.bind_some, heldStr_back hq hh]
      · cases h
    · rename_i hno
      exact quiet (fun e e0 s a b c => hno e e0 s a b c) h
  · rename_i T parts ho
    split at h
    · rename_i fs z ps h1 h2 h3
      obtain ⟨h4, h⟩ := ite_some h
      simp only [Option.bind_eq_some_iff] at h
      obtain ⟨pl, hpl, cs, hcs, h⟩ := h
      refine ⟨_, [], h, (fun y hy => by cases hy), fun E H' _ => ?_⟩
      unfold vOp
      simp only [ho, h1, h2, h3, if_pos h4, hpl, hcs, Option.bind_some]
    · cases h
  · rename_i hne hnc hnb
    obtain ⟨hq, h⟩ := ite_some h
    obtain ⟨v, h1, h2⟩ := vQuiet_any h
    refine ⟨v, [], h1, (fun y hy => by cases hy), fun E H' _ => ?_⟩
    have hv : vOp P E o t H' (fun v H => some (v, H)) = vQuiet P o t H' (fun v => some (v, H')) := by
      unfold vOp
      split
      all_goals first
        | rfl
        | (rename_i ho; rw [ho] at hq; cases hq; done)
        | (rename_i ho; exact (hne _ _ ho).elim)
        | (rename_i ho; exact (hnc _ _ _ ho).elim)
        | (rename_i ho; exact (hnb _ _ ho).elim)
    rw [hv]
    exact h2 H'
theorem HeldV.app {a b : Held} {H : VH} (h1 : HeldV a H) (h2 : HeldV b H) : HeldV (a ++ b) H := fun x hx => (List.mem_append.1 hx).elim (h1 x) (h2 x)
theorem set_bool {t : List V} {s : Nat} {b : Bool} (h : t.getD s .undef = .bool b) : t.set s (.bool b) = t := by
  rw [List.getD_eq_getElem?_getD] at h
  rcases Nat.lt_or_ge s t.length with hlt | hge
  · rw [List.getElem?_eq_getElem hlt] at h
    simp only [Option.getD_some] at h
    rw [← h]
    exact List.set_getElem_self hlt
  · exact List.set_eq_of_length_le hge
def SHeld (ops : Array Oper) (held : List (Nat × Held)) (i : Nat) (H : VH) : Prop := ∃ o, ops[i]? = some o ∧ HeldV (heldA o.after.toList held) H
theorem SHeld.tail {ops : Array Oper} {held : List (Nat × Held)} {i j : Nat} {hs : Held} {H : VH} (h : SHeld ops ((j, hs) :: held) i H) : SHeld ops held i H := by
  obtain ⟨o, ho, h⟩ := h
  refine ⟨o, ho, ?_⟩
  unfold heldA at h
  cases hw : waitsL o.after.toList j with
  | true => rw [hw] at h; exact h
  | false => rw [hw] at h; exact fun x hx => h x (List.mem_append_right _ hx)
theorem SHeld.head {ops : Array Oper} {held : List (Nat × Held)} {i j : Nat} {hs : Held} {H : VH} (hw : waitsB ops i j = false) (h : SHeld ops ((j, hs) :: held) i H) : HeldV hs H := by
  obtain ⟨o, ho, h⟩ := h
  unfold waitsB at hw
  rw [ho] at hw
  simp only at hw
  unfold heldA at h
  rw [hw] at h
  exact fun x hx => h x (List.mem_append_left _ hx)
theorem vDraw_any {K : List V → VH → VRes} {r : V × VH} :
    ∀ (l : List (Nat × Bool)) (fuel : Nat) (listed : Array Bool) (held : List (Nat × Held)) (t : List V) (H : VH), l.length ≤ fuel → chk ops listed l = true → vDraw P E ops l held K t H = some r →
      vAny P E ops (fun t H => K t H = some r) (SHeld ops held) fuel listed t H
  | [], fuel, listed, held, t, H, hl, hc, hq => by
    simp only [chk, beq_iff_eq] at hc
    cases fuel with
    | zero => exact ⟨hc, hq⟩
    | succ f => exact ⟨fun _ => hq, fun i hi => by rw [hc] at hi; cases hi⟩
  | (i, b) :: l, fuel, listed, held, t, H, hl, hc, hq => by
    obtain ⟨fuel, rfl⟩ : ∃ f, fuel = f + 1 := ⟨fuel - 1, by simp at hl; omega⟩
    simp only [List.length_cons] at hl
    cases b with
    | true =>
      simp only [chk, Bool.and_eq_true] at hc
      obtain ⟨⟨hfree, hready⟩, hc⟩ := hc
      unfold vDraw at hq
      simp only [putK_eq, setK_eq] at hq
      split at hq
      · cases hq
      · rename_i o ho
        have take : ∀ {v : V} {hs : Held}, VYields P E ops (HeldV hs) o v t → HeldV hs H → vDraw P E ops l ((i, hs) :: held) K (put t o.dst v) H = some r → vAny P E ops (fun t H => K t H = some r) (SHeld ops held) (fuel + 1) listed t H := by
          intro v hs hy hhs hq
          have ih := vDraw_any l fuel _ ((i, hs) :: held) _ H (by omega) hc hq
          exact vAny_mono (S' := SHeld ops ((i, hs) :: held)) (fun j H' h => h.tail) _ _ _ _ (vAny_first ho (Si := HeldV hs) (fun j H' hw h => h.head hw) fuel listed t H (Region.free_spec ho hfree) (by simpa using hready) hy hhs ih)
        have run : ∀ (t0 : List V), t0 = t → gv ops o t = .yes → (vFree P o t0 H fun v hs => vDraw P E ops l ((i, hs) :: held) K (put t0 o.dst v) H) = some r → vAny P E ops (fun t H => K t H = some r) (SHeld ops held) (fuel + 1) listed t H := by
          clear hq
          intro t0 e hg hq
          subst e
          obtain ⟨v, hs, h1, h2, h3⟩ := vFree_some hq
          exact take (.inl ⟨hg, fun H' hH' => h3 E H' hH'⟩) h2 h1
        have skip : ∀ (t0 : List V), t0 = t → gv ops o t = .no → vDraw P E ops l held K (put t0 o.dst .skip) H = some r → vAny P E ops (fun t H => K t H = some r) (SHeld ops held) (fuel + 1) listed t H := by
          clear hq
          intro t0 e hg hq
          subst e
          have ih := vDraw_any l fuel _ held _ H (by omega) hc hq
          exact vAny_first ho (Si := fun _ => True) (fun _ _ _ _ => trivial) fuel listed t0 H (Region.free_spec ho hfree) (by simpa using hready) (.inr ⟨hg, rfl⟩) trivial ih
        split at hq
        · rename_i hg
          exact run t rfl (by simp only [gv, hg]) hq
        · rename_i j want hg
          split at hq
          · rename_i s hs
            split at hq
            · rename_i b hb
              have hgv : gv ops o t = if b = want then .yes else .no := by simp only [gv, hg, hs, hb]
              cases b <;> cases want <;> simp only [cond_true, cond_false] at hq
              · exact run _ (set_bool hb) hgv hq
              · exact skip _ (set_bool hb) hgv hq
              · exact skip _ (set_bool hb) hgv hq
              · exact run _ (set_bool hb) hgv hq
            · rename_i hb
              exact skip t rfl (by simp only [gv, hg, hs, hb]) hq
            · cases hq
          · cases hq
    | false =>
      simp only [chk, Bool.and_eq_true, beq_iff_eq] at hc
      obtain ⟨hready, hc⟩ := hc
      refine ⟨fun h0 => (by rw [hready] at h0; cases h0), fun j hj => ?_⟩
      have hj : j = i := by rw [hready] at hj; simpa using hj
      subst hj
      unfold vDraw at hq
      simp only [putK_eq, setK_eq] at hq
      split at hq
      · cases hq
      · rename_i o ho
        have run : ∀ (t0 : List V), t0 = t → gv ops o t = .yes → (vOp P E o t0 H fun v H' => cond (stays H' (heldA o.after.toList held)) (vDraw P E ops l held K (put t0 o.dst v) H') none) = some r → vStep P E ops j (fun t' H' => (H' = H ∨ SHeld ops held j H') ∧ vAny P E ops (fun t H => K t H = some r) (SHeld ops held) fuel (listed.setIfInBounds j true) t' H') t H := by
          clear hq
          intro t0 e hg hq
          subst e
          unfold vStep
          simp only [ho, hg]
          obtain ⟨v, H', h1, h2⟩ := vOp_factor hq
          refine ⟨v, H', h1, ?_⟩
          cases hst : stays H' (heldA o.after.toList held) with
          | false => rw [hst] at h2; cases h2
          | true =>
            rw [hst] at h2
            exact ⟨.inr ⟨_, ho, stays_held hst⟩, vDraw_any l fuel _ held _ H' (by omega) hc h2⟩
        have skip : ∀ (t0 : List V), t0 = t → gv ops o t = .no → vDraw P E ops l held K (put t0 o.dst .skip) H = some r → vStep P E ops j (fun t' H' => (H' = H ∨ SHeld ops held j H') ∧ vAny P E ops (fun t H => K t H = some r) (SHeld ops held) fuel (listed.setIfInBounds j true) t' H') t H := by
          clear hq
          intro t0 e hg hq
          subst e
          unfold vStep
          simp only [ho, hg]
          exact ⟨.inl (by trivial), vDraw_any l fuel _ held _ H (by omega) hc hq⟩
        split at hq
        · rename_i hg
          exact run t rfl (by simp only [gv, hg]) hq
        · rename_i k want hg
          split at hq
          · rename_i s hs
            split at hq
            · rename_i b hb
              have hgv : gv ops o t = if b = want then .yes else .no := by simp only [gv, hg, hs, hb]
              cases b <;> cases want <;> simp only [cond_true, cond_false] at hq
              · exact run _ (set_bool hb) hgv hq
              · exact skip _ (set_bool hb) hgv hq
              · exact skip _ (set_bool hb) hgv hq
              · exact run _ (set_bool hb) hgv hq
            · rename_i hb
              exact skip t rfl (by simp only [gv, hg, hs, hb]) hq
            · cases hq
          · cases hq
end
end Go.Proofs.Ytfneikjincmhpaa.Sh.V
namespace Go.Proofs.Ytfneikjincmhpaa.Sh.V
open Go.Proofs.Ytfneikjincmhpaa.Sh Go.RowKit

/-! ### The machine follows -/
def CV (P : Program) (c : Cx) (S : List Loc) (v : V) (v' : Value) : Prop := ∃ u, VR P c v u ∧ VRel S u v'
def CVs (P : Program) (c : Cx) (S : List Loc) (vs : List V) (vs' : List Value) : Prop := ∃ us, VRs P c vs us ∧ VRels S us vs'
def TR (P : Program) (c : Cx) (S : List Loc) (t : List V) (a : Act) : Prop := ∃ t', VRs P c t t' ∧ TRel S t' a
structure St (P : Program) (B : Nat) (w0 : World) (c : Cx) (S : List Loc) (w : World) : Prop where
  v : VSim P c
  s : Sim P B w0 S c.h w
/-- What is asked of a call's answer. -/
def CallOKV (P : Program) (call : FuncId → List V → VH → VRes) : Prop :=
  ∀ (f : FuncId) (args : List V) (c : Cx) (v : V) (H' : VH), call f args c.H = some (v, H') → ∀ (B : Nat) (w0 : World) (S : List Loc) (w : World) (args' : List Value), St P B w0 c S w → CVs P c S args args' →
    (∃ fn s, P.funcs[f]? = some fn ∧ fn.body = some s) ∧ Calls P f args'.toArray w fun e w' => ∃ d v' S', e = .returned v' ∧ d.H = H' ∧ Le c d ∧ S <+: S' ∧ St P B w0 d S' w' ∧ CV P d S' v v'
structure EnvOKV (P : Program) (E : Env) : Prop where
  call : CallOKV P E.call
  ext : ∀ (f : FuncId) (e : Array Value → Sem Value), E.ext f = some e → ∃ fn, P.funcs[f]? = some fn ∧ fn.body = none ∧ Extern.findNext fn = none ∧ Extern.find fn = some e
  same : ∀ (f : FuncId), E.same f = true → ∃ fn e, P.funcs[f]? = some fn ∧ fn.body = none ∧ Extern.findNext fn = none ∧ Extern.find fn = some e ∧ ∀ v, e #[v] = pure v
section
variable {P : Program} {B : Nat} {w0 : World} {c : Cx} {S : List Loc} {w : World} {t : List V} {a : Act}
theorem CV.mono {d : Cx} {S' : List Loc} {v : V} {v' : Value} (h : CV P c S v v') (hl : Le c d) (hp : S <+: S') : CV P d S' v v' := by
  obtain ⟨u, h1, h2⟩ := h; exact ⟨u, h1.mono hl, h2.mono hp⟩
theorem TR.mono {d : Cx} {S' : List Loc} (h : TR P c S t a) (hl : Le c d) (hp : S <+: S') : TR P d S' t a := by
  obtain ⟨u, h1, h2⟩ := h; exact ⟨u, h1.mono hl, h2.mono hp⟩
theorem put_sim {t' : List Value} (ht : VRs P c t t') {v : V} {v' : Value} (hv : VR P c v v') (d : Option Tmp) : VRs P c (put t d v) (Sh.put t' d v') := by
  cases d with
  | none => exact ht
  | some d => exact ht.set hv d
theorem TR.put (h : TR P c S t a) {v : V} {v' : Value} (hv : CV P c S v v') (d : Option Tmp) : TR P c S (put t d v) (a.put d v') := by
  obtain ⟨t', h1, h2⟩ := h
  obtain ⟨u, h3, h4⟩ := hv
  exact ⟨_, put_sim h1 h3 d, h2.put h4 d⟩
theorem CV.skip : CV P c S .skip (.tuple ⟨[]⟩) := ⟨_, .skip, .skip⟩
def clearL : Nat → List Nat → List V → List V
  | _, _, [] => []
  | _, [], l => l
  | i, c :: cs, x :: l => cond (Nat.beq i c) (.undef :: clearL (i + 1) cs l) (x :: clearL (i + 1) (c :: cs) l)
theorem clearK_eq {β : Type} : ∀ (t : List V) (i : Nat) (l : List Nat) (K : List V → β), clearK i l t K = K (clearL i l t)
  | [], _, [], _ => rfl
  | [], _, _ :: _, _ => rfl
  | _ :: _, _, [], _ => rfl
  | x :: t, i, c :: cs, K => by
    simp only [clearK, clearL, clearK_eq t]
    cases Nat.beq i c <;> rfl
theorem clear_sim : ∀ {t : List V} {t' : List Value} (i : Nat) (l : List Nat), VRs P c t t' → VRs P c (clearL i l t) t'
  | [], _, _, [], h => h
  | [], _, _, _ :: _, h => h
  | _ :: _, _, _, [], h => h
  | x :: t, _, i, k :: cs, h => by
    cases h with
    | cons a b =>
      simp only [clearL]
      cases Nat.beq i k
      · exact .cons a (clear_sim _ _ b)
      · exact .cons (.undef _) (clear_sim _ _ b)
theorem TR.clear (h : TR P c S t a) (i : Nat) (l : List Nat) : TR P c S (clearL i l t) a := by
  obtain ⟨t', h1, h2⟩ := h
  exact ⟨_, clear_sim i l h1, h2⟩
theorem TR.lit (h : TR P c S t a) {s : Nat} {b : Bool} (hb : t.getD s .undef = .bool b) : TR P c S (t.set s (.bool b)) a := by
  rw [set_bool hb]; exact h
theorem wanted_yes {ops : Array Oper} {o : Oper} (h : TR P c S t a) (hg : gv ops o t = .yes) : Region.wanted o (yielded ops a.tmps) = true := by
  obtain ⟨t', h1, h2⟩ := h
  unfold gv at hg
  split at hg
  · rename_i h0; exact wanted_none (ops := ops) h0
  · rename_i j want h0
    split at hg
    · rename_i s hs
      split at hg
      · rename_i b hb
        have hr := h1.getD s
        rw [hb] at hr
        have hb' : t'.getD s Go.undef = .bool b := by
          generalize t'.getD s Go.undef = x at hr ⊢
          cases hr; rfl
        rw [wanted_some h0 hs h2 hb' (getD_bool_lt hb')]
        split at hg
        · rename_i e; subst e; simp
        · cases hg
      · cases hg
      · cases hg
    · cases hg
theorem wanted_no {ops : Array Oper} {o : Oper} (h : TR P c S t a) (hg : gv ops o t = .no) : Region.wanted o (yielded ops a.tmps) = false := by
  obtain ⟨t', h1, h2⟩ := h
  unfold gv at hg
  split at hg
  · cases hg
  · rename_i j want h0
    split at hg
    · rename_i s hs
      split at hg
      · rename_i b hb
        have hr := h1.getD s
        rw [hb] at hr
        have hb' : t'.getD s Go.undef = .bool b := by
          generalize t'.getD s Go.undef = x at hr ⊢
          cases hr; rfl
        rw [wanted_some h0 hs h2 hb' (getD_bool_lt hb')]
        split at hg
        · cases hg
        · rename_i e; cases b <;> cases want <;> simp_all
      · rename_i hb
        have hr := h1.getD s
        rw [hb] at hr
        have hb' : t'.getD s Go.undef = .tuple ⟨[.tuple ⟨[]⟩]⟩ := by
          generalize t'.getD s Go.undef = x at hr ⊢
          cases hr; rfl
        exact wanted_skip h0 hs h2 hb'
      · cases hg
    · cases hg
theorem vOp_E0 {E : Env} {o : Oper} {H : VH} {K : V → VH → VRes} (h : ∀ f args Ts, o.op = .call { callee := .value f, args := args, argTypes := Ts } → False) :
    vOp P ⟨fun _ _ _ => none, E.ext, E.same, E.keep, E.frm, E.frz⟩ o t H K = vOp P E o t H K := by
  unfold vOp
  split
  all_goals first
    | rfl
    | (rename_i ho; exact (h _ _ _ ho).elim)
theorem vOp_sound {E : Env} (hE : EnvOKV P E) (hN : Named P) {o : Oper} {K : V → VH → VRes} {r : V × VH} (hq : vOp P E o t c.H K = some r) (hst : St P B w0 c S w) (ht : TR P c S t a) {next : Act → World → Prop} {Q : Exit → Act → World → Prop}
    (hK : ∀ (d : Cx) (v : V) (v' : Value) (w' : World) (S' : List Loc), K v d.H = some r → Le c d → S <+: S' → St P B w0 d S' w' → CV P d S' v v' → next (a.put o.dst v') w') : o.wp P a w next Q := by
  obtain ⟨t', hv, htr⟩ := ht
  have base : vOp P ⟨fun _ _ _ => none, E.ext, E.same, E.keep, E.frm, E.frz⟩ o t c.H K = some r → o.wp P a w next Q := by
    intro hq0
    have hG : ∀ (c1 d1 : Cx) (x : V × VH) (y : Value × Heap), Le c1 d1 → (∃ (d : Cx) (v : V) (v' : Value), y = (v', d.h) ∧ Le d1 d ∧ VSim P d ∧ VR P d v v' ∧ K v d.H = some x) → ∃ (d : Cx) (v : V) (v' : Value), y = (v', d.h) ∧ Le c1 d ∧ VSim P d ∧ VR P d v v' ∧ K v d.H = some x := by
      rintro c1 d1 x y hl ⟨d, v, v', h1, h2, h3⟩
      exact ⟨d, v, v', h1, hl.trans h2, h3⟩
    have hrel := vOp_sim (G := fun c1 x y => ∃ (d : Cx) (v : V) (v' : Value), y = (v', d.h) ∧ Le c1 d ∧ VSim P d ∧ VR P d v v' ∧ K v d.H = some x) (E := ⟨fun _ _ _ => none, E.ext, E.same, E.keep, E.frm, E.frz⟩) (E' := ⟨fun _ _ _ => none, E.ext, E.same, E.keep⟩) rfl rfl rfl rfl hG hst.v hv (o := o) (K := K) (K' := fun v h => some (v, h))
      (fun d v v' hle hd hr x hx => ⟨(v', d.h), rfl, d, v, v', rfl, Le.refl d, hd, hr, hx⟩)
    obtain ⟨y, hy, d, v, v', rfl, hle, hd, hr, hk⟩ := hrel r hq0
    refine eOp_sound (E := ⟨fun _ _ _ => none, E.ext, E.same, E.keep⟩) ⟨fun f args h v h' hh => (by cases hh), hE.ext, hE.same⟩ hN hy hst.s htr fun v1 h1 v2 w' S' he hp hs' hrel => ?_
    injection he with he
    injection he with e1 e2
    subst e1 e2
    exact hK d v v2 w' S' hk hle hp ⟨hd, hs'⟩ ⟨_, hr, hrel⟩
  by_cases hc : ∃ f args Ts, o.op = .call { callee := .value f, args := args, argTypes := Ts }
  · obtain ⟨f, args, Ts, ho⟩ := hc
    have hq2 := hq
    unfold vOp at hq2
    simp only [ho] at hq2
    split at hq2
    · rename_i g first cap vs h1 h2
      split at hq2
      · rename_i e he
        refine base ?_
        unfold vOp
        simp only [ho, h1, h2, he]
        exact hq2
      · rename_i he
        split at hq2
        · rename_i hs
          refine base ?_
          unfold vOp
          simp only [ho, h1, h2, he, hs]
          exact hq2
        · rename_i hs
          rw [Option.bind_eq_some_iff] at hq2
          obtain ⟨q, hq3, hk⟩ := hq2
          unfold callD at hq3
          simp only [Option.bind_eq_some_iff, Option.map_eq_some_iff] at hq3
          obtain ⟨⟨u, H1⟩, g1, ⟨u2, H2⟩, g2, x, hx, rfl⟩ := hq3
          obtain ⟨f', ef, rf⟩ := ev_sim hv h1
          cases rf with
          | func ra rb =>
            rename_i la lb
            obtain ⟨vs', evs', rvs⟩ := evTs_sim hv h2
            obtain ⟨l1', l2', hef, hr1, hr2⟩ := (ev_rel htr ef).inv_func
            have hargs : CVs P c S (first ++ vs ++ cap) (l1' ++ args.toList.map a.eval ++ l2') := ⟨_, (ra.append rvs).append rb, (hr1.append (evs_rel htr evs')).append hr2⟩
            have hexec : (execOp a.eval o).run P w = (callFunc g (l1' ++ args.toList.map a.eval ++ l2').toArray).run P w := by
              simp only [execOp, ho, resolve, Sem.run_bind, Sem.run_pure, Result.andThen_ok, hef, Deferred.ofValue, invoke]
              congr 2
              apply Array.ext'
              simp
            obtain ⟨⟨fn, s, hfn, hb⟩, hcalls⟩ := hE.call g _ c u H1 g1 B w0 S w _ hst hargs
            unfold Oper.wp
            rw [hexec, callFunc_run hN hfn hb]
            show Calls P g _ w _
            refine hcalls.mono ?_
            rintro e w' ⟨d, v', S', rfl, rfl, hle, hp, hst', v1, hv1, hv2⟩
            obtain ⟨f1, f2, f3⟩ := freeze_sim hst'.v hv1 g2
            obtain ⟨x', hx', hr⟩ := dec_sim hx f3
            exact hK ⟨d.σ, H2, d.h, d.X⟩ _ v' w' S' hk (hle.trans f1) hp ⟨f2, hst'.s⟩ ⟨v1, hr, hv2⟩
    · cases hq2
  · exact base ((vOp_E0 fun f args Ts h => hc ⟨f, args, Ts, h⟩).trans hq)
theorem vOps_sound {E : Env} (hE : EnvOKV P E) (hN : Named P) {ops : Array Oper} {Q : Exit → Act → World → Prop} {r : V × VH} {K : List V → VH → VRes} :
    ∀ (l : List Oper) (t : List V) (c : Cx), vOps P E ops l K t c.H = some r → ∀ (S : List Loc) (a : Act) (w : World), St P B w0 c S w → TR P c S t a →
      (∀ t' d S' a' w', K t' d.H = some r → Le c d → S <+: S' → St P B w0 d S' w' → TR P d S' t' a' → Q .normal a' w') → wpList P ops Q l a w
  | [], t, c, hq, S, a, w, hs, ht, hK => hK t c S a w hq (Le.refl c) (List.prefix_refl _) hs ht
  | o :: l, t, c, hq, S, a, w, hs, ht, hK => by
    have run : ∀ (t0 : List V), TR P c S t0 a → (vOp P E o t0 c.H fun v h' => vOps P E ops l K (put t0 o.dst v) h') = some r → o.wp P a w (wpList P ops Q l) Q := by
      intro t0 ht0 hq0
      refine vOp_sound hE hN hq0 hs ht0 fun d v v' w' S' hk hle hp hs' hr => ?_
      exact vOps_sound hE hN l _ d hk S' _ w' hs' ((ht0.mono hle hp).put hr o.dst) fun t'' d' S'' a'' w'' hk' hle' hp' hs'' ht'' => hK t'' d' S'' a'' w'' hk' (hle.trans hle') (hp.trans hp') hs'' ht''
    have skip : ∀ (t0 : List V), TR P c S t0 a → vOps P E ops l K (put t0 o.dst .skip) c.H = some r → wpList P ops Q l (a.put o.dst undef) w := by
      intro t0 ht0 hq0
      exact vOps_sound hE hN l _ c hq0 S _ w hs (ht0.put .skip o.dst) hK
    unfold vOps at hq
    simp only [putK_eq, setK_eq] at hq
    split at hq
    · rename_i hg
      unfold wpList
      rw [wanted_yes ht (ops := ops) (o := o) (by simp only [gv, hg])]
      exact .inl (run t ht hq)
    · rename_i j want hg
      split at hq
      · rename_i s hd
        split at hq
        · rename_i b hb
          have hgv : gv ops o t = if b = want then .yes else .no := by simp only [gv, hg, hd, hb]
          cases b <;> cases want <;> simp only [cond_true, cond_false] at hq
          · unfold wpList; rw [wanted_yes ht hgv]; exact .inl (run _ (ht.lit hb) hq)
          · unfold wpList; rw [wanted_no ht hgv]; exact skip _ (ht.lit hb) hq
          · unfold wpList; rw [wanted_no ht hgv]; exact skip _ (ht.lit hb) hq
          · unfold wpList; rw [wanted_yes ht hgv]; exact .inl (run _ (ht.lit hb) hq)
        · rename_i hb
          unfold wpList
          rw [wanted_no ht (ops := ops) (o := o) (by simp only [gv, hg, hd, hb])]
          exact skip t ht hq
        · cases hq
      · cases hq
/-- An operation that only reads. -/
theorem vRead_sound {o : Oper} {K : V → VRes} {r : V × VH} (hq : vRead P o t c.H K = some r) (hs : St P B w0 c S w) (ht : TR P c S t a) : ∃ v v', K v = some r ∧ CV P c S v v' ∧ (execOp a.eval o).run P w = .ok (.value v') w := by
  obtain ⟨t', hv, htr⟩ := ht
  have hrel : Rel (fun _ x y => ∃ (v : V) (v' : Value), y = (v', c.h) ∧ VR P c v v' ∧ K v = some x) c (vRead P o t c.H K) (eRead P o t' c.h fun v => some (v, c.h)) := by
    have hK : ∀ v v', VR P c v v' → Rel (fun _ x y => ∃ (v : V) (v' : Value), y = (v', c.h) ∧ VR P c v v' ∧ K v = some x) c (K v) (some (v', c.h)) := fun v v' hr x hx => ⟨(v', c.h), rfl, v, v', rfl, hr, hx⟩
    unfold vRead
    split
    · rename_i T x ho
      unfold eRead; simp only [ho]
      split
      · rename_i p h1
        obtain ⟨v1, e1, r1⟩ := ev_sim hv h1
        intro xx h
        split at h
        · cases h
        · rename_i hU
          split at h
          · rename_i τ hf
            rw [Option.bind_eq_some_iff] at h
            obtain ⟨q, hq, h⟩ := h
            obtain ⟨ad, x', rfl, h2, h3⟩ := ld_sim hs.v hq r1
            simp only [e1, if_neg hU, ty1_flat hf]
            have h2 : Sh.ld1 (.flat τ.S) c.h ad = some x' := h2
            rw [h2]
            exact hK _ _ h3 xx h
          · rename_i l hf
            obtain ⟨hl, h⟩ := ite_some h
            rw [Option.bind_eq_some_iff] at h
            obtain ⟨q, hq, h⟩ := h
            obtain ⟨ad, x', rfl, h2, h3⟩ := ld_sim hs.v hq r1
            simp only [e1, if_neg hU, ty1_agg hf, List.length_map, if_pos hl]
            have h2 : Sh.ld1 (.agg (l.map FT.S)) c.h ad = some x' := h2
            rw [h2]
            exact hK _ _ h3 xx h
      · exact Rel.none
    · rename_i hne
      have : eRead P o t' c.h (fun v => some (v, c.h)) = eQuiet P o t' c.h (fun v => some (v, c.h)) := by
        unfold eRead
        split
        · rename_i T x ho; exact (hne T x ho).elim
        · rfl
      rw [this]
      exact vQuiet_sim hs.v hv hK
  obtain ⟨y, hy, v, v', rfl, hr, hk⟩ := hrel r hq
  obtain ⟨v1, v2, h1, h2, h3⟩ := eRead_sound hy hs.s htr
  injection h1 with h1
  injection h1 with h1
  subst h1
  exact ⟨v, v2, hk, ⟨_, hr, h2⟩, h3⟩
theorem vStill_sound {ops : Array Oper} {r : V × VH} {K : List V → VH → VRes} {Q : Act → Prop} (hs : St P B w0 c S w) :
    ∀ (l : List Oper) (t : List V), vStill P ops l K t c.H = some r → ∀ (a : Act), TR P c S t a → (∀ t' a', K t' c.H = some r → TR P c S t' a' → Q a') → wpStill P ops w Q l a
  | [], t, hq, a, ht, hK => hK t a hq ht
  | o :: l, t, hq, a, ht, hK => by
    have run : ∀ (t0 : List V), TR P c S t0 a → (vRead P o t0 c.H fun v => vStill P ops l K (put t0 o.dst v) c.H) = some r → o.still P a w (wpStill P ops w Q l) := by
      intro t0 ht0 hq0
      obtain ⟨v, v', h1, h2, h3⟩ := vRead_sound hq0 hs ht0
      unfold Oper.still
      rw [h3]
      exact ⟨rfl, vStill_sound hs l _ h1 _ (ht0.put h2 o.dst) hK⟩
    have skip : ∀ (t0 : List V), TR P c S t0 a → vStill P ops l K (put t0 o.dst .skip) c.H = some r → wpStill P ops w Q l (a.put o.dst undef) :=
      fun t0 ht0 hq0 => vStill_sound hs l _ hq0 _ (ht0.put .skip o.dst) hK
    unfold vStill at hq
    simp only [putK_eq, setK_eq] at hq
    split at hq
    · rename_i hg
      unfold wpStill
      rw [wanted_yes ht (ops := ops) (o := o) (by simp only [gv, hg])]
      exact run t ht hq
    · rename_i j want hg
      split at hq
      · rename_i s hd
        split at hq
        · rename_i b hb
          have hgv : gv ops o t = if b = want then .yes else .no := by simp only [gv, hg, hd, hb]
          cases b <;> cases want <;> simp only [cond_true, cond_false] at hq
          · unfold wpStill; rw [wanted_yes ht hgv]; exact run _ (ht.lit hb) hq
          · unfold wpStill; rw [wanted_no ht hgv]; exact skip _ (ht.lit hb) hq
          · unfold wpStill; rw [wanted_no ht hgv]; exact skip _ (ht.lit hb) hq
          · unfold wpStill; rw [wanted_yes ht hgv]; exact run _ (ht.lit hb) hq
        · rename_i hb
          unfold wpStill
          rw [wanted_no ht (ops := ops) (o := o) (by simp only [gv, hg, hd, hb])]
          exact skip t ht hq
        · cases hq
      · cases hq
/-- Whichever order is drawn. -/
theorem vAny_sound {E : Env} (hE : EnvOKV P E) (hN : Named P) {ops : Array Oper} {Q : Exit → Act → World → Prop} {QV : List V → VH → Prop} {SV : Nat → VH → Prop} :
    ∀ (fuel : Nat) (listed : Array Bool) (t : List V) (c : Cx), vAny P E ops QV SV fuel listed t c.H → ∀ (S : List Loc) (a : Act) (w : World), St P B w0 c S w → TR P c S t a →
      (∀ t' d S' a' w', QV t' d.H → Le c d → S <+: S' → St P B w0 d S' w' → TR P d S' t' a' → Q .normal a' w') → wpAny P .any ops Q fuel listed a w
  | 0, listed, t, c, hq, S, a, w, hs, ht, hK => ⟨hq.1, hK t c S a w hq.2 (Le.refl c) (List.prefix_refl _) hs ht⟩
  | fuel + 1, listed, t, c, hq, S, a, w, hs, ht, hK => by
    refine ⟨fun h0 => hK t c S a w (hq.1 h0) (Le.refl c) (List.prefix_refl _) hs ht, fun i hi => ?_⟩
    have h1 := hq.2 i hi
    unfold vStep at h1
    split at h1
    · exact h1.elim
    · rename_i o ho
      unfold wpOp
      simp only [ho]
      split at h1
      · rename_i hg
        obtain ⟨v, H', h2, h3⟩ := h1
        rw [wanted_yes ht hg, if_pos rfl]
        refine .inl (vOp_sound hE hN h2 hs ht fun d u v' w' S' hk hle hp hs' hr => ?_)
        injection hk with hk
        injection hk with e1 e2
        subst e1 e2
        exact vAny_sound hE hN fuel _ _ d h3.2 S' _ w' hs' ((ht.mono hle hp).put hr o.dst) fun t'' d' S'' a'' w'' hk' hle' hp' hs'' ht'' => hK t'' d' S'' a'' w'' hk' (hle.trans hle') (hp.trans hp') hs'' ht''
      · rename_i hg
        rw [wanted_no ht hg]
        simp only [Bool.false_eq_true, if_false]
        exact vAny_sound hE hN fuel _ _ c h1.2 S _ w hs (ht.put .skip o.dst) hK
      · exact h1.elim
theorem St.drawn (h : St P B w0 c S w) (n : Nat) : St P B w0 c S { w with drawn := n } := ⟨h.v, h.s.drawn n⟩
theorem TR.bool (ht : TR P c S t a) {s : Nat} {b : Bool} (hb : t.getD s .undef = .bool b) : a.tmps.getD s undef = .bool b := by
  obtain ⟨t', h1, h2⟩ := ht
  have hr := h1.getD s
  rw [hb] at hr
  have := h2.get s
  generalize t'.getD s Go.undef = x at hr this
  cases hr
  exact this.inv_bool
theorem vC_sound {E : Env} (hE : EnvOKV P E) (hN : Named P) (hM : P.follows .mixedOrders = true) {M : Nat} {r : V × VH} :
    ∀ (s : SC), okSC s = true → ∀ (K : Kont) (t : List V) (c : Cx), vC P E M s K t c.H = some r → ∀ (S : List Loc) (a : Act) (w : World), St P B w0 c S w → TR P c S t a → ∀ (Q : Exit → Act → World → Prop),
      (∀ e t' d S' a' w', K e t' d.H = some r → Le c d → S <+: S' → St P B w0 d S' w' → TR P d S' t' a' → Q (Ex.out e) a' w') → s.erase.wp P Q a w := by
  intro s
  induction s with
  | skip => intro _ K t c hq S a w hs ht Q hK; exact wp_skip (hK .normal t c S a w hq (Le.refl c) (List.prefix_refl _) hs ht)
  | ret => intro _ K t c hq S a w hs ht Q hK; exact wp_ret (hK .ret t c S a w hq (Le.refl c) (List.prefix_refl _) hs ht)
  | exit id => intro _ K t c hq S a w hs ht Q hK; exact wp_exit (hK (.exit id) t c S a w hq (Le.refl c) (List.prefix_refl _) hs ht)
  | region id ops =>
    intro hok K t c hq S a w hs ht Q hK
    exact wp_region_list (vOps_sound hE hN ops.toList t c hq S a w hs ht fun t' d S' a' w' hk hle hp hs' ht' => hK .normal t' d S' a' w' hk hle hp hs' ht')
  | draw id ops order =>
    intro hok K t c hq S a w hs ht Q hK
    simp only [okSC, Bool.and_eq_true, decide_eq_true_eq] at hok
    obtain ⟨⟨hc, hsel⟩, hl⟩ := hok
    refine wp_region_any hM ?_
    exact vAny_sound hE hN _ _ t c (vDraw_any order ops.size _ [] t c.H hl hc hq) S a _ (hs.drawn _) ht fun t' d S' a' w' hk hle hp hs' ht' => hK .normal t' d S' a' w' hk hle hp hs' ht'
  | still id ops =>
    intro hok K t c hq S a w hs ht Q hK
    have hB := hok
    simp only [okSC] at hB
    exact wp_region_still hM hB (vStill_sound (hs.drawn (w.drawn + 1)) ops.toList t hq a ht fun t' a' hk ht' => hK .normal t' c S a' _ hk (Le.refl c) (List.prefix_refl _) (hs.drawn _) ht')
  | tail id ops n =>
    intro hok K t c hq S a w hs ht Q hK
    have hB := hok
    simp only [okSC] at hB
    obtain ⟨l⟩ := ops
    refine wp_region_still_tail n hM hB (vStill_sound (hs.drawn (w.drawn + 1)) _ t hq a ht fun t' a' hk ht' => ?_)
    exact vOps_sound hE hN _ t' c hk S a' _ (hs.drawn _) ht' fun t'' d S' a'' w' hk' hle hp hs' ht'' => hK .normal t'' d S' a'' w' hk' hle hp hs' ht''
  | seq clr x y ihx ihy =>
    intro hok K t c hq S a w hs ht Q hK
    simp only [okSC, Bool.and_eq_true] at hok
    have key : ∀ (f : List V → List V), (∀ c S t a, TR P c S t a → TR P c S (f t) a) → vC P E M x (kSeq (fun t h => vC P E M y K (f t) h) K) t c.H = some r → (SC.seq clr x y).erase.wp P Q a w := by
      intro f hf hq
      refine wp_seq (ihx hok.1 _ t c hq S a w hs ht _ fun e t' d S' a' w' hk hle hp hs' ht' => ?_)
      cases e with
      | normal => exact ihy hok.2 K _ d hk S' a' w' hs' (hf _ _ _ _ ht') Q fun e' t'' d' S'' a'' w'' hk' hle' hp' hs'' ht'' => hK e' t'' d' S'' a'' w'' hk' (hle.trans hle') (hp.trans hp') hs'' ht''
      | exit id => exact hK (.exit id) t' d S' a' w' hk hle hp hs' ht'
      | ret => exact hK .ret t' d S' a' w' hk hle hp hs' ht'
    cases clr with
    | none => exact key id (fun _ _ _ _ h => h) hq
    | some clr =>
      unfold vC at hq
      simp only [clearK_eq] at hq
      exact key (clearL 0 clr) (fun _ _ _ _ h => h.clear 0 clr) hq
  | cond x b1 b2 ihx ihy =>
    intro hok K t c hq S a w hs ht Q hK
    simp only [okSC, Bool.and_eq_true] at hok
    unfold vC at hq
    cases x with
    | tmp s =>
      simp only [setK_eq] at hq
      split at hq
      · rename_i b hb
        refine wp_cond (t := b) (ht.bool hb) ?_
        cases b with
        | true => exact ihx hok.1 K _ c hq S a w hs (ht.lit hb) Q hK
        | false => exact ihy hok.2 K _ c hq S a w hs (ht.lit hb) Q hK
      · cases hq
    | const v =>
      cases v with
      | bool b =>
        refine wp_cond (t := b) rfl ?_
        cases b with
        | true => exact ihx hok.1 K _ c hq S a w hs ht Q hK
        | false => exact ihy hok.2 K _ c hq S a w hs ht Q hK
      | _ => cases hq
    | global g => cases hq
    | func f => cases hq
  | block id x ih =>
    intro hok K t c hq S a w hs ht Q hK
    refine wp_block (ih hok _ t c hq S a w hs ht _ fun e t' d S' a' w' hk hle hp hs' ht' => ?_)
    cases e with
    | normal => exact hK .normal t' d S' a' w' hk hle hp hs' ht'
    | exit j =>
      show (if j = id then Q .normal a' w' else Q (.exit j) a' w')
      unfold kBlock at hk
      simp only at hk
      split at hk
      · rename_i hj; rw [if_pos hj]; exact hK .normal t' d S' a' w' hk hle hp hs' ht'
      · rename_i hj; rw [if_neg hj]; exact hK (.exit j) t' d S' a' w' hk hle hp hs' ht'
    | ret => exact hK .ret t' d S' a' w' hk hle hp hs' ht'
  | loop clr x ih =>
    intro hok K t c hq S a w hs ht Q hK
    have key : ∀ (m : Nat) (t : List V) (d : Cx) (S' : List Loc) (a : Act) (w : World), loopN (fun K t h => vC P E M x K t h) clr K m t d.H = some r → Le c d → S <+: S' → St P B w0 d S' w → TR P d S' t a → Code.rounds P x.erase Q m a w := by
      intro m
      induction m with
      | zero => intro t d S' a w hq; cases hq
      | succ m ihm =>
        intro t d S' a w hq hle hp hs ht
        refine ih hok _ t d hq S' a w hs ht _ fun e t' d' S'' a' w' hk hle' hp' hs' ht' => ?_
        cases e with
        | normal =>
          simp only [kSeq, clearK_eq] at hk
          exact ihm _ d' S'' a' w' hk (hle.trans hle') (hp.trans hp') hs' (ht'.clear 0 clr)
        | exit id => exact hK (.exit id) t' d' S'' a' w' hk (hle.trans hle') (hp.trans hp') hs' ht'
        | ret => exact hK .ret t' d' S'' a' w' hk (hle.trans hle') (hp.trans hp') hs' ht'
    unfold vC at hq
    rw [clearK_eq] at hq
    exact wp_loop_rounds M (key M _ c S a w hq (Le.refl c) (List.prefix_refl _) hs (ht.clear 0 clr))
  | other x => intro _ K t c hq; cases hq
theorem rets_sim (hc : VSim P c) {t' : List Value} (ht : VRs P c t t') : ∀ {rs : List ResultVar} {vs : List V}, rets P c.H t rs = some vs → ∃ vs', Sh.rets P c.h t' rs = some vs' ∧ VRs P c vs vs'
  | [], vs, h => by simp only [rets, Option.some.injEq] at h; subst h; exact ⟨[], rfl, .nil⟩
  | .tmp s :: r, vs, h => by
    simp only [rets, Option.map_eq_some_iff] at h
    obtain ⟨us, hu, rfl⟩ := h
    obtain ⟨us', h1, h2⟩ := rets_sim hc ht hu
    exact ⟨t'.getD s Go.undef :: us', by simp [Sh.rets, h1], .cons (ht.getD s) h2⟩
  | .cell s T :: r, vs, h => by
    unfold rets at h
    unfold Sh.rets
    split at h
    · rename_i p hp
      have ra := ht.getD s
      rw [hp] at ra
      split at h
      · cases h
      · rename_i hU
        split at h
        · rename_i τ hf
          simp only [Option.bind_eq_some_iff, Option.map_eq_some_iff] at h
          obtain ⟨q, hq, us, hu, rfl⟩ := h
          obtain ⟨us', h1, h2⟩ := rets_sim hc ht hu
          obtain ⟨ad, x', h3, h4, h5⟩ := ld_sim hc hq ra
          have h4 : Sh.ld1 (.flat τ.S) c.h ad = some x' := h4
          refine ⟨Sh.fenc τ.S x' :: us', ?_, .cons h5 h2⟩
          rw [h3]
          simp only [if_neg hU, ty1_flat hf]
          rw [h4, h1]
          rfl
        · rename_i l hf
          obtain ⟨hl, h⟩ := ite_some h
          simp only [Option.bind_eq_some_iff, Option.map_eq_some_iff] at h
          obtain ⟨q, hq, us, hu, rfl⟩ := h
          obtain ⟨us', h1, h2⟩ := rets_sim hc ht hu
          obtain ⟨ad, x', h3, h4, h5⟩ := ld_sim hc hq ra
          have h4 : Sh.ld1 (.agg (l.map FT.S)) c.h ad = some x' := h4
          refine ⟨.agg ⟨Sh.encs (l.map FT.S) x'⟩ :: us', ?_, .cons h5 h2⟩
          rw [h3]
          simp only [if_neg hU, ty1_agg hf, List.length_map, if_pos hl]
          rw [h4, h1]
          rfl
    · cases h
theorem one_sim_ {vs : List V} {vs' : List Value} (h : VRs P c vs vs') : VR P c (one_ vs) (Sh.one_ vs') := by
  cases h with
  | nil => exact .tup .nil
  | cons a b =>
    cases b with
    | nil => exact a
    | cons b d => exact .tup (.cons a (.cons b d))
/-- What the table must be. -/
structure VOK (P : Program) (T : VTab) : Prop where
  code : ∀ (f : FuncId) (s : SC), T.code f = some s → okSC s = true ∧ ∃ fn, P.funcs[f]? = some fn ∧ fn.body = some s.erase
  ext : ∀ (f : FuncId) (e : Array Value → Sem Value), T.ext f = some e → ∃ fn, P.funcs[f]? = some fn ∧ fn.body = none ∧ Extern.findNext fn = none ∧ Extern.find fn = some e
  same : ∀ (f : FuncId), T.same f = true → ∃ fn e, P.funcs[f]? = some fn ∧ fn.body = none ∧ Extern.findNext fn = none ∧ Extern.find fn = some e ∧ ∀ v, e #[v] = pure v
  named : Named P
  mixed : P.follows .mixedOrders = true
theorem bodyV_sound {T : VTab} (hT : VOK P T) {call : FuncId → List V → VH → VRes} (hC : CallOKV P call) (n : Nat) : CallOKV P (bodyV P T call n) := by
  intro f args c v H' hq B w0 S w args' hs hargs
  unfold bodyV at hq
  split at hq
  · rename_i s fn hc hfn
    obtain ⟨hok, fn', hfn', hb⟩ := hT.code f s hc
    rw [hfn] at hfn'
    injection hfn' with hfn'
    subst hfn'
    refine ⟨⟨fn, s.erase, hfn, hb⟩, ?_⟩
    refine calls_of_wp hfn hb ?_
    obtain ⟨us, ha1, ha2⟩ := hargs
    have hlen := ha2.length
    have hlen2 := ha1.length
    have ht : TR P c S (args ++ List.replicate (fn.ntmps - args.length) .undef) { tmps := args'.toArray ++ Array.replicate (fn.ntmps - args'.toArray.size) undef, defers := [] } := by
      refine ⟨_, ha1.append (VRs.replicate_undef (fn.ntmps - args.length)), ?_, rfl⟩
      simp only [Array.toList_append, Array.toList_replicate, List.size_toArray, ← hlen, ← hlen2]
      exact ha2.append (VRels.replicate_undef _)
    refine vC_sound (E := env T call f) ⟨hC, hT.ext, hT.same⟩ hT.named hT.mixed s hok _ _ c hq S _ w hs ht _ fun e t' d S' a' w' hk hle hp hs' ht' => ?_
    have hk2 : (rets P d.H t' fn.results.toList).bind (fun vs => some (one_ vs, d.H)) = some (v, H') := by
      cases e with
      | normal => exact hk
      | ret => exact hk
      | exit id => cases hk
    rw [Option.bind_eq_some_iff] at hk2
    obtain ⟨vs, hvs, hk2⟩ := hk2
    injection hk2 with hk2
    injection hk2 with e1 e2
    subst e1 e2
    obtain ⟨t2, h1, h2⟩ := ht'
    obtain ⟨vs', h3, h4⟩ := rets_sim hs'.v h1 hvs
    obtain ⟨v', hr, hrun⟩ := results_sound hs'.s h2 h3
    cases e with
    | normal => exact ⟨h2.2, v', hrun, d, v', S', rfl, rfl, hle, hp, hs', _, one_sim_ h4, hr⟩
    | ret => exact ⟨h2.2, v', hrun, d, v', S', rfl, rfl, hle, hp, hs', _, one_sim_ h4, hr⟩
    | exit id => cases hk
  · cases hq
end
end Go.Proofs.Ytfneikjincmhpaa.Sh.V
namespace Go.Proofs.Ytfneikjincmhpaa.Sh.V
open Go.Proofs.Ytfneikjincmhpaa.Sh Go.RowKit
section
variable {P : Program} {c : Cx}
theorem basic_pure {v : V} (h : basicP v = true) : pure1 v = true := by
  cases v with
  | func f l m => cases l with
    | nil => cases m with
      | nil => rfl
      | cons _ _ => cases h
    | cons _ _ => cases h
  | _ => exact h
theorem cap_move {a b : Cx} {e : TypeId} {es : List (List V)} {cap : VC} {n x k fin : Nat} (h : pure1 (.sl e (.fz es cap)) = true) (j : a.Cap cap e n x k fin) : b.Cap cap e n x k fin := by
  cases cap with
  | no => trivial
  | ex k => exact j
  | tok t g => cases h
theorem closedC_strip {v : V} (hne : ∀ l, v ≠ .agg l) (hc : closedC v = true) : pure1 (stripC v) = true := by
  cases v with
  | agg l => exact absurd rfl (hne l)
  | undef => cases hc
  | skip => cases hc
  | bool b => rfl
  | int k n => rfl
  | flt k n => rfl
  | str s => rfl
  | ptr p => exact closed_strip1 (v := .ptr p) hc
  | sl e s => exact closed_strip1 (v := .sl e s) hc
  | map m => exact closed_strip1 (v := .map m) hc
  | func f l m => exact closed_strip1 (v := .func f l m) hc
  | nilFunc => rfl
  | nilIface => rfl
  | tup l => cases hc
mutual
theorem VR.move {a b : Cx} (hh : b.h = a.h) (hs : ∀ k, a.Stable k → b.Stable k) : ∀ {v : V} {v' : Value}, pure1 v = true → VR P a v v' → VR P b v v'
  | _, _, h, .undef v => by cases h
  | _, _, h, .skip => by cases h
  | _, _, _, .bool b => .bool b
  | _, _, _, .int k n => .int k n
  | _, _, _, .flt k n => .flt k n
  | _, _, _, .str s => .str s
  | _, _, _, .nilFunc => .nilFunc
  | _, _, _, .nilIface => .nilIface
  | _, _, _, .ptrNil => .ptrNil
  | _, _, h, .ptrOb _ => by cases h
  | _, _, _, .ptrFz r s e f g => .ptrFz (by rw [hh]; exact r) (hs _ s) e (VRs.move hh hs g f) g
  | _, _, _, .slNil => .slNil
  | _, _, h, .slFz r s e f g i j l => .slFz (by rw [hh]; exact r) (hs _ s) e (VRs.move hh hs g f) g i (cap_move h j) l
  | _, _, _, .slEm a b => .slEm a b
  | _, _, h, .slHp _ => by cases h
  | _, _, _, .mapNil => .mapNil
  | _, _, h, .map _ => by cases h
  | _, _, h, .func x y => .func (VRs.move hh hs (fun v hv => basic_pure (List.all_eq_true.1 (Bool.and_eq_true_iff.1 h).1 v hv)) x) (VRs.move hh hs (fun v hv => basic_pure (List.all_eq_true.1 (Bool.and_eq_true_iff.1 h).2 v hv)) y)
  | _, _, h, .agg _ => by cases h
  | _, _, h, .tup _ => by cases h
theorem VRs.move {a b : Cx} (hh : b.h = a.h) (hs : ∀ k, a.Stable k → b.Stable k) : ∀ {l : List V} {l' : List Value}, (∀ v ∈ l, pure1 v = true) → VRs P a l l' → VRs P b l l'
  | _, _, _, .nil => .nil
  | _, _, h, .cons x y => .cons (VR.move hh hs (h _ (List.mem_cons_self ..)) x) (VRs.move hh hs (fun v hv => h v (List.mem_cons_of_mem _ hv)) y)
end
theorem vr_moveC {a b : Cx} (hh : b.h = a.h) (hs : ∀ k, a.Stable k → b.Stable k) {v : V} {v' : Value} (hc : closedC v = true) (h : VR P a v v') : VR P b (stripC v) v' := by
  by_cases hv : ∃ l, v = .agg l
  · obtain ⟨l, rfl⟩ := hv
    cases h with
    | agg x =>
      refine .agg (VRs.move hh hs (fun v hv => ?_) (x.map fun _ _ h => h.strip1))
      obtain ⟨u, hu, rfl⟩ := List.mem_map.1 hv
      exact closed_strip1 (List.all_eq_true.1 hc u hu)
  · exact VR.move hh hs (closedC_strip (fun l e => hv ⟨l, e⟩) hc) h.stripC
theorem vr_moveT {a b : Cx} (hh : b.h = a.h) (hs : ∀ k, a.Stable k → b.Stable k) {v : V} {v' : Value} (hc : closedT v = true) (h : VR P a v v') : VR P b (stripT v) v' := by
  cases v with
  | tup l =>
    cases h with
    | tup x =>
      refine .tup ?_
      have : ∀ {l : List V} {l' : List Value}, l.all closedC = true → VRs P a l l' → VRs P b (l.map stripC) l' := by
        intro l
        induction l with
        | nil => intro l' _ h; cases h; exact .nil
        | cons v l ih =>
          intro l' hc h
          simp only [List.all_cons, Bool.and_eq_true] at hc
          cases h with
          | cons x y => exact .cons (vr_moveC hh hs hc.1 x) (ih hc.2 y)
      exact this hc x
  | undef => exact vr_moveC hh hs (v := .undef) hc h
  | skip => exact vr_moveC hh hs (v := .skip) hc h
  | bool b => exact vr_moveC hh hs (v := .bool b) hc h
  | int k n => exact vr_moveC hh hs (v := .int k n) hc h
  | flt k n => exact vr_moveC hh hs (v := .flt k n) hc h
  | str s => exact vr_moveC hh hs (v := .str s) hc h
  | ptr p => exact vr_moveC hh hs (v := .ptr p) hc h
  | sl e s => exact vr_moveC hh hs (v := .sl e s) hc h
  | map m => exact vr_moveC hh hs (v := .map m) hc h
  | func f l m => exact vr_moveC hh hs (v := .func f l m) hc h
  | nilFunc => exact vr_moveC hh hs (v := .nilFunc) hc h
  | nilIface => exact vr_moveC hh hs (v := .nilIface) hc h
  | agg l => exact vr_moveC hh hs (v := .agg l) hc h
theorem vF_sound {T : VTab} (hT : VOK P T) : ∀ n, CallOKV P (vF P T n) := by
  intro n
  induction n with
  | zero => intro f args c v H' hq; cases hq
  | succ n ih =>
    intro f args c v H' hq B w0 S w args' hs ha
    have key := bodyV_sound hT ih n
    have hq : alone (T.lone f) args c.H (bodyV P T (vF P T n) n f) = some (v, H') := hq
    unfold alone at hq
    cases hl : T.lone f with
    | false => rw [hl] at hq; exact key f args c v H' hq B w0 S w args' hs ha
    | true =>
      rw [hl] at hq
      simp only [cond_true] at hq
      cases hcl : args.all closedC with
      | false => rw [hcl] at hq; exact key f args c v H' hq B w0 S w args' hs ha
      | true =>
        rw [hcl] at hq
        simp only [cond_true, Option.bind_eq_some_iff] at hq
        obtain ⟨⟨r, H1⟩, hgo, h⟩ := hq
        cases hct : closedT r with
        | false => simp only [hct, cond_false] at h; cases h
        | true =>
          simp only [hct, cond_true, Option.some.injEq, Prod.mk.injEq] at h
          obtain ⟨rfl, rfl⟩ := h
          have hc := hs.v
          obtain ⟨X0, hX0⟩ : ∃ X0 : Nat → Prop, X0 = fun k => c.X k ∨ ∃ (i : Nat) (o : VO), c.H[i]? = some o ∧ o.hard = true ∧ c.σ[i]? = some k := ⟨_, rfl⟩
          have hc0 : VSim P ⟨[], [], c.h, X0⟩ := by
            refine ⟨rfl, fun i o k hi => by simp at hi, fun i j o o' k hi => by simp at hi, fun i o k hi => by simp at hi, fun k hk => ?_⟩
            rw [hX0] at hk
            rcases hk with hk | ⟨i, o, hi, ho, hk⟩
            · exact hc.Xlt k hk
            · exact hc.klt hi (VO.live_of_hard ho) hk
          have hin : ∀ k, c.Stable k → (⟨[], [], c.h, X0⟩ : Cx).Stable k := by
            intro k hk
            refine ⟨fun hx => ?_, fun i o hi => by simp at hi⟩
            have hx : X0 k := hx
            rw [hX0] at hx
            rcases hx with hx | ⟨i, o, hi, ho, hx⟩
            · exact hk.1 hx
            · exact hk.2 i o hi ho hx
          obtain ⟨us, ha1, ha2⟩ := ha
          have ha0 : VRs P ⟨[], [], c.h, X0⟩ (args.map stripC) us := by
            have : ∀ {l : List V} {l' : List Value}, l.all closedC = true → VRs P c l l' → VRs P ⟨[], [], c.h, X0⟩ (l.map stripC) l' := by
              intro l
              induction l with
              | nil => intro l' _ h; cases h; exact .nil
              | cons v l ih =>
                intro l' hc h
                simp only [List.all_cons, Bool.and_eq_true] at hc
                cases h with
                | cons x y => exact .cons (vr_moveC (a := c) (b := ⟨[], [], c.h, X0⟩) rfl hin hc.1 x) (ih hc.2 y)
            exact this hcl ha1
          obtain ⟨hb, hcalls⟩ := key f (args.map stripC) ⟨[], [], c.h, X0⟩ r H1 hgo B w0 S w args' ⟨hc0, hs.s⟩ ⟨us, ha0, ha2⟩
          refine ⟨hb, hcalls.mono ?_⟩
          rintro e w' ⟨d, v', S', rfl, rfl, g2, hp, hs', u, g4, g5⟩
          have hold : ∀ k, k < c.h.length → d.h[k]? = c.h[k]? := by
            intro k hk
            exact (g2.frame k hk (by rintro ⟨i, o, hi, _⟩; simp at hi)).1
          have hlen := g2.hlen
          have hle : Le c ⟨c.σ, c.H, d.h, c.X⟩ := by
            refine ⟨rfl, Nat.le_refl _, hlen, ?_, fun k hk hno => ⟨hold k hk, hno⟩, fun _ _ h => h, fun t e g' _ h => ⟨g', h, Nat.le_refl _, fun _ => rfl⟩⟩
            intro k e ys hs hr
            refine ⟨hs, ?_⟩
            have hk := rowT_lt hr
            unfold rowT at hr ⊢
            simp only
            rw [hold k hk]
            exact hr
          refine ⟨⟨c.σ, c.H, d.h, c.X⟩, v', S', rfl, rfl, hle, hp, ⟨?_, hs'.s⟩, u, ?_, g5⟩
          · refine ⟨hc.len, fun i o k hi hk => ?_, hc.inj, hc.X, fun k hk => Nat.lt_of_lt_of_le (hc.Xlt k hk) hlen⟩
            by_cases hlv : o.live = true
            · exact (hc.ob i o k hi hk).mono hle (hold k (hc.klt hi hlv hk))
            · cases o <;> first | trivial | exact absurd rfl hlv
          · refine vr_moveT (a := d) (b := ⟨c.σ, c.H, d.h, c.X⟩) rfl (fun k hk => ⟨fun hx => ?_, fun i o hi ho hk2 => ?_⟩) hct g4
            · refine hk.1 ?_
              rw [g2.X]
              show X0 k
              rw [hX0]
              exact .inl hx
            · refine hk.1 ?_
              rw [g2.X]
              show X0 k
              rw [hX0]
              exact .inr ⟨i, o, hi, ho, hk2⟩
/-- From the machine of values to the machine: the law's call. -/
theorem walk_of {T : VTab} (hT : VOK P T) {n : Nat} {f : FuncId} {args : List V} {args1 args' : List Value} {h : Heap} {H' : VH} {S : List Loc} {w : World} (hs : Sim P w.heap.size w S h w) (ha : VRs P ⟨[], [], h, fun _ => False⟩ args args1) (hb : VRels S args1 args')
    (hq : vF P T n f args [] = some (.bool true, H')) : Calls P f args'.toArray w fun e w' => e = .returned (.bool true) ∧ Below w.heap.size w w' := by
  have hc : VSim P ⟨[], [], h, fun _ => False⟩ := ⟨rfl, fun i o k hi => by simp at hi, fun i j o o' k hi => by simp at hi, fun i o k hi => by simp at hi, fun k hk => hk.elim⟩
  refine (vF_sound hT n f args ⟨[], [], h, fun _ => False⟩ _ H' hq _ _ S w args' ⟨hc, hs⟩ ⟨_, ha, hb⟩).2.mono ?_
  rintro e w' ⟨d, v', S', rfl, _, _, _, hs', u, g4, g5⟩
  cases g4
  exact ⟨by rw [g5.inv_bool], hs'.s.below⟩
def among2 : List (Nat × Nat) → Nat → Nat → Bool
  | [], _, _ => false
  | (a, b) :: l, f, g => cond (Nat.beq a f && Nat.beq b g) true (among2 l f g)
theorem vF_body {T : VTab} {n : Nat} {f : FuncId} {args : List V} {H : VH} (h : T.lone f = false) : vF P T (n + 1) f args H = bodyV P T (vF P T n) n f args H := by
  show alone (T.lone f) args H (bodyV P T (vF P T n) n f) = _
  rw [h]; rfl
theorem vF_lone {T : VTab} {n : Nat} {f : FuncId} {args : List V} {H H1 : VH} {r : V} (h : T.lone f = true) (h1 : args.all closedC = true) (h2 : bodyV P T (vF P T n) n f (args.map stripC) [] = some (r, H1)) (h3 : closedT r = true) :
    vF P T (n + 1) f args H = some (stripT r, H) := by
  show alone (T.lone f) args H (bodyV P T (vF P T n) n f) = _
  unfold alone
  rw [h, h1, h2]
  simp [h3]
theorem callD_some {call : FuncId → List V → VH → VRes} {τ : Ty} {f : FuncId} {args : List V} {H H' : VH} {x : τ.T} (v : V) (hc : call f args H = some (v, H')) (hd : dec τ v = some x) : callD call P false τ f args H = some (x, H') := by
  unfold callD
  rw [hc]
  simp only [Option.bind_some, freeze, cond_false, hd, Option.map_some]
def reached : List Nat → Nat → Bool := among
/-- A table out of the notes. -/
def mkV (P : Program) (notes : FuncId → Notes) (reach same : List Nat) (keep lone : FuncId → Bool) (frz : FuncId → FuncId → Bool) (frm : FuncId → Bool) : VTab where
  code f := cond (among reach f) (match P.funcs[f]? with
    | some fn => match fn.body with
      | some c => some (ann (notes f) c)
      | none => none
    | none => none) none
  ext f := cond (among same f) none (extOf P f)
  same f := among same f
  keep := keep
  lone := lone
  frz := frz
  frm := frm
def okCode (P : Program) (notes : FuncId → Notes) (f : FuncId) : Bool :=
  match P.funcs[f]? with
  | some fn => match fn.body with
    | some c => okSC (ann (notes f) c)
    | none => true
  | none => true
theorem among_mem : ∀ {l : List Nat} {f : Nat}, among l f = true → f ∈ l
  | a :: l, f, h => by
    unfold among at h
    cases hb : Nat.beq a f with
    | true => rw [Nat.eq_of_beq_eq_true hb]; exact List.mem_cons_self ..
    | false => rw [hb] at h; exact List.mem_cons_of_mem _ (among_mem h)
theorem mkV_ok {P : Program} {notes : FuncId → Notes} {reach same : List Nat} {keep lone : FuncId → Bool} {frz : FuncId → FuncId → Bool} {frm : FuncId → Bool} (hN : (P.funcs.all fun fn => !(fn.name == "runtime.NumGoroutine")) = true) (hM : P.follows .mixedOrders = true)
    (hC : ∀ f ∈ reach, okCode P notes f = true) (hS : ∀ f ∈ same, ∃ fn e, P.funcs[f]? = some fn ∧ fn.body = none ∧ Extern.findNext fn = none ∧ Extern.find fn = some e ∧ ∀ v, e #[v] = pure v) : VOK P (mkV P notes reach same keep lone frz frm) where
  code f s h := by
    unfold mkV at h
    simp only at h
    cases hr : among reach f with
    | false => rw [hr] at h; cases h
    | true =>
      rw [hr] at h
      simp only [cond_true] at h
      have hok := hC f (among_mem hr)
      unfold okCode at hok
      split at h
      · rename_i fn hfn
        simp only [hfn] at hok
        split at h
        · rename_i c' hb
          injection h with h
          subst h
          simp only [hb] at hok
          exact ⟨hok, fn, hfn, by rw [hb, ann_erase]⟩
        · cases h
      · cases h
  ext f e h := by
    unfold mkV at h
    simp only at h
    cases hs : among same f with
    | true => rw [hs] at h; cases h
    | false =>
      rw [hs] at h
      simp only [cond_false] at h
      unfold extOf at h
      split at h
      · rename_i fn hfn
        split at h
        · rename_i hb
          split at h
          · rename_i hn; exact ⟨fn, hfn, hb, hn, h⟩
          · cases h
        · cases h
      · cases h
  same f h := hS f (among_mem h)
  named f fn hf := by
    rw [Array.all_eq_true_iff_forall_mem] at hN
    have := hN fn (Array.mem_of_getElem? hf)
    simpa using this
  mixed := hM
end
end Go.Proofs.Ytfneikjincmhpaa.Sh.V
namespace Go.Proofs.Ytfneikjincmhpaa.Sh.V
open Go.Proofs.Ytfneikjincmhpaa.Sh

/-! ### Whole numbers -/
theorem i64_in {x : Int} (h : -9223372036854775808 ≤ x ∧ x ≤ 9223372036854775807) : IntKind.wrap .i64 x = x := IntWalk.i64_in x h
theorem i64_nat {n : Nat} (h : n ≤ 9223372036854775807) : IntKind.wrap .i64 (n : Int) = (n : Int) := IntWalk.i64_in _ (by omega)
theorem wrap_u64_nat {n : Nat} (h : n < 18446744073709551616) : IntKind.u64.wrap (n : Int) = n := by rw [IntKind.wrap_u64]; omega
theorem wrap_u8_nat {n : Nat} (h : n < 256) : IntKind.u8.wrap (n : Int) = n := by rw [IntKind.wrap_u8]; omega
theorem wrap_u8_mod (n : Nat) : IntKind.u8.wrap (n : Int) = ((n % 256 : Nat) : Int) := by rw [IntKind.wrap_u8]; omega
theorem ofInt_nat (w n : Nat) : BitVec.ofInt w (n : Int) = BitVec.ofNat w n := by simp
theorem bitI_and {x y : Nat} (hx : x < 18446744073709551616) (hy : y < 18446744073709551616) : bitI .and .u64 (x : Int) (y : Int) = ((x &&& y : Nat) : Int) := by
  show IntKind.u64.wrap ((BitVec.ofInt 64 (x : Int) &&& BitVec.ofInt 64 (y : Int) : BitVec 64).toNat : Int) = _
  rw [ofInt_nat, ofInt_nat, BitVec.toNat_and, BitVec.toNat_ofNat, BitVec.toNat_ofNat, Nat.mod_eq_of_lt hx, Nat.mod_eq_of_lt hy]
  exact wrap_u64_nat (Nat.lt_of_le_of_lt Nat.and_le_left hx)
theorem bitI_or {x y : Nat} (hx : x < 18446744073709551616) (hy : y < 18446744073709551616) : bitI .or .u64 (x : Int) (y : Int) = ((x ||| y : Nat) : Int) := by
  show IntKind.u64.wrap ((BitVec.ofInt 64 (x : Int) ||| BitVec.ofInt 64 (y : Int) : BitVec 64).toNat : Int) = _
  rw [ofInt_nat, ofInt_nat, BitVec.toNat_or, BitVec.toNat_ofNat, BitVec.toNat_ofNat, Nat.mod_eq_of_lt hx, Nat.mod_eq_of_lt hy]
  exact wrap_u64_nat (Nat.or_lt_two_pow (n := 64) hx hy)
theorem or_add {x y k : Nat} (hy : y < 2 ^ k) : (x * 2 ^ k) ||| y = x * 2 ^ k + y := by
  rw [Nat.mul_comm x, Nat.two_pow_add_eq_or_of_lt hy]
theorem shlI_u64 {x k : Nat} (hk : k ≤ 64) : shlI .u64 (x : Int) (k : Int) = some (((x * 2 ^ k) % 18446744073709551616 : Nat) : Int) := by
  unfold shlI
  rw [if_neg (by omega), Int.toNat_natCast, show IntKind.u64.bits = 64 from rfl, Nat.min_eq_left hk, IntKind.wrap_u64]
  congr 1
theorem shrI_nat {k : IntKind} {x s : Nat} (hs : s ≤ k.bits) : shrI k (x : Int) (s : Int) = some ((x / 2 ^ s : Nat) : Int) := by
  unfold shrI
  rw [if_neg (by omega), Int.toNat_natCast, Nat.min_eq_left hs]
  congr 1
  rw [Int.fdiv_eq_ediv_of_nonneg _ (by exact Int.le_of_lt (Int.pow_pos (by decide)))]
  exact (Int.natCast_ediv _ _).symm ▸ (by simp)
theorem quoI_nat {k : IntKind} {x y : Nat} (hy : y ≠ 0) (hw : k.wrap ((x / y : Nat) : Int) = ((x / y : Nat) : Int)) : quoI k (x : Int) (y : Int) = some ((x / y : Nat) : Int) := by
  unfold quoI
  rw [if_neg (by omega), Int.tdiv_eq_ediv_of_nonneg (by omega)]
  congr 1
theorem remI_nat {x y : Nat} (hy : y ≠ 0) : remI (x : Int) (y : Int) = some ((x % y : Nat) : Int) := by
  unfold remI
  rw [if_neg (by omega), Int.tmod_eq_emod_of_nonneg (by omega)]
  congr 1
/-! ### Heaps -/
/-- What there was stays, but for the named ones. -/
structure Kp (H H' : VH) (X : List Nat) : Prop where
  len : H.length ≤ H'.length
  at_ : ∀ i, i < H.length → i ∉ X → H'[i]? = H[i]?
theorem Kp.refl (H : VH) (X : List Nat) : Kp H H X := ⟨Nat.le_refl _, fun _ _ _ => rfl⟩
theorem Kp.app (H : VH) (l : List VO) : Kp H (H ++ l) [] := ⟨by simp, fun i hi _ => by rw [List.getElem?_append_left hi]⟩
theorem Kp.set (H : VH) (k : Nat) (o : VO) : Kp H (H.set k o) [k] := ⟨by simp, fun i _ hx => by rw [List.getElem?_set_ne (fun e => hx (by simp [e]))]⟩
theorem Kp.trans {H H1 H2 : VH} {X Y Z : List Nat} (a : Kp H H1 X) (b : Kp H1 H2 Y) (hx : ∀ x ∈ X, x < H.length → x ∈ Z) (hy : ∀ y ∈ Y, y < H.length → y ∈ Z) : Kp H H2 Z :=
  ⟨Nat.le_trans a.len b.len, fun i hi hz => by
    rw [b.at_ i (Nat.lt_of_lt_of_le hi a.len) (fun h => hz (hy i h hi)), a.at_ i hi (fun h => hz (hx i h hi))]⟩
theorem Kp.weak {H H1 : VH} {X Z : List Nat} (a : Kp H H1 X) (hx : ∀ x ∈ X, x < H.length → x ∈ Z) : Kp H H1 Z :=
  ⟨a.len, fun i hi hz => a.at_ i hi (fun h => hz (hx i h hi))⟩
theorem Kp.ob {H H' : VH} {X : List Nat} (a : Kp H H' X) {i : Nat} {o : VO} (hi : H[i]? = some o) (hx : i ∉ X) : H'[i]? = some o := by
  rw [a.at_ i (List.getElem?_eq_some_iff.1 hi).1 hx]; exact hi
theorem lt_of_ob {H : VH} {i : Nat} {o : VO} (hi : H[i]? = some o) : i < H.length := (List.getElem?_eq_some_iff.1 hi).1
theorem rowV_of {H : VH} {i : Nat} {e : TypeId} {cs : List V} (h : H[i]? = some (.row e cs)) : rowV H i = some cs := by unfold rowV; rw [h]
theorem ld_row {H : VH} {i off : Nat} {e : TypeId} {cs : List V} (h : H[i]? = some (.row e cs)) (τ : FT) : ldV (.flat τ) H (.ob i off) = (cs[off]?).bind (fdec τ) := by
  simp only [ldV, rowV_of h, Option.bind_some]
theorem st_row {H : VH} {i off : Nat} {e : TypeId} {cs vs : List V} (h : H[i]? = some (.row e cs)) (hl : off + vs.length ≤ cs.length) (h1 : onesV vs = true) : stV H (.ob i off) vs = some (H.set i (.row e (putAllV cs off vs))) := by
  simp only [stV, h]; rw [if_pos ⟨hl, h1⟩]
theorem fd_sl (e : TypeId) (s : VS) : fdec (.slice e) (.sl e s) = some s := if_pos rfl
theorem fd_nil (e e' : TypeId) : fdec (.slice e) (.sl e' .nil) = some .nil := by
  show atE e e' .nil = _
  unfold atE
  split <;> rfl
theorem fd_int (k : IntKind) (x : Int) : fdec (.int k) (.int k x) = some x := if_pos rfl
theorem fd_bool (b : Bool) : fdec .bool (.bool b) = some b := rfl
theorem fd_str (s : ByteArray) : fdec .str (.str s) = some s := rfl
theorem fd_ptr (p : VP) : fdec .ptr (.ptr p) = some p := rfl
theorem callD_int {P : Program} {call : FuncId → List V → VH → VRes} {k : IntKind} {f : FuncId} {args : List V} {H H' : VH} {x : Int} (hc : call f args H = some (.int k x, H')) : callD call P false (.one (.flat (.int k))) f args H = some (x, H') := callD_some _ hc (fd_int k x)
theorem callD_bool {P : Program} {call : FuncId → List V → VH → VRes} {f : FuncId} {args : List V} {H H' : VH} {x : Bool} (hc : call f args H = some (.bool x, H')) : callD call P false (.one (.flat .bool)) f args H = some (x, H') := callD_some _ hc rfl
theorem callD_str {P : Program} {call : FuncId → List V → VH → VRes} {f : FuncId} {args : List V} {H H' : VH} {x : ByteArray} (hc : call f args H = some (.str x, H')) : callD call P false (.one (.flat .str)) f args H = some (x, H') := callD_some _ hc rfl
theorem callD_sl {P : Program} {call : FuncId → List V → VH → VRes} {e : TypeId} {f : FuncId} {args : List V} {H H' : VH} {x : VS} (hc : call f args H = some (.sl e x, H')) : callD call P false (.one (.flat (.slice e))) f args H = some (x, H') := callD_some _ hc (fd_sl e x)
theorem callD_ptr {P : Program} {call : FuncId → List V → VH → VRes} {f : FuncId} {args : List V} {H H' : VH} {x : VP} (hc : call f args H = some (.ptr x, H')) : callD call P false (.one (.flat .ptr)) f args H = some (x, H') := callD_some _ hc rfl
theorem callD_unit {P : Program} {call : FuncId → List V → VH → VRes} {f : FuncId} {args : List V} {H H' : VH} (hc : call f args H = some (.tup [], H')) : callD call P false (.tup []) f args H = some ((), H') := callD_some _ hc rfl
/-! ### Slices whose elements stay -/
inductive IsE : VS → List (List V) → Prop
  | nil : IsE .nil []
  | fz (es : List (List V)) (c : VC) : IsE (.fz es c) es
theorem IsE.len {s : VS} {es : List (List V)} (h : IsE s es) : s.len = es.length := by cases h <;> rfl
theorem IsE.es {s : VS} {es : List (List V)} (h : IsE s es) (H : VH) (e : TypeId) (sz : Nat) : slEs H e sz s = some es := by cases h <;> rfl
theorem IsE.ix {s : VS} {es : List (List V)} (h : IsE s es) {i : Nat} {y : List V} (hy : es[i]? = some y) (sz : Nat) : ixV sz s (i : Int) = some (.fz y) := by
  cases h with
  | nil => simp at hy
  | fz =>
    simp only [ixV]
    rw [if_pos (by omega), Int.toNat_natCast, hy]
    rfl
theorem IsE.strip {s : VS} {es : List (List V)} (h : IsE s es) : IsE s.strip es := by
  cases h with
  | nil => exact .nil
  | fz es c => cases c <;> exact .fz _ _
theorem IsE.closed {s : VS} {es : List (List V)} (h : IsE s es) (e : TypeId) : closed1 (.sl e s) = true := by cases h <;> rfl
theorem IsE.isNil {s : VS} {es : List (List V)} (h : IsE s es) (hn : s.isNil = true) : s = .nil ∧ es = [] := by cases h with | nil => exact ⟨rfl, rfl⟩ | fz => cases hn
/-- A piece. -/
theorem IsE.cut {s : VS} {es : List (List V)} (h : IsE s es) {lo hi : Nat} (h1 : lo ≤ hi) (h2 : hi ≤ es.length) {lo' hi' mx' : Option Int} (e1 : lo' = some (lo : Int) ∨ lo' = none ∧ lo = 0) (e2 : hi' = some (hi : Int) ∨ hi' = none ∧ hi = es.length)
    (e3 : mx' = none ∨ mx' = some (hi : Int) ∧ hi' = some (hi : Int)) (H : VH) (e : TypeId) (sz : Nat) : ∃ s', cutD H e sz s lo' hi' mx' = some s' ∧ IsE s' ((es.take hi).drop lo) ∧ (s = .nil → s' = .nil) ∧ (mx' = some (hi : Int) → s = .nil ∨ s' = .fz ((es.take hi).drop lo) (.ex (hi - lo))) := by
  unfold cutD
  rw [holdV_eq]
  have b1 : ∀ m : Nat, hi ≤ m → bd es.length hi' m = some hi ∨ (hi' = none ∧ hi = es.length) := by
    intro m hm
    rcases e2 with rfl | ⟨rfl, rfl⟩
    · left; simp only [bd, inB]; rw [if_pos ⟨by omega, by omega⟩, Int.toNat_natCast]
    · right; exact ⟨rfl, rfl⟩
  have b1' : ∀ m : Nat, hi ≤ m → bd es.length hi' m = some hi := by
    intro m hm
    rcases b1 m hm with h0 | ⟨h0, h3⟩
    · exact h0
    · rw [h0, h3]; rfl
  have b2 : bd 0 lo' hi = some lo := by
    rcases e1 with rfl | ⟨rfl, rfl⟩
    · simp only [bd, inB]; rw [if_pos ⟨by omega, by omega⟩, Int.toNat_natCast]
    · rfl
  cases h with
  | nil =>
    simp only [List.length_nil] at h2 b1'
    have h0 : hi = 0 := by omega
    have h3 : lo = 0 := by omega
    subst h0 h3
    refine ⟨.nil, ?_, by simpa using IsE.nil, fun _ => rfl, fun _ => .inl rfl⟩
    have b3 : bd 0 mx' 0 = some 0 := by
      rcases e3 with rfl | ⟨rfl, _⟩
      · rfl
      · rfl
    simp only [cutV]
    rw [b3, Option.bind_some, b1' 0 (Nat.le_refl _), Option.bind_some, b2, Option.bind_some]
  | fz es c =>
    rcases e3 with rfl | ⟨rfl, e4⟩
    · refine ⟨.fz ((es.take hi).drop lo) (capCut c lo hi es.length), ?_, .fz _ _, (fun h => by cases h), (fun h => by cases h)⟩
      simp only [cutV]
      rw [b1' es.length h2, Option.bind_some, b2, Option.bind_some]
    · refine ⟨.fz ((es.take hi).drop lo) (.ex (hi - lo)), ?_, .fz _ _, (fun h => by cases h), fun _ => .inr rfl⟩
      simp only [cutV]
      have b4 : inB (hi : Int) es.length = some hi := by unfold inB; rw [if_pos ⟨by omega, by omega⟩, Int.toNat_natCast]
      rw [b4, Option.bind_some, b1' hi (Nat.le_refl _), Option.bind_some, b2, Option.bind_some]
/-- May be appended to. -/
inductive Ap (H : VH) (e : TypeId) : VS → List (List V) → Prop
  | nil : Ap H e .nil []
  | lit (es : List (List V)) : Ap H e (.fz es (.ex es.length)) es
  | tok (es : List (List V)) (t : Nat) : H[t]? = some (.tok e es.length) → Ap H e (.fz es (.tok t es.length)) es
def toks : VS → List Nat
  | .fz _ (.tok t _) => [t]
  | _ => []
theorem Ap.isE {H : VH} {e : TypeId} {s : VS} {es : List (List V)} (h : Ap H e s es) : IsE s es := by cases h <;> constructor
theorem Ap.keep {H H' : VH} {X : List Nat} {e : TypeId} {s : VS} {es : List (List V)} (h : Ap H e s es) (k : Kp H H' X) (hx : ∀ t ∈ toks s, t ∉ X) : Ap H' e s es := by
  cases h with
  | nil => exact .nil
  | lit es => exact .lit es
  | tok es t ht => exact .tok es t (k.ob ht (hx t (by simp [toks])))
theorem Ap.app {H : VH} {sz by_ : Nat} {e : TypeId} {s x : VS} {es news : List (List V)} (h : Ap H e s es) (hx : IsE x news) (hb : (((es.length + news.length) * by_ : Nat) : Int) ≤ bound) (h63 : ((es.length + news.length : Nat) : Int) ≤ bound) :
    ∃ s' H', appD true H sz by_ e s x = some (s', H') ∧ Ap H' e s' (es ++ news) ∧ Kp H H' (toks s) ∧ (∀ t ∈ toks s', t ∈ toks s ∨ H.length ≤ t) ∧ (news = [] → s' = s ∧ H' = H) := by
  have hl : appD true H sz by_ e s x = appW H e sz s news := by
    unfold appD
    rw [holdV_eq, h.isE.len, hx.len, if_pos ⟨hb, h63⟩, hx.es, Option.bind_some]
    rfl
  rw [hl]
  unfold appW
  by_cases hm : news.length = 0
  · have : news = [] := List.eq_nil_of_length_eq_zero hm
    subst this
    rw [if_pos hm]
    exact ⟨s, H, rfl, by simpa using h, Kp.refl _ _, fun t ht => .inl ht, fun _ => ⟨rfl, rfl⟩⟩
  · rw [if_neg hm]
    have hne : news ≠ [] := fun e => hm (by rw [e]; rfl)
    cases h with
    | nil =>
      refine ⟨_, _, rfl, .tok _ H.length (by simp), (Kp.app H _).weak (fun x hx => by cases hx), fun t ht => .inr ?_, fun e => absurd e hne⟩
      simp [toks] at ht; omega
    | lit es =>
      simp only
      rw [if_pos (by omega)]
      have := Ap.tok (H := H ++ [.tok e (es ++ news).length]) (e := e) (es ++ news) H.length (by simp)
      rw [List.length_append] at this
      refine ⟨_, _, rfl, this, (Kp.app H _).weak (fun x hx => by cases hx), fun t ht => .inr ?_, fun e => absurd e hne⟩
      simp [toks] at ht; omega
    | tok es t ht =>
      simp only [ht, and_self, if_true]
      have htl := lt_of_ob ht
      have := Ap.tok (H := H.set t (.tok e (es ++ news).length)) (e := e) (es ++ news) t (by rw [List.getElem?_set_self htl])
      rw [List.length_append] at this
      exact ⟨_, _, rfl, this, Kp.set _ _ _, fun t ht => .inl ht, fun e => absurd e hne⟩
/-! ### Bytes -/
def bc (b : UInt8) : List V := [.int .u8 (b.toNat : Int)]
def bs (l : List UInt8) : List (List V) := l.map bc
@[simp] theorem bs_len (l : List UInt8) : (bs l).length = l.length := by simp [bs]
theorem bs_app (a b : List UInt8) : bs (a ++ b) = bs a ++ bs b := by simp [bs]
theorem bs_take (l : List UInt8) (n : Nat) : (bs l).take n = bs (l.take n) := by simp [bs, List.map_take]
theorem bs_drop (l : List UInt8) (n : Nat) : (bs l).drop n = bs (l.drop n) := by simp [bs, List.map_drop]
theorem bytesE_bs (s : ByteArray) : bytesE s = bs s.data.toList := rfl
theorem bytesE_of (l : List UInt8) : bytesE ⟨l.toArray⟩ = bs l := rfl
theorem bytesOf_bs (l : List UInt8) : bytesOfE (bs l) = some l := by
  induction l with
  | nil => rfl
  | cons b l ih =>
    show ((bytesOfE (bs l)).map fun l => UInt8.ofNat ((b.toNat : Int)).toNat :: l) = _
    rw [ih]
    simp
abbrev IsB (s : VS) (l : List UInt8) : Prop := IsE s (bs l)
theorem IsE.str {s : VS} {es : List (List V)} (h : IsE s es) (H : VH) (e : TypeId) : strV H e s = (bytesOfE es).map fun l => ⟨l.toArray⟩ := by
  cases h <;> rfl
theorem IsB.str {s : VS} {l : List UInt8} (h : IsB s l) (H : VH) (e : TypeId) : strV H e s = some ⟨l.toArray⟩ := by
  rw [IsE.str h, bytesOf_bs]
  rfl
theorem IsB.rd {s : VS} {l : List UInt8} (h : IsB s l) {i : Nat} {b : UInt8} (hb : l[i]? = some b) (H : VH) {β : Type} (f : Int → Option β) : ((ixV 1 s (i : Int)).bind fun p => (ldV (.flat (.int .u8)) H p).bind f) = f (b.toNat : Int) := by
  rw [h.ix (y := bc b) (by simp [bs, hb]) 1, Option.bind_some]
  rfl
theorem ixS_of {l : List UInt8} {i : Nat} {b : UInt8} (hi : l[i]? = some b) : ixS ⟨l.toArray⟩ (i : Int) = some (b.toNat : Int) := by
  unfold ixS
  have hlt := (List.getElem?_eq_some_iff.1 hi).1
  have he := (List.getElem?_eq_some_iff.1 hi).2
  have hs : i < (⟨l.toArray⟩ : ByteArray).size := by simpa [ByteArray.size] using hlt
  rw [if_pos (Int.natCast_nonneg i), Int.toNat_natCast, getElem?_pos (⟨l.toArray⟩ : ByteArray) i hs, Option.map_some]
  congr 2
  rw [← he]
  rfl
theorem strEq_iff (x y : List UInt8) : strEq ⟨x.toArray⟩ ⟨y.toArray⟩ = decide (x = y) := by
  unfold strEq
  rw [Go.ByteArray.toList_mk, Go.ByteArray.toList_mk]
  by_cases h : x = y
  · subst h; simp
  · rw [decide_eq_false h]; simpa using h
theorem strEq_self (x : ByteArray) : strEq x x = true := by unfold strEq; simp
theorem str_data (s : ByteArray) : s = ⟨s.data.toList.toArray⟩ := by cases s; simp
theorem size_of (l : List UInt8) : (⟨l.toArray⟩ : ByteArray).size = l.length := by simp [ByteArray.size]
end Go.Proofs.Ytfneikjincmhpaa.Sh.V
namespace Go.Proofs.Ytfneikjincmhpaa.Sh
open Go.RowKit
/-! ### Arguments that are handed in -/
def Ob.ro : Ob → Bool
  | .dead => true
  | .row rw _ _ => !rw
  | _ => false
theorem Sim.addRo {P : Program} {B : Nat} {w0 : World} {S : List Loc} {h : Heap} {w : World} (hs : Sim P B w0 S h w) (hown : ∀ o ∈ h, o.ro = true) (L : Loc) (o : Ob) (ho : o.ro = true) (hn : ObIs P B (S ++ [L]) w L o) :
    Sim P B w0 (S ++ [L]) (h ++ [o]) w ∧ ∀ x ∈ h ++ [o], x.ro = true := by
  have hall : ∀ x ∈ h ++ [o], x.ro = true := by
    intro x hx
    rcases List.mem_append.1 hx with h1 | h1
    · exact hown x h1
    · rw [List.mem_singleton.1 h1]; exact ho
  refine ⟨⟨by simp [hs.len], hs.below, hs.size, ?_, ?_, ?_⟩, hall⟩
  · intro j u M hj hM
    rcases Nat.lt_or_ge j h.length with hlt | hge
    · rw [List.getElem?_append_left hlt] at hj
      rw [List.getElem?_append_left (by rw [hs.len]; exact hlt)] at hM
      exact (hs.ob j u M hj hM).mono ⟨_, rfl⟩
    · rw [List.getElem?_append_right hge] at hj
      rw [List.getElem?_append_right (by rw [hs.len]; exact hge)] at hM
      have h0 : j - h.length = 0 := by
        rcases Nat.eq_zero_or_pos (j - h.length) with h0 | h0
        · exact h0
        · rw [List.getElem?_eq_none (by simp; omega)] at hj; cases hj
      rw [hs.len] at hM
      rw [h0] at hj hM
      simp at hj hM
      subst hj hM
      exact hn
  · intro i j oi oj L' M hij hi hj hoi
    have := hall oi (List.mem_of_getElem? hi)
    cases oi with
    | dead => cases hoi
    | row rw e cs => cases rw with
      | false => cases hoi
      | true => cases this
    | app e cs => cases this
    | map es => cases this
  · intro i j e cs oj L' M hij hi
    have := hall _ (List.mem_of_getElem? hi)
    cases this
end Go.Proofs.Ytfneikjincmhpaa.Sh
namespace Go.Proofs.Ytfneikjincmhpaa.Sh.V
open Go.Proofs.Ytfneikjincmhpaa.Sh Go.RowKit
section
variable (P : Program) (w : World)
mutual
/-- A value in the world, all of it read only. -/
inductive IsIn : V → Value → Prop
  | bool (b) : IsIn (.bool b) (.bool b)
  | int (k n) : IsIn (.int k n) (.int k n)
  | flt (k n) : IsIn (.flt k n) (.float k n)
  | str (s) : IsIn (.str s) (.string s)
  | ptrNil : IsIn (.ptr .nil) (.pointer none)
  | nilFunc : IsIn .nilFunc .nilFunc
  | nilIface : IsIn .nilIface .nilIface
  | mapNil : IsIn (.map none) (.map none)
  | slNil (e) : IsIn (.sl e .nil) (.slice none 0 0)
  | slEm (e a) : IsIn (.sl e (.fz [] (.ex 0))) (.slice (some a) 0 0)
  | sl {e es cap b off ys} : cap ≠ 0 → es.length ≤ cap → b < w.heap.size → (∀ y ∈ es, y.length = P.cellsOf e) → (∀ (j : Nat) (y : Value), ys[j]? = some y → w.cell? ⟨b, off + j, none⟩ = some y) → IsIns es.flatten ys →
      IsIn (.sl e (.fz es (.ex cap))) (.slice (some ⟨b, off, none⟩) es.length cap)
inductive IsIns : List V → List Value → Prop
  | nil : IsIns [] []
  | cons {v v' l l'} : IsIn v v' → IsIns l l' → IsIns (v :: l) (v' :: l')
end
end
theorem IsIns.length {P : Program} {w : World} {l : List V} {l' : List Value} (h : IsIns P w l l') : l.length = l'.length := by
  induction l generalizing l' with
  | nil => cases h; rfl
  | cons v l ih => cases h with | cons _ b => simp [ih b]
/-- The shadow's heap alone. -/
abbrev cxh (h : Heap) : Cx := ⟨[], [], h, fun _ => False⟩
theorem cxh_le (h : Heap) (o : List Ob) (hr : ∀ x ∈ h, x.ro = true) : Le (cxh h) (cxh (h ++ o)) where
  X := rfl
  len := Nat.le_refl _
  hlen := by simp
  pers k e ys h1 h2 := by
    have hk : k < h.length := by
      rcases Nat.lt_or_ge k h.length with hl | hl
      · exact hl
      · unfold rowT at h2; simp only [List.getElem?_eq_none hl] at h2; cases h2
    refine ⟨h1, ?_⟩
    unfold rowT at h2 ⊢
    simp only at h2 ⊢
    rw [List.getElem?_append_left hk]
    exact h2
  frame k h1 h2 := ⟨by simp only; rw [List.getElem?_append_left h1], by rintro ⟨i, o, hi, _⟩; simp at hi⟩
  ids i k h1 := h1
  toks t e g' h1 h2 := by simp at h1
theorem pure_of {P : Program} {w : World} {v : V} {v' : Value} (h : IsIn P w v v') : pure1 v = true := by cases h <;> rfl
theorem pures_of {P : Program} {w : World} {l : List V} {l' : List Value} (h : IsIns P w l l') : ∀ v ∈ l, pure1 v = true := by
  induction l generalizing l' with
  | nil => intro v hv; cases hv
  | cons v l ih =>
    cases h with
    | cons a b =>
      intro x hx
      rcases List.mem_cons.1 hx with rfl | hx
      · exact pure_of a
      · exact ih b x hx
end Go.Proofs.Ytfneikjincmhpaa.Sh.V
namespace Go.Proofs.Ytfneikjincmhpaa.Sh.V
open Go.Proofs.Ytfneikjincmhpaa.Sh Go.RowKit
theorem one_of {P : Program} {c : Cx} {v : V} {v1 : Value} (h : VR P c v v1) (hp : pure1 v = true) : v1.oneCell' = true := by
  cases h <;> first | rfl | (simp [pure1, basicP] at hp)
theorem ones_of {P : Program} {c : Cx} {l : List V} {l1 : List Value} (h : VRs P c l l1) (hp : ∀ v ∈ l, pure1 v = true) : ones l1 = true := by
  induction l generalizing l1 with
  | nil => cases h; rfl
  | cons v l ih =>
    cases h with
    | cons a b =>
      simp only [ones, List.all_cons, Bool.and_eq_true]
      exact ⟨one_of a (hp _ (List.mem_cons_self ..)), ih b (fun v hv => hp v (List.mem_cons_of_mem _ hv))⟩
theorem rels_at {S : List Loc} {l l' : List Value} (h : VRels S l l') {j : Nat} {v : Value} (hj : l[j]? = some v) : ∃ v', l'[j]? = some v' ∧ VRel S v v' := by
  induction l generalizing l' j with
  | nil => simp at hj
  | cons x l ih =>
    cases h with
    | cons a b =>
      cases j with
      | zero => simp at hj; subst hj; exact ⟨_, rfl, a⟩
      | succ j => simp at hj; simpa using ih b hj
mutual
theorem Sim.in1 {P : Program} {B : Nat} {w0 w : World} : ∀ {v : V} {v' : Value}, IsIn P w v v' → ∀ {S : List Loc} {h : Heap}, Sim P B w0 S h w → (∀ o ∈ h, o.ro = true) →
    ∃ S' o v1, S <+: S' ∧ Sim P B w0 S' (h ++ o) w ∧ (∀ x ∈ h ++ o, x.ro = true) ∧ VR P (cxh (h ++ o)) v v1 ∧ VRel S' v1 v'
  | _, _, .bool b, S, h, hs, ho => ⟨S, [], _, List.prefix_refl _, by simpa using hs, by simpa using ho, .bool b, .bool b⟩
  | _, _, .int k n, S, h, hs, ho => ⟨S, [], _, List.prefix_refl _, by simpa using hs, by simpa using ho, .int k n, .int k n⟩
  | _, _, .flt k n, S, h, hs, ho => ⟨S, [], _, List.prefix_refl _, by simpa using hs, by simpa using ho, .flt k n, .float k n⟩
  | _, _, .str s, S, h, hs, ho => ⟨S, [], _, List.prefix_refl _, by simpa using hs, by simpa using ho, .str s, .string s⟩
  | _, _, .ptrNil, S, h, hs, ho => ⟨S, [], _, List.prefix_refl _, by simpa using hs, by simpa using ho, .ptrNil, .ptrNil⟩
  | _, _, .nilFunc, S, h, hs, ho => ⟨S, [], _, List.prefix_refl _, by simpa using hs, by simpa using ho, .nilFunc, .nilFunc⟩
  | _, _, .nilIface, S, h, hs, ho => ⟨S, [], _, List.prefix_refl _, by simpa using hs, by simpa using ho, .nilIface, .nilIface⟩
  | _, _, .mapNil, S, h, hs, ho => ⟨S, [], _, List.prefix_refl _, by simpa using hs, by simpa using ho, .mapNil, .mapNil⟩
  | _, _, .slNil e, S, h, hs, ho => ⟨S, [], _, List.prefix_refl _, by simpa using hs, by simpa using ho, .slNil, .sliceNil⟩
  | _, _, .slEm e a, S, h, hs, ho => by
    obtain ⟨h1, h2⟩ := hs.addRo ho ⟨a.block, 0, 0, 1⟩ .dead rfl trivial
    refine ⟨_, [.dead], .slice (some ⟨h.length, 0, none⟩) 0 1, ⟨_, rfl⟩, h1, h2, .slEm (by decide) (.inr ⟨0, rfl, rfl⟩), ?_⟩
    have := VRel.slice (S := S ++ [⟨a.block, 0, 0, 1⟩]) (i := S.length) (o := 0) (n := 0) (c := 1) (c' := 0) (a := a) (L := ⟨a.block, 0, 0, 1⟩) (by simp) (Nat.le_refl _) rfl (fun h => absurd rfl h) (fun h => by cases h) (fun _ => rfl)
    rw [hs.len] at this
    exact this
  | _, _, .sl (e := e) (es := es) (cap := cap) (b := b) (off := off) (ys := ys) c0 hc hb hy hcell hin, S, h, hs, ho => by
    obtain ⟨S1, o1, vs1, p1, g1, g2, g3, g4⟩ := Sim.ins hin hs ho
    have hl := g3.length
    have hone := ones_of g3 (pures_of hin)
    obtain ⟨h1, h2⟩ := g1.addRo g2 ⟨b, off, vs1.length, P.cellsOf e⟩ (.row false e vs1) rfl (by
      refine ⟨rfl, hone, hb, Nat.le_refl _, ?_, fun h => by cases h⟩
      intro j v hj
      obtain ⟨v', hv, hr⟩ := rels_at g4 hj
      exact ⟨v', hcell j v' hv, hr.mono ⟨_, rfl⟩⟩)
    have hk : (h ++ o1 ++ [Ob.row false e vs1])[(h ++ o1).length]? = some (.row false e vs1) := by simp
    refine ⟨S1 ++ [⟨b, off, vs1.length, P.cellsOf e⟩], o1 ++ [.row false e vs1], .slice (some ⟨(h ++ o1).length, 0, none⟩) es.length (cap + 1), p1.trans ⟨_, rfl⟩, by rw [← List.append_assoc]; exact h1, by rw [← List.append_assoc]; exact h2, ?_, ?_⟩
    · rw [← List.append_assoc]
      refine .slFz (k := (h ++ o1).length) (ys := vs1) (by unfold rowT; simp only; rw [hk]) ⟨fun h => h, fun i o hi => by simp at hi⟩ (by omega) ?_ (pures_of hin) hy ⟨rfl, hc⟩ (fun _ => by omega)
      rw [List.drop_zero, List.take_of_length_le (by omega)]
      exact g3.mono (cxh_le _ _ g2)
    · have := VRel.slice (S := S1 ++ [⟨b, off, vs1.length, P.cellsOf e⟩]) (i := S1.length) (o := 0) (n := es.length) (c := cap + 1) (c' := cap) (a := ⟨b, off, none⟩) (L := ⟨b, off, vs1.length, P.cellsOf e⟩) (by simp) hc rfl (fun _ => rfl) (fun h => by cases h) (fun _ => rfl)
      rw [g1.len] at this
      exact this
theorem Sim.ins {P : Program} {B : Nat} {w0 w : World} : ∀ {l : List V} {l' : List Value}, IsIns P w l l' → ∀ {S : List Loc} {h : Heap}, Sim P B w0 S h w → (∀ o ∈ h, o.ro = true) →
    ∃ S' o l1, S <+: S' ∧ Sim P B w0 S' (h ++ o) w ∧ (∀ x ∈ h ++ o, x.ro = true) ∧ VRs P (cxh (h ++ o)) l l1 ∧ VRels S' l1 l'
  | _, _, .nil, S, h, hs, ho => ⟨S, [], [], List.prefix_refl _, by simpa using hs, by simpa using ho, .nil, .nil⟩
  | _, _, .cons a b, S, h, hs, ho => by
    obtain ⟨S1, o1, v1, p1, g1, g2, g3, g4⟩ := Sim.in1 a hs ho
    obtain ⟨S2, o2, l1, p2, q1, q2, q3, q4⟩ := Sim.ins b g1 g2
    refine ⟨S2, o1 ++ o2, v1 :: l1, p1.trans p2, by rw [← List.append_assoc]; exact q1, by rw [← List.append_assoc]; exact q2, ?_, .cons (g4.mono p2) q4⟩
    rw [← List.append_assoc]
    exact .cons (g3.mono (cxh_le _ _ g2)) q3
end
end Go.Proofs.Ytfneikjincmhpaa.Sh.V
namespace Go.Proofs.Ytfneikjincmhpaa.Sh.V
open Go.Proofs.Ytfneikjincmhpaa.Sh Go.RowKit Go.WideShapes
/-! ### What a law is handed: from its reading to values -/
/-- Cells of a type: numbers in their ranges, texts that are not too long, slices of such. -/
def HasT (P : Program) : Nat → TypeId → List V → Prop
  | 0, _, _ => False
  | d + 1, t, cs =>
    match P.underlying t with
    | some .bool => ∃ b, cs = [.bool b]
    | some (.int k) => ∃ n, cs = [.int k n] ∧ (Lit.int k n).wf = true
    | some (.float k) => ∃ n, cs = [.flt k n] ∧ (Lit.float k n).wf = true
    | some .string => ∃ s, cs = [.str s] ∧ s.size ≤ maxLen
    | some (.slice e) => cs = [.sl e .nil] ∨ ∃ es k, cs = [.sl e (.fz es (.ex k))] ∧ es.length ≤ k ∧ k ≤ maxLen ∧ ∀ y ∈ es, HasT P d e y ∧ y.length = P.cellsOf e
    | some (.struct fs) => cs.length = P.cellsOf t ∧ ∀ (i : Nat) (f : Field), fs[i]? = some f → HasT P d f.type ((cs.drop f.offset).take (P.cellsOf f.type))
    | _ => False
def amongT : List Nat → Nat → Bool
  | [], _ => false
  | a :: l, f => cond (Nat.beq a f) true (amongT l f)
def laidF (P : Program) : List Field → Nat → Nat → Bool
  | [], off, tot => Nat.beq off tot
  | f :: r, off, tot => Nat.beq f.offset off && laidF P r (off + P.cellsOf f.type) tot
def plainTys (P : Program) (ts : List TypeId) : Bool := ts.all fun t =>
  match P.underlying t with
  | some .bool | some (.int _) | some (.float _) | some .string => true
  | some (.slice e) => amongT ts e && Nat.ble 1 (P.cellsOf e)
  | some (.struct fs) => fs.toList.all (fun f => amongT ts f.type) && laidF P fs.toList 0 (P.cellsOf t)
  | _ => false
theorem amongT_mem : ∀ {l : List Nat} {f : Nat}, amongT l f = true → f ∈ l
  | a :: l, f, h => by
    unfold amongT at h
    cases hb : Nat.beq a f with
    | true => rw [Nat.eq_of_beq_eq_true hb]; exact List.mem_cons_self ..
    | false => rw [hb] at h; exact List.mem_cons_of_mem _ (amongT_mem h)
theorem IsIns.app {P : Program} {w : World} {l1 l2 : List V} {m1 m2 : List Value} (h1 : IsIns P w l1 m1) (h2 : IsIns P w l2 m2) : IsIns P w (l1 ++ l2) (m1 ++ m2) := by
  induction l1 generalizing m1 with
  | nil => cases h1; exact h2
  | cons v l ih => cases h1 with | cons a b => exact .cons a (ih b)
theorem fields_in {P : Program} {w : World} {Q : TypeId → List V → Prop} {cs : List Value} {tot : Nat} (hl : cs.length = tot) : ∀ (fs : List Field) (off : Nat), laidF P fs off tot = true →
    (∀ f ∈ fs, ∃ l, IsIns P w l ((cs.drop f.offset).take (P.cellsOf f.type)) ∧ Q f.type l) →
    off ≤ tot ∧ ∃ l, IsIns P w l (cs.drop off) ∧ ∀ f ∈ fs, off ≤ f.offset ∧ Q f.type ((l.drop (f.offset - off)).take (P.cellsOf f.type)) := by
  intro fs
  induction fs with
  | nil =>
    intro off h _
    have h0 : off = tot := Nat.eq_of_beq_eq_true h
    refine ⟨by omega, [], ?_, fun f hf => by cases hf⟩
    rw [List.drop_eq_nil_of_le (by omega)]
    exact .nil
  | cons f r ih =>
    intro off h hq
    unfold laidF at h
    rw [Bool.and_eq_true] at h
    have h0 : f.offset = off := Nat.eq_of_beq_eq_true h.1
    obtain ⟨ho, l2, g1, g2⟩ := ih _ h.2 (fun f hf => hq f (List.mem_cons_of_mem _ hf))
    obtain ⟨l1, g3, g4⟩ := hq f (List.mem_cons_self ..)
    rw [h0] at g3
    have hlen := g3.length
    rw [List.length_take, List.length_drop] at hlen
    have hl1 : l1.length = P.cellsOf f.type := by omega
    have e : cs.drop off = (cs.drop off).take (P.cellsOf f.type) ++ cs.drop (off + P.cellsOf f.type) := by
      rw [← List.drop_drop, List.take_append_drop]
    refine ⟨by omega, l1 ++ l2, by rw [e]; exact g3.app g1, ?_⟩
    intro x hx
    rcases List.mem_cons.1 hx with rfl | hx
    · refine ⟨by omega, ?_⟩
      rw [h0, Nat.sub_self, List.drop_zero, ← hl1, List.take_left]
      exact g4
    · obtain ⟨g5, g6⟩ := g2 x hx
      refine ⟨by omega, ?_⟩
      rw [show x.offset - off = l1.length + (x.offset - (off + P.cellsOf f.type)) by omega, ← List.drop_drop, List.drop_left]
      exact g6
theorem elems_in {P : Program} {w : World} {base : Nat} {a : Addr} {sz : Nat} {Q : List V → Prop} : ∀ (n : Nat), (∀ i, i < n → ∃ cs l, w.cells? base (a.add (i * sz)) sz = some cs ∧ IsIns P w l cs ∧ Q l) →
    ∃ (es : List (List V)) (ys : List Value), es.length = n ∧ ys.length = n * sz ∧ IsIns P w es.flatten ys ∧ (∀ y ∈ es, Q y ∧ y.length = sz) ∧ ∀ j, j < n * sz → w.cell? (a.add j) = ys[j]? := by
  intro n
  induction n with
  | zero => intro _; exact ⟨[], [], rfl, by simp, .nil, (fun y hy => by cases hy), fun j hj => by omega⟩
  | succ n ih =>
    intro h
    obtain ⟨es, ys, h1, h2, h3, h4, h5⟩ := ih (fun i hi => h i (by omega))
    obtain ⟨cs, l, g1, g2, g3⟩ := h n (by omega)
    obtain ⟨_, g4, g5⟩ := World.cells?_some g1
    have hl := g2.length
    have e1 : (n + 1) * sz = n * sz + sz := by rw [Nat.add_mul, Nat.one_mul]
    refine ⟨es ++ [l], ys ++ cs, by simp [h1], by rw [List.length_append, h2, g4, e1], ?_, ?_, ?_⟩
    · rw [List.flatten_append]
      refine h3.app ?_
      simpa using g2
    · intro y hy
      rcases List.mem_append.1 hy with hy | hy
      · exact h4 y hy
      · rw [List.mem_singleton.1 hy]; exact ⟨g3, by omega⟩
    · intro j hj
      rcases Nat.lt_or_ge j (n * sz) with hlt | hge
      · rw [h5 j hlt, List.getElem?_append_left (by omega)]
      · rw [List.getElem?_append_right (by omega), h2, ← g5 (j - n * sz) (by omega)]
        rw [Addr.add_add, show n * sz + (j - n * sz) = j by omega]
theorem spot_of {w : World} {a : Addr} {v : Value} (h : w.cell? a = some v) : a.spot = none ∧ a.block < w.heap.size := by
  refine ⟨?_, ?_⟩
  · unfold World.cell? at h
    split at h
    · split at h
      · cases h
      · rename_i hsp; simpa using hsp
    · cases h
  · rcases Nat.lt_or_ge a.block w.heap.size with hlt | hge
    · exact hlt
    · unfold World.cell? at h
      simp only [Array.getElem?_eq_none hge] at h
      cases h
theorem trod_float {H : Type} {enc : TypeId × Value → H} {P : Program} {w : World} {base : Nat} {spare : Nat → Bool} {held : Bool} {fuel : Nat} {t : TypeId} {cs : List Value} {x : DataW H × List MemPlace} {k : FloatKind}
    (ht : P.underlying t = some (.float k)) (h : DataW.trod enc P w base spare held fuel t cs = some x) : ∃ n, cs = [.float k n] ∧ (Lit.float k n).wf = true := by
  cases fuel with
  | zero => simp [DataW.trod] at h
  | succ n =>
    unfold DataW.trod at h
    rw [ht] at h
    split at h <;> simp_all
theorem trod_in {H : Type} {enc : TypeId × Value → H} {P : Program} {w : World} {base : Nat} {held : Bool} {ts : List TypeId} (hts : plainTys P ts = true) : ∀ (fuel : Nat) (t : TypeId) (cs : List Value) (x : DataW H × List MemPlace),
    t ∈ ts → DataW.trod enc P w base (fun _ => true) held fuel t cs = some x → ∃ l, IsIns P w l cs ∧ HasT P fuel t l := by
  intro fuel
  induction fuel with
  | zero => intro t cs x _ h; simp [DataW.trod] at h
  | succ n ih =>
    intro t cs x ht h
    have hk := List.all_eq_true.1 hts t ht
    unfold HasT
    split at hk
    · rename_i hu
      obtain ⟨b, rfl, _⟩ := DataW.trod_bool hu h
      exact ⟨[.bool b], .cons (.bool b) .nil, by first | exact (⟨b, rfl⟩) | (rw [hu]; exact (⟨b, rfl⟩))⟩
    · rename_i k hu
      obtain ⟨b, rfl, _, hw⟩ := DataW.trod_int hu h
      exact ⟨[.int k b], .cons (.int k b) .nil, by first | exact (⟨b, rfl, hw⟩) | (rw [hu]; exact (⟨b, rfl, hw⟩))⟩
    · rename_i k hu
      obtain ⟨b, rfl, hw⟩ := trod_float hu h
      exact ⟨[.flt k b], .cons (.flt k b) .nil, by first | exact (⟨b, rfl, hw⟩) | (rw [hu]; exact (⟨b, rfl, hw⟩))⟩
    · rename_i hu
      obtain ⟨b, rfl, _, hw⟩ := DataW.trod_string hu h
      exact ⟨[.str b], .cons (.str b) .nil, by first | exact (⟨b, rfl, hw⟩) | (rw [hu]; exact (⟨b, rfl, hw⟩))⟩
    · rename_i e hu
      rw [Bool.and_eq_true] at hk
      have hsz : 1 ≤ P.cellsOf e := Nat.le_of_ble_eq_true hk.2
      have he := amongT_mem hk.1
      rcases DataW.trod_slice hu h with ⟨rfl, _⟩ | ⟨a, len, cap, elems, rest, m, hm, rfl, _, hb, hl, hmax, hlen, hel, hsp, _⟩
      · exact ⟨[.sl e .nil], .cons (.slNil e) .nil, by first | exact (.inl rfl) | (rw [hu]; exact (.inl rfl))⟩
      · have hm' : m = n := by omega
        subst hm'
        obtain ⟨hrl, hr⟩ := hsp rfl
        have each : ∀ i, i < cap → ∃ cs l, w.cells? base (a.add (i * P.cellsOf e)) (P.cellsOf e) = some cs ∧ IsIns P w l cs ∧ HasT P m e l := by
          intro i hi
          have : ∃ y, (w.cells? base (a.add (i * P.cellsOf e)) (P.cellsOf e)).bind (DataW.trod enc P w base (fun _ => true) held m e) = some y := by
            rcases Nat.lt_or_ge i len with hlt | hge
            · rw [hel i hlt]
              exact ⟨_, List.getElem?_eq_getElem (by omega)⟩
            · have := hr (i - len) (by omega)
              rw [show len + (i - len) = i by omega] at this
              rw [this]
              exact ⟨_, List.getElem?_eq_getElem (by omega)⟩
          obtain ⟨y, hy⟩ := this
          rw [Option.bind_eq_some_iff] at hy
          obtain ⟨cs, h1, h2⟩ := hy
          obtain ⟨l, h3, h4⟩ := ih e cs y he h2
          exact ⟨cs, l, h1, h3, h4⟩
        rcases Nat.eq_zero_or_pos cap with h0 | h0
        · subst h0
          have : len = 0 := by omega
          subst this
          exact ⟨[.sl e (.fz [] (.ex 0))], .cons (.slEm e a) .nil, by first | exact (.inr ⟨[], 0, rfl, Nat.le_refl _, Nat.zero_le _, fun y hy => by cases hy⟩) | (rw [hu]; exact (.inr ⟨[], 0, rfl, Nat.le_refl _, Nat.zero_le _, fun y hy => by cases hy⟩))⟩
        · obtain ⟨es, ys, g1, g2, g3, g4, g5⟩ := elems_in (base := base) (a := a) (sz := P.cellsOf e) (Q := HasT P m e) len (fun i hi => each i (by omega))
          obtain ⟨c0, l0, k1, _, _⟩ := each 0 h0
          obtain ⟨_, k2, k3⟩ := World.cells?_some k1
          have k4 := k3 0 (by omega)
          obtain ⟨v0, hv0⟩ : ∃ v, c0[0]? = some v := ⟨_, List.getElem?_eq_getElem (by omega)⟩
          rw [hv0] at k4
          obtain ⟨k5, k6⟩ := spot_of k4
          obtain ⟨b, off, sp⟩ := a
          simp only [Addr.add, Nat.zero_mul, if_true] at k5 k6
          subst k5
          subst g1
          refine ⟨[.sl e (.fz es (.ex cap))], .cons (.sl (by omega) hl k6 (fun y hy => (g4 y hy).2) ?_ g3) .nil, by first | exact (.inr ⟨es, cap, rfl, hl, hmax, g4⟩) | (rw [hu]; exact (.inr ⟨es, cap, rfl, hl, hmax, g4⟩))⟩
          intro j y hj
          have hjl := (List.getElem?_eq_some_iff.1 hj).1
          rw [← hj, ← g5 j (by omega), Addr.add_lit]
    · rename_i fs hu
      rw [Bool.and_eq_true] at hk
      obtain ⟨xs, m, hm, _, hlen, hxl, hx⟩ := DataW.trod_struct hu h
      have hm' : m = n := by omega
      subst hm'
      obtain ⟨_, l, g1, g2⟩ := fields_in (w := w) (Q := HasT P m) hlen fs.toList 0 hk.2 (fun f hf => by
        obtain ⟨i, hi⟩ := List.getElem?_of_mem hf
        have hi' : fs[i]? = some f := by simpa using hi
        have h1 := hx i f hi'
        have hil : i < fs.size := (Array.getElem?_eq_some_iff.1 hi').1
        obtain ⟨y, hy⟩ : ∃ y, xs[i]? = some y := ⟨_, List.getElem?_eq_getElem (by omega)⟩
        rw [hy] at h1
        exact ih _ _ _ (amongT_mem (List.all_eq_true.1 hk.1 f hf)) h1)
      rw [List.drop_zero] at g1
      refine ⟨l, g1, ?_⟩
      try rw [hu]
      refine ⟨by rw [g1.length, hlen], fun i f hf => ?_⟩
      have := (g2 f (by simpa using List.mem_of_getElem? (by simpa using hf : fs.toList[i]? = some f))).2
      simpa using this
    · cases hk
/-! ### Arguments -/
inductive IsArg (P : Program) (w : World) : V → Value → Prop
  | one {v v'} : IsIn P w v v' → IsArg P w v v'
  | agg {l l'} : IsIns P w l l' → IsArg P w (.agg l) (.agg ⟨l'⟩)
inductive IsArgs (P : Program) (w : World) : List V → List Value → Prop
  | nil : IsArgs P w [] []
  | cons {v v' l l'} : IsArg P w v v' → IsArgs P w l l' → IsArgs P w (v :: l) (v' :: l')
def isAgg (P : Program) (t : TypeId) : Bool :=
  match P.underlying t with
  | some (.struct _) => true
  | _ => false
/-- An argument of a type. -/
def HasA (P : Program) (t : TypeId) (v : V) : Prop := ∃ d, cond (isAgg P t) (∃ l, v = .agg l ∧ HasT P d t l) (HasT P d t [v])
def HasAs (P : Program) : List TypeId → List V → Prop
  | [], [] => True
  | t :: ts, v :: vs => HasA P t v ∧ HasAs P ts vs
  | _, _ => False
theorem arg_in {H : Type} {enc : TypeId × Value → H} {P : Program} {w : World} {base : Nat} {held : Bool} {ts : List TypeId} (hts : plainTys P ts = true) {t : TypeId} (ht : amongT ts t = true) {v : Value} {d : DataW H} {p : List MemPlace} {r : Reach} {b0 : Nat}
    (hok : Value.okWide P w r b0 t v) (h : DataW.Trod enc P w base (fun _ => true) held t v d p) : ∃ u, IsArg P w u v ∧ HasA P t u := by
  obtain ⟨fuel, hf⟩ := h
  have hm := amongT_mem ht
  obtain ⟨l, h1, h2⟩ := trod_in hts fuel t _ _ hm hf
  have hk := List.all_eq_true.1 hts t hm
  have one : v.cells.toList = [v] → isAgg P t = false → ∃ u, IsArg P w u v ∧ HasA P t u := by
    intro h3 h4
    rw [h3] at h1
    cases h1 with
    | cons a b =>
      cases b
      refine ⟨_, .one a, fuel, ?_⟩
      rw [h4]
      exact h2
  split at hk
  · rename_i hu; obtain ⟨_, rfl⟩ := okWide_bool hu hok; exact one rfl (by simp [isAgg, hu])
  · rename_i hu; obtain ⟨_, rfl⟩ := okWide_int hu hok; exact one rfl (by simp [isAgg, hu])
  · rename_i hu
    have h3 := hok
    simp only [Value.okWide, hu, Cell.okWide] at h3
    cases v <;> simp [Cell.ok, hu] at h3
    exact one rfl (by simp [isAgg, hu])
  · rename_i hu; obtain ⟨_, rfl⟩ := okWide_string hu hok; exact one rfl (by simp [isAgg, hu])
  · rename_i hu; obtain ⟨_, _, _, rfl⟩ := okWide_slice hu hok; exact one rfl (by simp [isAgg, hu])
  · rename_i hu
    have h3 := hok
    simp only [Value.okWide, hu] at h3
    obtain ⟨cs, rfl, _⟩ := h3
    refine ⟨.agg l, .agg h1, fuel, ?_⟩
    rw [show isAgg P t = true by simp [isAgg, hu]]
    exact ⟨l, rfl, h2⟩
  · cases hk
theorem Sim.inA {P : Program} {B : Nat} {w0 w : World} {v : V} {v' : Value} (hi : IsArg P w v v') {S : List Loc} {h : Heap} (hs : Sim P B w0 S h w) (ho : ∀ o ∈ h, o.ro = true) :
    ∃ S' o v1, S <+: S' ∧ Sim P B w0 S' (h ++ o) w ∧ (∀ x ∈ h ++ o, x.ro = true) ∧ VR P (cxh (h ++ o)) v v1 ∧ VRel S' v1 v' := by
  cases hi with
  | one a => exact Sim.in1 a hs ho
  | agg a =>
    obtain ⟨S', o, l1, g1, g2, g3, g4, g5⟩ := Sim.ins a hs ho
    exact ⟨S', o, _, g1, g2, g3, .agg g4, .agg g5⟩
theorem Sim.inAs {P : Program} {B : Nat} {w0 w : World} {l : List V} {l' : List Value} (hi : IsArgs P w l l') : ∀ {S : List Loc} {h : Heap}, Sim P B w0 S h w → (∀ o ∈ h, o.ro = true) →
    ∃ S' o l1, S <+: S' ∧ Sim P B w0 S' (h ++ o) w ∧ (∀ x ∈ h ++ o, x.ro = true) ∧ VRs P (cxh (h ++ o)) l l1 ∧ VRels S' l1 l' := by
  induction hi with
  | nil => intro S h hs ho; exact ⟨S, [], [], List.prefix_refl _, by simpa using hs, by simpa using ho, .nil, .nil⟩
  | cons a b ih =>
    intro S h hs ho
    obtain ⟨S1, o1, v1, p1, g1, g2, g3, g4⟩ := Sim.inA a hs ho
    obtain ⟨S2, o2, l1, p2, q1, q2, q3, q4⟩ := ih g1 g2
    refine ⟨S2, o1 ++ o2, v1 :: l1, p1.trans p2, by rw [← List.append_assoc]; exact q1, by rw [← List.append_assoc]; exact q2, ?_, .cons (g4.mono p2) q4⟩
    rw [← List.append_assoc]
    exact .cons (g3.mono (cxh_le _ _ g2)) q3
/-- From the machine of values to the machine: the call of a law that is handed anything. -/
theorem walk_any {P : Program} {T : VTab} (hT : VOK P T) {f : FuncId} {us : List V} {vs : List Value} {w : World} (hin : IsArgs P w us vs) (hq : ∃ n H', vF P T n f us [] = some (.bool true, H')) :
    Calls P f vs.toArray w fun e w' => e = .returned (.bool true) ∧ Below w.heap.size w w' := by
  obtain ⟨n, H', hq⟩ := hq
  obtain ⟨S', o, l1, _, g1, g2, g3, g4⟩ := Sim.inAs hin (Sim.start w) (fun o ho => by cases ho)
  exact walk_of hT g1 (H' := H') g3 g4 hq
/-! ### What an argument looks like -/
theorem lst_of {α β : Type} {f : α → β} {Q : α → Prop} {es : List β} (h : ∀ y ∈ es, ∃ x, Q x ∧ y = f x) : ∃ l : List α, es = l.map f ∧ ∀ x ∈ l, Q x := by
  induction es with
  | nil => exact ⟨[], rfl, fun x hx => by cases hx⟩
  | cons y es ih =>
    obtain ⟨x, h1, rfl⟩ := h y (List.mem_cons_self ..)
    obtain ⟨l, rfl, h2⟩ := ih (fun y hy => h y (List.mem_cons_of_mem _ hy))
    exact ⟨x :: l, rfl, fun z hz => by rcases List.mem_cons.1 hz with rfl | hz; exact h1; exact h2 z hz⟩
theorem hasT_bool {P : Program} {d : Nat} {t : TypeId} {cs : List V} (hu : P.underlying t = some .bool) (h : HasT P d t cs) : ∃ b, cs = [.bool b] := by
  cases d with
  | zero => cases h
  | succ d => unfold HasT at h; rw [hu] at h; exact h
theorem hasT_int {P : Program} {d : Nat} {t : TypeId} {k : IntKind} {cs : List V} (hu : P.underlying t = some (.int k)) (h : HasT P d t cs) : ∃ n, cs = [.int k n] ∧ (Lit.int k n).wf = true := by
  cases d with
  | zero => cases h
  | succ d => unfold HasT at h; rw [hu] at h; exact h
theorem hasT_flt {P : Program} {d : Nat} {t : TypeId} {k : FloatKind} {cs : List V} (hu : P.underlying t = some (.float k)) (h : HasT P d t cs) : ∃ n, cs = [.flt k n] ∧ (Lit.float k n).wf = true := by
  cases d with
  | zero => cases h
  | succ d => unfold HasT at h; rw [hu] at h; exact h
theorem hasT_str {P : Program} {d : Nat} {t : TypeId} {cs : List V} (hu : P.underlying t = some .string) (h : HasT P d t cs) : ∃ s, cs = [.str s] ∧ s.size ≤ maxLen := by
  cases d with
  | zero => cases h
  | succ d => unfold HasT at h; rw [hu] at h; exact h
theorem hasT_sl {P : Program} {d : Nat} {t e : TypeId} {cs : List V} (hu : P.underlying t = some (.slice e)) (h : HasT P d t cs) : ∃ d' s es, d = d' + 1 ∧ cs = [.sl e s] ∧ IsE s es ∧ es.length ≤ maxLen ∧ ∀ y ∈ es, HasT P d' e y ∧ y.length = P.cellsOf e := by
  cases d with
  | zero => cases h
  | succ d =>
    unfold HasT at h
    rw [hu] at h
    rcases h with h | ⟨es, k, rfl, h1, h2, h3⟩
    · exact ⟨d, .nil, [], rfl, h, .nil, Nat.zero_le _, fun y hy => by cases hy⟩
    · exact ⟨d, _, es, rfl, rfl, .fz _ _, Nat.le_trans h1 h2, h3⟩
theorem hasT_struct {P : Program} {d : Nat} {t : TypeId} {fs : Array Field} {cs : List V} (hu : P.underlying t = some (.struct fs)) (h : HasT P d t cs) : ∃ d', d = d' + 1 ∧ cs.length = P.cellsOf t ∧ ∀ (i : Nat) (f : Field), fs[i]? = some f → HasT P d' f.type ((cs.drop f.offset).take (P.cellsOf f.type)) := by
  cases d with
  | zero => cases h
  | succ d => unfold HasT at h; rw [hu] at h; exact ⟨d, rfl, h⟩
theorem u8_wf {n : Int} (h : (Lit.int .u8 n).wf = true) : n = ((UInt8.ofNat n.toNat).toNat : Int) := by
  obtain ⟨h1, h2⟩ := wf_u8 h
  rw [UInt8.toNat_ofNat']
  omega
theorem hasT_bytes {P : Program} {d : Nat} {t e : TypeId} {cs : List V} (hu : P.underlying t = some (.slice e)) (he : P.underlying e = some (.int .u8)) (h : HasT P d t cs) : ∃ s l, cs = [.sl e s] ∧ IsB s l ∧ l.length ≤ maxLen := by
  obtain ⟨d', s, es, rfl, h1, h2, h3, h4⟩ := hasT_sl hu h
  obtain ⟨l, rfl, _⟩ := lst_of (f := bc) (Q := fun _ => True) (es := es) (fun y hy => by
    obtain ⟨n, rfl, hw⟩ := hasT_int he (h4 y hy).1
    exact ⟨UInt8.ofNat n.toNat, trivial, by unfold bc; rw [← u8_wf hw]⟩)
  exact ⟨s, l, h1, h2, by simpa using h3⟩
theorem data_len (n : ByteArray) : n.data.toList.length = n.size := Array.length_toList
/-- Texts as elements. -/
def tc (s : List UInt8) : List V := [.str ⟨s.toArray⟩]
theorem hasT_texts {P : Program} {d : Nat} {t e : TypeId} {cs : List V} (hu : P.underlying t = some (.slice e)) (he : P.underlying e = some .string) (h : HasT P d t cs) : ∃ (s : VS) (l : List (List UInt8)), cs = [.sl e s] ∧ IsE s (l.map tc) ∧ l.length ≤ maxLen ∧ ∀ x ∈ l, x.length ≤ maxLen := by
  obtain ⟨d', s, es, rfl, h1, h2, h3, h4⟩ := hasT_sl hu h
  obtain ⟨l, rfl, h5⟩ := lst_of (f := tc) (Q := fun x => x.length ≤ maxLen) (es := es) (fun y hy => by
    obtain ⟨n, rfl, hw⟩ := hasT_str he (h4 y hy).1
    exact ⟨n.data.toList, by rw [data_len]; exact hw, by simp [tc]⟩)
  exact ⟨s, l, h1, h2, by simpa using h3, h5⟩
theorem hasA_one {P : Program} {t : TypeId} {v : V} (hu : isAgg P t = false) (h : HasA P t v) : ∃ d, HasT P d t [v] := by
  obtain ⟨d, h⟩ := h
  rw [hu] at h
  exact ⟨d, h⟩
theorem hasA_agg {P : Program} {t : TypeId} {v : V} (hu : isAgg P t = true) (h : HasA P t v) : ∃ d l, v = .agg l ∧ HasT P d t l := by
  obtain ⟨d, h⟩ := h
  rw [hu] at h
  exact ⟨d, h⟩
theorem hasA_int {P : Program} {t : TypeId} {k : IntKind} {v : V} (hu : P.underlying t = some (.int k)) (h : HasA P t v) : ∃ n, v = .int k n ∧ (Lit.int k n).wf = true := by
  obtain ⟨d, h⟩ := hasA_one (by simp [isAgg, hu]) h
  obtain ⟨n, h1, h2⟩ := hasT_int hu h
  injection h1 with h1
  exact ⟨n, h1, h2⟩
theorem hasA_bool {P : Program} {t : TypeId} {v : V} (hu : P.underlying t = some .bool) (h : HasA P t v) : ∃ b, v = .bool b := by
  obtain ⟨d, h⟩ := hasA_one (by simp [isAgg, hu]) h
  obtain ⟨n, h1⟩ := hasT_bool hu h
  injection h1 with h1
  exact ⟨n, h1⟩
theorem hasA_str {P : Program} {t : TypeId} {v : V} (hu : P.underlying t = some .string) (h : HasA P t v) : ∃ l : List UInt8, v = .str ⟨l.toArray⟩ ∧ l.length ≤ maxLen := by
  obtain ⟨d, h⟩ := hasA_one (by simp [isAgg, hu]) h
  obtain ⟨n, h1, h2⟩ := hasT_str hu h
  injection h1 with h1
  exact ⟨n.data.toList, by simpa using h1, by rw [data_len]; exact h2⟩
theorem hasA_bytes {P : Program} {t e : TypeId} {v : V} (hu : P.underlying t = some (.slice e)) (he : P.underlying e = some (.int .u8)) (h : HasA P t v) : ∃ s l, v = .sl e s ∧ IsB s l ∧ l.length ≤ maxLen := by
  obtain ⟨d, h⟩ := hasA_one (by simp [isAgg, hu]) h
  obtain ⟨s, l, h1, h2⟩ := hasT_bytes hu he h
  injection h1 with h1
  exact ⟨s, l, h1, h2⟩
theorem hasA_texts {P : Program} {t e : TypeId} {v : V} (hu : P.underlying t = some (.slice e)) (he : P.underlying e = some .string) (h : HasA P t v) : ∃ (s : VS) (l : List (List UInt8)), v = .sl e s ∧ IsE s (l.map tc) ∧ l.length ≤ maxLen ∧ ∀ x ∈ l, x.length ≤ maxLen := by
  obtain ⟨d, h⟩ := hasA_one (by simp [isAgg, hu]) h
  obtain ⟨s, l, h1, h2⟩ := hasT_texts hu he h
  injection h1 with h1
  exact ⟨s, l, h1, h2⟩
theorem hasA_sl {P : Program} {t e : TypeId} {v : V} (hu : P.underlying t = some (.slice e)) (h : HasA P t v) : ∃ d s es, v = .sl e s ∧ IsE s es ∧ es.length ≤ maxLen ∧ ∀ y ∈ es, HasT P d e y ∧ y.length = P.cellsOf e := by
  obtain ⟨d, h⟩ := hasA_one (by simp [isAgg, hu]) h
  obtain ⟨d', s, es, _, h1, h2⟩ := hasT_sl hu h
  injection h1 with h1
  exact ⟨d', s, es, h1, h2⟩
end Go.Proofs.Ytfneikjincmhpaa.Sh.V
namespace Go.Proofs.Ytfneikjincmhpaa.Sh.V
open Go.Proofs.Ytfneikjincmhpaa.Sh
/-! ### More words about bytes and appending -/
def u8 (x : Int) : UInt8 := UInt8.ofNat (x % 256).toNat
theorem wrap_u8 (x : Int) : IntKind.wrap .u8 x = ((u8 x).toNat : Int) := by
  unfold u8
  rw [IntKind.wrap_u8, UInt8.toNat_ofNat']
  omega
theorem u8_nat (n : Nat) : (u8 (n : Int)).toNat = n % 256 := by
  unfold u8
  rw [UInt8.toNat_ofNat']
  omega
theorem u8_self (b : UInt8) : u8 (b.toNat : Int) = b := by
  apply UInt8.toNat_inj.1
  rw [u8_nat, Nat.mod_eq_of_lt b.toNat_lt]
theorem bc_wrap (x : Int) : [V.int .u8 (IntKind.wrap .u8 x)] = bc (u8 x) := by rw [wrap_u8]; rfl
theorem Ap.tok_at {H : VH} {e : TypeId} {s : VS} {es : List (List V)} (h : Ap H e s es) {t : Nat} (ht : t ∈ toks s) : ∃ g, H[t]? = some (.tok e g) := by
  cases h with
  | nil => cases ht
  | lit => cases ht
  | tok t' g' h1 => simp [toks] at ht; subst ht; exact ⟨_, h1⟩
/-- A lone call that tells a slice. -/
theorem lone_E {P : Program} {T : VTab} {n : Nat} {f : FuncId} {args : List V} {H H1 : VH} {e : TypeId} {s : VS} {es : List (List V)} (h : T.lone f = true) (h1 : args.all closedC = true) (h2 : bodyV P T (vF P T n) n f (args.map stripC) [] = some (.sl e s, H1)) (h3 : IsE s es) :
    vF P T (n + 1) f args H = some (.sl e s.strip, H) ∧ IsE s.strip es := by
  refine ⟨?_, h3.strip⟩
  have := vF_lone (H := H) h h1 h2 (by show closed1 (.sl e s) = true; exact h3.closed e)
  exact this
theorem closedC_sl {s : VS} {es : List (List V)} (h : IsE s es) (e : TypeId) : closedC (.sl e s) = true := h.closed e
theorem stays_one {H : VH} {p : VP} {τ : FT} {x : τ.T} (h : ldV (.flat τ) H p = some x) : V.stays H [(p, τ, fenc τ x)] = true := by
  unfold V.stays
  rw [h]
  simp only [same_self, Bool.true_and]
  rfl
theorem stays_int {H : VH} {p : VP} {k : IntKind} {x : Int} (h : ldV (.flat (.int k)) H p = some x) : V.stays H [(p, .int k, .int k x)] = true := stays_one (τ := .int k) h
theorem stays_str {H : VH} {p : VP} {x : ByteArray} (h : ldV (.flat .str) H p = some x) : V.stays H [(p, .str, .str x)] = true := stays_one (τ := .str) h
theorem stays_sl {H : VH} {p : VP} {e : TypeId} {x : VS} (h : ldV (.flat (.slice e)) H p = some x) : V.stays H [(p, .slice e, .sl e x)] = true := stays_one (τ := .slice e) h
theorem stays_bool {H : VH} {p : VP} {x : Bool} (h : ldV (.flat .bool) H p = some x) : V.stays H [(p, .bool, .bool x)] = true := stays_one (τ := .bool) h
theorem inc_nat {i : Nat} (h : i < 9223372036854775807) : IntKind.wrap .i64 ((i : Int) + 1) = ((i + 1 : Nat) : Int) := by rw [i64_in (by omega)]; rfl
theorem get_of {α : Type} {l : List α} {i : Nat} (h : i < l.length) : ∃ b, l[i]? = some b := ⟨_, List.getElem?_eq_getElem h⟩
theorem maxLen_eq : maxLen = 9223372036854775807 := by kernel_rfl
/-- A struct's fields: types, places, sizes. -/
def shapeOf (P : Program) (t : TypeId) : List (TypeId × Nat × Nat) :=
  match P.underlying t with
  | some (.struct fs) => fs.toList.map fun f => (f.type, f.offset, P.cellsOf f.type)
  | _ => []
theorem hasT_sh {P : Program} {d : Nat} {t : TypeId} {cs : List V} (sh : List (TypeId × Nat × Nat)) {sz : Nat} (hu : shapeOf P t = sh) (hz : P.cellsOf t = sz) (h0 : sh ≠ []) (h : HasT P d t cs) : ∃ d', d = d' + 1 ∧ cs.length = sz ∧ ∀ x ∈ sh, HasT P d' x.1 ((cs.drop x.2.1).take x.2.2) := by
  subst hu hz
  unfold shapeOf at h0 ⊢
  cases hc : P.underlying t with
  | none => rw [hc] at h0; exact absurd rfl h0
  | some k =>
    cases k with
    | struct fs =>
      obtain ⟨d', h1, h2, h3⟩ := hasT_struct hc h
      refine ⟨d', h1, h2, fun x hx => ?_⟩
      simp only [List.mem_map] at hx
      obtain ⟨f, hf, rfl⟩ := hx
      obtain ⟨i, hi⟩ := List.getElem?_of_mem hf
      exact h3 i f (by simpa using hi)
    | _ => rw [hc] at h0; exact absurd rfl h0
theorem wrap_low (x : Int) : IntKind.wrap .i64 x % 65536 = x % 65536 := by rw [IntKind.wrap_i64]; omega
/-- A lone function that is handed an object runs as any other. -/
theorem vF_open {P : Program} {T : VTab} {n : Nat} {f : FuncId} {args : List V} {H : VH} (h : T.lone f = true) (h1 : args.all closedC = false) : vF P T (n + 1) f args H = bodyV P T (vF P T n) n f args H := by
  show alone (T.lone f) args H (bodyV P T (vF P T n) n f) = _
  unfold alone
  rw [h, h1]
  rfl
end Go.Proofs.Ytfneikjincmhpaa.Sh.V
namespace Go.Proofs.Ytfneikjincmhpaa.Sh.V
open Go.Proofs.Ytfneikjincmhpaa.Sh
/-! ### Bytes in objects; slices of bytes as elements; readers and writers -/
def bcs (l : List UInt8) : List V := l.map fun b => .int .u8 (b.toNat : Int)
@[simp] theorem bcs_len (l : List UInt8) : (bcs l).length = l.length := by simp [bcs]
theorem bs_flat (l : List UInt8) : (bs l).flatten = bcs l := by
  induction l with
  | nil => rfl
  | cons b l ih => show bc b ++ (bs l).flatten = _; rw [ih]; rfl
theorem chunk_bcs (l : List UInt8) : chunk 1 l.length (bcs l) = bs l := by
  induction l with
  | nil => rfl
  | cons b l ih => show (bcs (b :: l)).take 1 :: chunk 1 l.length ((bcs (b :: l)).drop 1) = _; rw [show (bcs (b :: l)).drop 1 = bcs l from rfl, ih]; rfl
theorem strip_bcs (l : List UInt8) : (bcs l).map strip1 = bcs l := by
  induction l with
  | nil => rfl
  | cons b l ih => show strip1 _ :: (bcs l).map strip1 = _; rw [ih]; rfl
theorem closed_bcs (l : List UInt8) : (bcs l).all closed1 = true := by
  induction l with
  | nil => rfl
  | cons b l ih => show (closed1 _ && (bcs l).all closed1) = _; rw [ih]; rfl
theorem hp_bcs {H : VH} {i : Nat} {l : List UInt8} (h : H[i]? = some (.row 5 (bcs l))) : hpEs H 5 1 i 0 l.length = some (bs l) := by
  unfold hpEs
  rw [h]
  simp only [List.drop_zero, Nat.zero_add, Nat.mul_one, bcs_len, true_and, Nat.le_refl]
  rw [List.take_of_length_le (by simp), closed_bcs, if_pos rfl, strip_bcs, chunk_bcs]
/-- Bytes in an object that may be written. -/
def IsH (H : VH) (s : VS) (l : List UInt8) : Prop := (s = .nil ∧ l = []) ∨ ∃ i, s = .hp i 0 l.length ∧ H[i]? = some (.row 5 (bcs l))
/-- Bytes that can be read, as long as nothing is written. -/
structure Rd (H : VH) (s : VS) (l : List UInt8) : Prop where
  len : s.len = l.length
  isNil : s.isNil = true → l = []
  es : ∀ {H' : VH} {X : List Nat}, Kp H H' X → (∀ x ∈ X, H.length ≤ x) → slEs H' 5 1 s = some (bs l)
  str : ∀ {H' : VH} {X : List Nat}, Kp H H' X → (∀ x ∈ X, H.length ≤ x) → strV H' 5 s = some ⟨l.toArray⟩
theorem isH_str {H : VH} {s : VS} {l : List UInt8} (h : IsH H s l) : strV H 5 s = some ⟨l.toArray⟩ := by
  rcases h with ⟨rfl, rfl⟩ | ⟨j, rfl, hj⟩
  · rfl
  · unfold strV
    simp only
    by_cases h0 : l.length = 0
    · rw [if_pos h0, List.eq_nil_of_length_eq_zero h0]
    · rw [if_neg h0]
      unfold hpCells takeN
      rw [rowV_of hj, Option.bind_some, bcs_len, if_pos (by omega), Option.bind_some, List.drop_zero, List.take_of_length_le (by rw [bcs_len]; exact Nat.le_refl _)]
      have : (bcs l).map (fun v => [v]) = bs l := by unfold bcs bs; rw [List.map_map]; rfl
      rw [this, bytesOf_bs]
      rfl
theorem IsH.keep {H H' : VH} {X : List Nat} {s : VS} {l : List UInt8} (h : IsH H s l) (k : Kp H H' X) (hx : ∀ i, s = .hp i 0 l.length → i ∉ X) : IsH H' s l := by
  rcases h with ⟨rfl, rfl⟩ | ⟨i, rfl, hi⟩
  · exact .inl ⟨rfl, rfl⟩
  · exact .inr ⟨i, rfl, k.ob hi (hx i rfl)⟩
theorem IsH.lt {H : VH} {s : VS} {l : List UInt8} (h : IsH H s l) {i n : Nat} (hs : s = .hp i 0 n) : i < H.length := by
  rcases h with ⟨h1, _⟩ | ⟨j, h1, hj⟩
  · rw [h1] at hs; cases hs
  · rw [h1] at hs; injection hs with hs; subst hs; exact lt_of_ob hj
theorem Rd.ofB (H : VH) {s : VS} {l : List UInt8} (h : IsB s l) : Rd H s l :=
  ⟨by rw [h.len, bs_len], fun hn => (by have := (h.isNil hn).2; cases l with | nil => rfl | cons => cases this), fun _ _ => h.es _ _ _, fun _ _ => h.str _ _⟩
theorem Rd.ofH {H : VH} {s : VS} {l : List UInt8} (h : IsH H s l) : Rd H s l := by
  refine ⟨?_, ?_, ?_, ?_⟩
  · rcases h with ⟨rfl, rfl⟩ | ⟨i, rfl, _⟩ <;> rfl
  · rcases h with ⟨rfl, rfl⟩ | ⟨i, rfl, _⟩
    · intro _; rfl
    · intro h; cases h
  · intro H' X k hx
    have h' := h.keep k (fun i hi hm => by have := hx i hm; have := h.lt hi; omega)
    rcases h' with ⟨rfl, rfl⟩ | ⟨i, rfl, hi⟩
    · rfl
    · exact hp_bcs hi
  · intro H' X k hx
    exact isH_str (h.keep k (fun i hi hm => by have := hx i hm; have := h.lt hi; omega))
theorem Rd.keep {H H' : VH} {X : List Nat} {s : VS} {l : List UInt8} (h : Rd H s l) (k : Kp H H' X) (hx : ∀ x ∈ X, H.length ≤ x) : Rd H' s l :=
  ⟨h.len, h.isNil, fun {H2} {Y} k2 hy => h.es (X := X ++ Y) (k.trans k2 (fun x hx _ => List.mem_append_left _ hx) (fun y hy _ => List.mem_append_right _ hy)) (fun x hx2 => (List.mem_append.1 hx2).elim (hx x) (fun h2 => Nat.le_trans k.len (hy x h2))),
    fun {H2} {Y} k2 hy => h.str (X := X ++ Y) (k.trans k2 (fun x hx _ => List.mem_append_left _ hx) (fun y hy _ => List.mem_append_right _ hy)) (fun x hx2 => (List.mem_append.1 hx2).elim (hx x) (fun h2 => Nat.le_trans k.len (hy x h2)))⟩
theorem Rd.isB {H : VH} {s : VS} {l : List UInt8} (h : Rd H s l) (hc : closedC (.sl 5 s) = true) : IsB s l := by
  have h1 := h.es (Kp.refl H []) (fun x hx => by cases hx)
  cases s with
  | nil =>
    have h1 : some [] = some (bs l) := h1
    injection h1 with h1
    show IsE .nil (bs l)
    rw [← h1]; exact .nil
  | fz es c =>
    have h1 : some es = some (bs l) := h1
    injection h1 with h1
    show IsE (.fz es c) (bs l)
    rw [← h1]; exact .fz _ _
  | hp i off n => cases hc
theorem isH_len {H : VH} {s : VS} {l : List UInt8} (h : IsH H s l) : s.len = l.length := by
  rcases h with ⟨rfl, rfl⟩ | ⟨i, rfl, _⟩ <;> rfl
theorem isH_set {H : VH} {s : VS} {l : List UInt8} (h : IsH H s l) {i : Nat} (hi : i < l.length) (b : UInt8) : ∃ j, s = .hp j 0 l.length ∧ ixV 1 s (i : Int) = some (.ob j i) ∧ ∃ H', stV H (.ob j i) [.int .u8 (b.toNat : Int)] = some H' ∧ IsH H' s (l.set i b) ∧ Kp H H' [j] := by
  rcases h with ⟨rfl, rfl⟩ | ⟨j, rfl, hj⟩
  · simp at hi
  · refine ⟨j, rfl, ?_, _, st_row hj (by rw [bcs_len]; simp only [List.length_singleton]; omega) rfl, .inr ⟨j, by rw [List.length_set], ?_⟩, Kp.set _ _ _⟩
    · simp only [ixV]
      rw [if_pos (by omega), Int.toNat_natCast, Nat.zero_add, Nat.mul_one]
    · rw [List.getElem?_set_self (lt_of_ob hj)]
      simp only [putAllV, bcs, List.map_set]
theorem isH_rd {H : VH} {s : VS} {l : List UInt8} (h : IsH H s l) {i : Nat} {b : UInt8} (hb : l[i]? = some b) {β : Type} (f : Int → Option β) : ((ixV 1 s (i : Int)).bind fun p => (ldV (.flat (.int .u8)) H p).bind f) = f (b.toNat : Int) := by
  rcases h with ⟨rfl, rfl⟩ | ⟨j, rfl, hj⟩
  · simp at hb
  · have hlt := (List.getElem?_eq_some_iff.1 hb).1
    simp only [ixV]
    rw [if_pos (by omega), Option.bind_some, ld_row hj, Int.toNat_natCast, Nat.zero_add, Nat.mul_one]
    have : (bcs l)[i]? = some (.int .u8 (b.toNat : Int)) := by unfold bcs; rw [List.getElem?_map, hb]; rfl
    rw [this, Option.bind_some]
    show (V.fdec (.int .u8) (.int .u8 (b.toNat : Int))).bind f = _
    rw [fd_int]
    rfl
theorem rep_bytes (k : Nat) : repV k [.int .u8 0] = bcs (List.replicate k 0) := by
  induction k with
  | zero => rfl
  | succ k ih => rw [repV, ih, List.replicate_succ', bcs, bcs, List.map_append]; rfl
theorem stays_ints {H : VH} {i : Nat} {e : TypeId} {cs : List V} (hr : H[i]? = some (.row e cs)) : ∀ (n off : Nat), off + n ≤ cs.length → (∀ v ∈ (cs.drop off).take n, ∃ m, v = .int .u8 m) → V.stays H (heldFrom i off (List.replicate n (.int .u8)) ((cs.drop off).take n)) = true
  | 0, off, _, _ => rfl
  | n + 1, off, hl, hv => by
    have hlt : off < cs.length := by omega
    rw [List.drop_eq_getElem_cons hlt, List.take_succ_cons] at hv ⊢
    obtain ⟨m, hm⟩ := hv _ (List.mem_cons_self ..)
    have ih := stays_ints hr n (off + 1) (by omega) (fun v h => hv v (List.mem_cons_of_mem _ h))
    rw [List.replicate_succ]
    show V.stays H ((.ob i off, .int .u8, cs[off]) :: heldFrom i (off + 1) (List.replicate n (.int .u8)) ((cs.drop (off + 1)).take n)) = true
    unfold V.stays
    rw [ih, ld_row hr, List.getElem?_eq_getElem hlt, Option.bind_some, hm, fd_int]
    simp only [V.fenc, same_self, Bool.and_true]
theorem stays_isH {H H' : VH} {s : VS} {l : List UInt8} (h : IsH H s l) (h' : IsH H' s l) : V.stays H' (heldStr H s) = true := by
  rcases h with ⟨rfl, rfl⟩ | ⟨j, rfl, hj⟩
  · rfl
  · rcases h' with ⟨h1, _⟩ | ⟨j', h1, hj'⟩
    · cases h1
    · injection h1 with h1
      subst h1
      have hc : hpCells H j 0 l.length = some (((bcs l).drop 0).take l.length) := by
        unfold hpCells takeN
        rw [rowV_of hj, Option.bind_some, bcs_len, if_pos (by omega)]
      rw [heldStr_hp hc]
      refine stays_ints hj' l.length 0 (by rw [bcs_len]; omega) (fun v hv => ?_)
      have hv := List.mem_of_mem_take hv
      rw [List.drop_zero] at hv
      obtain ⟨b, _, rfl⟩ := List.mem_map.1 hv
      exact ⟨_, rfl⟩
theorem stays_cons (H : VH) (p : VP) (τ : FT) (v : V) (r : Held) : V.stays H ((p, τ, v) :: r) = ((match ldV (.flat τ) H p with | some x => same v (fenc τ x) | none => false) && V.stays H r) := by
  rw [V.stays]; rfl
theorem stays_app {H : VH} : ∀ (a b : Held), V.stays H (a ++ b) = (V.stays H a && V.stays H b)
  | [], b => rfl
  | (p, τ, v) :: a, b => by
    rw [List.cons_append, stays_cons, stays_cons, stays_app a b, Bool.and_assoc]
def hj (a b : Held) : Held := a ++ b
theorem stays_hj (H : VH) (a b : Held) : V.stays H (hj a b) = (V.stays H a && V.stays H b) := stays_app a b
theorem stays_nil (H : VH) : V.stays H [] = true := rfl
theorem held_fz {es : List (List V)} {c : VC} (H : VH) : heldStr H (.fz es c) = [] := rfl
theorem heldStr_B {s : VS} {es : List (List V)} (h : IsE s es) (H : VH) : heldStr H s = [] := by cases h <;> rfl
/-- May be appended to, also what was cut at its head. -/
inductive Aq (H : VH) (e : TypeId) : VS → List (List V) → Prop
  | nil : Aq H e .nil []
  | lit (es : List (List V)) : Aq H e (.fz es (.ex es.length)) es
  | tok (es : List (List V)) (t g : Nat) : H[t]? = some (.tok e g) → Aq H e (.fz es (.tok t g)) es
theorem Ap.aq {H : VH} {e : TypeId} {s : VS} {es : List (List V)} (h : Ap H e s es) : Aq H e s es := by
  cases h with
  | nil => exact .nil
  | lit es => exact .lit es
  | tok es t h => exact .tok es t _ h
theorem Aq.isE {H : VH} {e : TypeId} {s : VS} {es : List (List V)} (h : Aq H e s es) : IsE s es := by cases h <;> constructor
theorem Aq.keep {H H' : VH} {X : List Nat} {e : TypeId} {s : VS} {es : List (List V)} (h : Aq H e s es) (k : Kp H H' X) (hx : ∀ t ∈ toks s, t ∉ X) : Aq H' e s es := by
  cases h with
  | nil => exact .nil
  | lit es => exact .lit es
  | tok es t g ht => exact .tok es t g (k.ob ht (hx t (by simp [toks])))
theorem Aq.tok_at {H : VH} {e : TypeId} {s : VS} {es : List (List V)} (h : Aq H e s es) {t : Nat} (ht : t ∈ toks s) : ∃ g, H[t]? = some (.tok e g) := by
  cases h with
  | nil => cases ht
  | lit => cases ht
  | tok t' g' h1 => simp [toks] at ht; subst ht; exact ⟨_, by assumption⟩
/-- Appending what can be read. -/
theorem Aq.app {H : VH} {sz by_ : Nat} {e : TypeId} {s x : VS} {es news : List (List V)} (h : Aq H e s es) (hx : x.len = news.length) (hxs : slEs H e sz x = some news) (hb : (((es.length + news.length) * by_ : Nat) : Int) ≤ bound) (h63 : ((es.length + news.length : Nat) : Int) ≤ bound) :
    ∃ s' H', appD true H sz by_ e s x = some (s', H') ∧ Aq H' e s' (es ++ news) ∧ Kp H H' (toks s) ∧ (∀ t ∈ toks s', t ∈ toks s ∨ H.length ≤ t) := by
  have hl : appD true H sz by_ e s x = appW H e sz s news := by
    unfold appD
    rw [holdV_eq, h.isE.len, hx, if_pos ⟨hb, h63⟩, hxs, Option.bind_some]
    rfl
  rw [hl]
  unfold appW
  by_cases hm : news.length = 0
  · have : news = [] := List.eq_nil_of_length_eq_zero hm
    subst this
    rw [if_pos hm]
    exact ⟨s, H, rfl, by simpa using h, Kp.refl _ _, fun t ht => .inl ht⟩
  · rw [if_neg hm]
    cases h with
    | nil =>
      refine ⟨_, _, rfl, .tok _ H.length _ (by simp), (Kp.app H _).weak (fun x hx => by cases hx), fun t ht => .inr ?_⟩
      simp [toks] at ht; omega
    | lit es =>
      simp only
      rw [if_pos (by omega)]
      refine ⟨_, _, rfl, .tok _ H.length _ (by simp), (Kp.app H _).weak (fun x hx => by cases hx), fun t ht => .inr ?_⟩
      simp [toks] at ht; omega
    | tok es t g ht =>
      simp only [ht, and_self, if_true]
      have htl := lt_of_ob ht
      exact ⟨_, _, rfl, .tok _ t _ (by rw [List.getElem?_set_self htl]), Kp.set _ _ _, fun t ht => .inl ht⟩
theorem Aq.appE {H : VH} {sz by_ : Nat} {e : TypeId} {s x : VS} {es news : List (List V)} (h : Aq H e s es) (hx : IsE x news) (hb : (((es.length + news.length) * by_ : Nat) : Int) ≤ bound) (h63 : ((es.length + news.length : Nat) : Int) ≤ bound) :
    ∃ s' H', appD true H sz by_ e s x = some (s', H') ∧ Aq H' e s' (es ++ news) ∧ Kp H H' (toks s) ∧ (∀ t ∈ toks s', t ∈ toks s ∨ H.length ≤ t) := h.app hx.len (hx.es H e sz) hb h63
/-- What is left of it behind the first. -/
theorem Aq.tail {H : VH} {e : TypeId} {sz : Nat} {s : VS} {y : List V} {es : List (List V)} (h : Aq H e s (y :: es)) : ∃ s', cutD H e sz s (some 1) none none = some s' ∧ Aq H e s' es ∧ (∀ t ∈ toks s', t ∈ toks s) := by
  have cut : ∀ c, cutD H e sz (.fz (y :: es) c) (some 1) none none = some (.fz es (capCut c 1 (y :: es).length (y :: es).length)) := by
    intro c
    unfold cutD
    rw [holdV_eq]
    simp only [cutV, bd, Option.bind_some]
    rw [show inB 1 (y :: es).length = some 1 by unfold inB; rw [if_pos ⟨by omega, by simp only [List.length_cons]; omega⟩]; rfl]
    simp only [Option.bind_some, List.take_length, List.drop_succ_cons, List.drop_zero]
  cases h with
  | lit =>
    refine ⟨_, cut _, ?_, fun t ht => by cases ht⟩
    simp only [capCut, List.length_cons, Nat.add_sub_cancel]
    exact .lit es
  | tok _ t g ht =>
    refine ⟨_, cut _, ?_, fun t ht => ?_⟩
    · simp only [capCut, if_true]
      exact .tok es t g ht
    · simpa [capCut, toks] using ht
end Go.Proofs.Ytfneikjincmhpaa.Sh.V
