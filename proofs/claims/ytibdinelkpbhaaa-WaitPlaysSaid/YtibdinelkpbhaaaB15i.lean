import Derived.Test.YtibdinelkpbhaaaProg
import Derived.Shelf.Spec.SlicesInsert
import Derived.Lib.AppendZerosOnto
import Derived.Laws.NewBlocks
set_option maxRecDepth 100000
set_option linter.unusedVariables false
set_option linter.unusedSimpArgs false
namespace Go.Proofs.Ytibdinelkpbhaaa
open Go.RowKit Go.Lib
/-! ### slices.Insert of one waiter: its roads -/
theorem run_copy_k (w : World) (dT sT ty elem : TypeId) (sz : Nat) (b o dLen dCap : Nat) (a : Addr) (sLen sCap : Nat) (cs : List Value)
    (hu : Try.prog.underlying dT = some (.slice elem)) (hs : (Try.prog.info? elem).map (·.size) = some sz) (hn : cs.length = Nat.min sLen dLen * sz)
    (hsrc : ∀ j v, cs[j]? = some v → w.cell? (a.add j) = some v) (hc : ∀ j, j < cs.length → (w.cell? ⟨b, o + j, none⟩).isSome = true) (hf : ∀ j, j < cs.length → w.frozen? ⟨b, o + j, none⟩ = false) (h1 : ∀ v ∈ cs, v.oneCell' = true) :
    (Builtin.copy_ #[dT, sT] ty #[.slice (some ⟨b, o, none⟩) dLen dCap, .slice (some a) sLen sCap]).run Try.prog w = .ok (goInt (Nat.min sLen dLen)) (w.setCells b o cs) := by
  have hl := run_loadCells_list (P := Try.prog) w a cs hsrc
  have hst := run_storeCells_cells (P := Try.prog) b o cs 0 w (by simpa using hc) (by simpa using hf) h1
  cases hq : Try.prog.info? elem with
  | none => simp [hq] at hs
  | some i =>
    have hi : i.size = sz := by simpa [hq] using hs
    rw [hn] at hl
    simp [Builtin.copy_, run_underlying hu, Builtin.lenOf, Builtin.firstCells, sizeOf, typeInfo, hq, hi, hl, hst]
set_option maxHeartbeats 4000000 in
theorem ins_end (base : Option Addr) (n c : Nat) (av : Addr) (vc : Nat) (w w' : World) (u' : Value) (hnc : n ≤ c) (hn6 : n < 1000000) (hnil : base = none → c = 0)
    (hrun : (Builtin.append_ #[62, 62] 62 #[.slice base n c, .slice (some av) 1 vc]).run Try.prog w = .ok u' w') :
    Calls Try.prog 46 #[.slice base n c, .int .i64 n, .slice (some av) 1 vc] w fun e W => e = .returned u' ∧ W = w' := by
  have hz1 : ¬ ((1 : Int) = 0) := by omega
  go_enter Try.func46, Try.ntmps46
  go_wp2_with (at_builtin; refine Lib.wpList_append_run _ rfl _ _ _ _ rfl _ _ rfl rfl _ _ hrun ?_)
  all_goals (go_ret; exact ⟨rfl, rfl⟩)
set_option maxHeartbeats 4000000 in
theorem ins_shift (b off n c i vb voff vc : Nat) (cs vs : List Value) (w : World) (hi : i < n) (hroom : n + 1 ≤ c) (hn6 : n < 1000000) (hvb : vb ≠ b)
    (hcl : cs.length = n * 3) (hvl : vs.length = 3)
    (hcs : ∀ j v, cs[j]? = some v → w.cell? ⟨b, off + j, none⟩ = some v) (hsp : ∀ j, j < (n + 1) * 3 → (w.cell? ⟨b, off + j, none⟩).isSome = true) (hfz : ∀ j, j < (n + 1) * 3 → w.frozen? ⟨b, off + j, none⟩ = false)
    (hvs : ∀ j v, vs[j]? = some v → w.cell? ⟨vb, voff + j, none⟩ = some v) (h1c : ∀ v ∈ cs, v.oneCell' = true) (h1v : ∀ v ∈ vs, v.oneCell' = true)
    (tA tB : TypeId) (kA kB : Nat) (hsa : w.shape? vb = some (tA, kA)) (hsb : w.shape? b = some (tB, kB)) (hkB : kB ≠ 0) (hfa : w.frozen? ⟨vb, voff, none⟩ = false) (hfe : w.frozen? ⟨vb, kA, none⟩ = false) :
    Calls Try.prog 46 #[.slice (some ⟨b, off, none⟩) n c, .int .i64 i, .slice (some ⟨vb, voff, none⟩) 1 vc] w fun e w' =>
      e = .returned (.slice (some ⟨b, off, none⟩) (n + 1) c) ∧ w' = (w.drew.setCells b (off + (i + 1) * 3) (cs.drop (i * 3))).setCells b (off + i * 3) vs := by
  have hz1 : ¬ ((1 : Int) = 0) := by omega
  have hz2 : ¬ ((i : Int) = (n : Int)) := by omega
  have hsz : (Try.prog.info? 66).map (·.size) = some 3 := by kernel_rfl
  have mixed : Try.prog.follows .mixedOrders = true := by kernel_rfl
  have hov : ∀ lb cb, (callFunc 57 #[.slice (some ⟨vb, voff, none⟩) 1 vc, .slice (some ⟨b, off + (i + 1) * 3, none⟩) lb cb]).run Try.prog w = .ok (.value (.bool false)) w := fun lb cb => by
    rw [run_callFunc_extern Try.func57 (by kernel_rfl) (by kernel_rfl) (by kernel_rfl) (e := Extern.SlicesOverlaps.overlaps #[62, 62] #[4]) (by kernel_rfl),
      Lib.run_overlaps_apart w 62 4 66 Try.underlying62 3 Try.sizeOf66 ⟨vb, voff, none⟩ ⟨b, off + (i + 1) * 3, none⟩ 1 vc lb cb hvb tA tB kA kB hsa hsb hkB hfa hfe]
    rfl
  have hdl : (cs.drop (i * 3)).length = (n - i) * 3 := by rw [List.length_drop, hcl]; omega
  have hmin1 : Nat.min (n + 1 - i) (n - i) = n - i := by simp only [Nat.min_def]; split <;> omega
  have hmin2 : Nat.min 1 (n + 1 - i) = 1 := by simp only [Nat.min_def]; split <;> omega
  have hw1 : IntKind.i64.wrap ((i : Int) + 1) = (i : Int) + 1 := by rw [IntKind.wrap_i64]; omega
  have hw2 : IntKind.i64.wrap ((n : Int) + 1) = (n : Int) + 1 := by rw [IntKind.wrap_i64]; omega
  have hb1 : (0 : Int) ≤ (i : Int) + 1 := by omega
  have hin : i ≤ n := by omega
  have htn : ((i : Int) + 1).toNat = i + 1 := by omega
  have htn2 : ((n : Int) + 1).toNat = n + 1 := by omega
  have hb2 : ¬ (c = i + 1) := by omega
  have hb3 : (i : Int) ≤ (n : Int) + 1 := by omega
  have hb4 : ¬ (c = i) := by omega
  have hb5 : (i : Int) + 1 ≤ (n : Int) + 1 := by omega
  have hb6 : ¬ ((c : Int) < (n : Int) + 1) := by omega
  have hb7 : (n : Int) + 1 ≤ (c : Int) := by omega
  have hcp1 : ∀ ty dc sc, (Builtin.copy_ #[62, 62] ty #[.slice (some ⟨b, off + (i + 1) * 3, none⟩) (n - i) dc, .slice (some ⟨b, off + i * 3, none⟩) (n + 1 - i) sc]).run Try.prog w.drew = .ok (goInt (Nat.min (n + 1 - i) (n - i))) (w.drew.setCells b (off + (i + 1) * 3) (cs.drop (i * 3))) := fun ty dc sc =>
    run_copy_k w.drew _ _ ty 66 3 b (off + (i + 1) * 3) (n - i) dc ⟨b, off + i * 3, none⟩ (n + 1 - i) sc (cs.drop (i * 3)) Try.underlying62 hsz (by rw [hdl, hmin1])
      (fun j v hj => by rw [Addr.add_lit, Nat.add_assoc]; exact hcs (i * 3 + j) v (by rwa [List.getElem?_drop] at hj))
      (fun j hj => by rw [Nat.add_assoc]; exact hsp _ (by omega)) (fun j hj => by rw [Nat.add_assoc]; exact hfz _ (by omega)) (fun v hv => h1c v (List.mem_of_mem_drop hv))
  obtain ⟨W1, hW1⟩ : ∃ W1, W1 = w.drew.setCells b (off + (i + 1) * 3) (cs.drop (i * 3)) := ⟨_, rfl⟩
  have hsp1 : ∀ k, k < (n + 1) * 3 → (W1.cell? ⟨b, off + k, none⟩).isSome = true := fun k hk => by
    rw [hW1]
    exact isSome_setCells b _ _ _ (fun j hj => by rw [Nat.add_assoc]; exact hsp _ (by omega)) _ (hsp k hk)
  have hcp2 : ∀ (W : World), (∀ x, W.cell? x = W1.cell? x) → (∀ x, W.frozen? x = W1.frozen? x) → ∀ ty dc, (Builtin.copy_ #[62, 62] ty #[.slice (some ⟨b, off + i * 3, none⟩) (n + 1 - i) dc, .slice (some ⟨vb, voff, none⟩) 1 vc]).run Try.prog W = .ok (goInt (Nat.min 1 (n + 1 - i))) (W.setCells b (off + i * 3) vs) := fun W hWc hWf ty dc =>
    run_copy_k W _ _ ty 66 3 b (off + i * 3) (n + 1 - i) dc ⟨vb, voff, none⟩ 1 vc vs Try.underlying62 hsz (by rw [hvl, hmin2])
      (fun j v hj => by
        rw [Addr.add_lit, hWc, hW1, World.cell?_setCells_out b _ _ _ _ (fun h _ => absurd h hvb)]
        exact hvs j v hj)
      (fun j hj => by rw [hWc, Nat.add_assoc]; exact hsp1 _ (by omega)) (fun j hj => by rw [hWf, hW1, World.frozen?_setCells, Nat.add_assoc]; exact hfz _ (by omega)) h1v
  rw [← hW1] at hcp1
  go_enter Try.func46, Try.ntmps46
  go_wp2_with (simp only [hov])
  go_region_law_o (refine step_copy_runI rfl _ _ 62 62 rfl _ _ (by simp [Act.eval, Act.put]) (by simp [Act.eval, Act.put]) (hcp1 _ _ _) ?_)
  go_wp2_with (at_builtin; refine wpList_copy_runI _ rfl _ _ 62 62 rfl _ _ rfl rfl (hcp2 _ (fun _ => rfl) (fun _ => rfl) _ _) ?_)
  go_ret
  first | exact ⟨rfl, rfl⟩ | exact ⟨rfl, by rw [hW1]⟩
theorem size_zc (z : Array Value) (n : Nat) : (Builtin.zeroCells z n).size = n * z.size := by
  simp [Builtin.zeroCells, Nat.mul_comm]
set_option maxHeartbeats 4000000 in
theorem ins_grow (b off n c i vb voff vc : Nat) (cs vs : List Value) (w : World) (hi : i < n) (hnc : n ≤ c) (hroom : c < n + 1) (hbig : (n + 1) * 16 ≤ 140737488355328)
    (hcl : cs.length = n * 3) (hvl : vs.length = 3)
    (hcs : ∀ j v, cs[j]? = some v → w.cell? ⟨b, off + j, none⟩ = some v)
    (hvs : ∀ j v, vs[j]? = some v → w.cell? ⟨vb, voff + j, none⟩ = some v) (h1c : ∀ v ∈ cs, v.oneCell' = true) (h1v : ∀ v ∈ vs, v.oneCell' = true) (hbw : b < w.heap.size) (hvw : vb < w.heap.size) :
    ∃ (G : Nat) (ROW : Array Value), n + 1 ≤ G ∧ ROW.size = G * 3 ∧ Calls Try.prog 46 #[.slice (some ⟨b, off, none⟩) n c, .int .i64 i, .slice (some ⟨vb, voff, none⟩) 1 vc] w fun e w' =>
      e = .returned (.slice (some ⟨w.heap.size, 0, none⟩) (n + 1) G) ∧
      (∀ j, j < i * 3 → ROW[j]? = cs[j]?) ∧ w' = (((w.alloc (.cells ROW 66)).drew.setCells w.heap.size (i * 3) vs).drew).setCells w.heap.size ((i + 1) * 3) (cs.drop (i * 3)) := by
  have mixed : Try.prog.follows .mixedOrders = true := by kernel_rfl
  have hz1 : ¬ ((1 : Int) = 0) := by omega
  have hz2 : ¬ ((i : Int) = (n : Int)) := by omega
  have hz3 : (c : Int) < (n : Int) + 1 := by omega
  have hsz : (Try.prog.info? 66).map (·.size) = some 3 := by kernel_rfl
  have hinfo : Try.prog.info? 66 = some Try.t66 := by kernel_rfl
  have hkk : (n : Int) + 1 - (i : Int) = ((n + 1 - i : Nat) : Int) := by omega
  have hik : i + (n + 1 - i) = n + 1 := by omega
  have hold : (Builtin.firstCells Try.t66.size i (.slice (some ⟨b, off, none⟩) i c)).run Try.prog w.drew = .ok (cs.take (i * 3)).toArray w.drew := by
    exact run_firstCells_some w.drew 3 i ⟨b, off, none⟩ i c (cs.take (i * 3)) (by rw [List.length_take]; omega) (fun j v hj => by
      rw [Addr.add_lit]
      rw [List.getElem?_take] at hj
      split at hj
      · exact hcs j v hj
      · cases hj)
  have hby : Try.t66.bytes = 16 := rfl
  obtain ⟨Z, hZ⟩ : ∃ Z : Value, Z = Value.agg #[Value.int IntKind.i64 0, Value.bool false, Value.bool false] := ⟨_, rfl⟩
  have hrz : ∀ ty, (Builtin.append_ #[62, 3] ty #[.slice (some ⟨b, off, none⟩) i c, .int .i64 ((n : Int) + 1 - (i : Int))]).run Try.prog w =
      .ok (.slice (some ⟨w.heap.size, 0, none⟩) (n + 1) (grownCap w (n + 1) c 66)) (w.drew.alloc (.cells ((cs.take (i * 3)).toArray ++ Builtin.zeroCells Z.cells (n + 1 - i) ++ Builtin.zeroCells Z.cells (grownCap w (n + 1) c 66 - (n + 1))) 66)) := fun ty => by
    have h := Lib.run_append_grow_zeros w 62 3 ty 66 Try.t66 Z .i64 .i64 Try.underlying62 Try.underlying3 hinfo (by rw [hZ]; rfl) (some ⟨b, off, none⟩) i c (cs.take (i * 3)) hold (n + 1 - i) (by omega) (by decide) (by omega) (by omega) (by rw [hby]; omega) (by rw [hby, hik]; exact growslice_fits hroom hbig)
    rw [hik] at h
    rw [hkk]
    exact h
  obtain ⟨G, hG⟩ : ∃ G, G = grownCap w (n + 1) c 66 := ⟨_, rfl⟩
  obtain ⟨ROW, hROW⟩ : ∃ ROW : Array Value, ROW = (cs.take (i * 3)).toArray ++ Builtin.zeroCells Z.cells (n + 1 - i) ++ Builtin.zeroCells Z.cells (G - (n + 1)) := ⟨_, rfl⟩
  rw [← hG] at hrz
  rw [← hROW] at hrz
  have hGn : n + 1 ≤ G := by rw [hG]; exact grownCap_ge w _ _ _
  have hG63 : G ≤ 9223372036854775807 := by
    have := grownCap_le_maxLen w (n + 1) c 66 (by unfold maxLen; omega)
    rw [← hG] at this
    unfold maxLen at this
    omega
  have hZs : Z.cells.size = 3 := by rw [hZ]; rfl
  have htl : (cs.take (i * 3)).length = i * 3 := by rw [List.length_take]; omega
  have hRs : ROW.size = G * 3 := by
    rw [hROW]
    simp only [Array.size_append, List.size_toArray, size_zc, hZs, htl]
    omega
  have hRg : ∀ j, j < i * 3 → ROW[j]? = cs[j]? := fun j hj => by
    rw [hROW, Array.getElem?_append_left (by simp only [Array.size_append, List.size_toArray, size_zc, hZs, htl]; omega), Array.getElem?_append_left (by simp only [List.size_toArray, htl]; omega)]
    simp [List.getElem?_take, hj]
  have hRl : (n + 1) * 3 ≤ ROW.size := by rw [hRs]; omega
  refine ⟨G, ROW, hGn, hRs, ?_⟩
  obtain ⟨W1, hW1⟩ : ∃ W1, W1 = w.drew.alloc (.cells ROW 66) := ⟨_, rfl⟩
  rw [← hW1] at hrz
  have hN : ∀ j, j < (n + 1) * 3 → (W1.cell? ⟨w.heap.size, j, none⟩).isSome = true := fun j hj => by
    rw [hW1, World.cell?_alloc_at (w := w.drew) ROW _ w.heap.size j rfl, Array.getElem?_eq_getElem (by omega)]; rfl
  have hNf : ∀ j, W1.frozen? ⟨w.heap.size, j, none⟩ = false := fun j => by rw [hW1]; exact World.frozen?_alloc_at (w := w.drew) ROW _ w.heap.size j rfl
  have hOb : ∀ j v, w.cell? ⟨b, j, none⟩ = some v → W1.cell? ⟨b, j, none⟩ = some v := fun j v h => by rw [hW1, World.cell?_alloc_past (w := w.drew) _ b j hbw]; exact h
  have hOv : ∀ j v, w.cell? ⟨vb, j, none⟩ = some v → W1.cell? ⟨vb, j, none⟩ = some v := fun j v h => by rw [hW1, World.cell?_alloc_past (w := w.drew) _ vb j hvw]; exact h
  have hmin2 : Nat.min 1 (n + 1 - i) = 1 := by simp only [Nat.min_def]; split <;> omega
  have hmin1 : Nat.min (n - i) (n - i) = n - i := by simp only [Nat.min_def]; split <;> omega
  have hdl : (cs.drop (i * 3)).length = (n - i) * 3 := by rw [List.length_drop, hcl]; omega
  have hcpA : ∀ (W : World), (∀ x, W.cell? x = W1.cell? x) → (∀ x, W.frozen? x = W1.frozen? x) → ∀ ty dc, (Builtin.copy_ #[62, 62] ty #[.slice (some ⟨w.heap.size, i * 3, none⟩) (n + 1 - i) dc, .slice (some ⟨vb, voff, none⟩) 1 vc]).run Try.prog W = .ok (goInt (Nat.min 1 (n + 1 - i))) (W.setCells w.heap.size (i * 3) vs) := fun W hWc hWf ty dc =>
    run_copy_k W _ _ ty 66 3 w.heap.size (i * 3) (n + 1 - i) dc ⟨vb, voff, none⟩ 1 vc vs Try.underlying62 hsz (by rw [hvl, hmin2])
      (fun j v hj => by rw [Addr.add_lit, hWc]; exact hOv _ v (hvs j v hj))
      (fun j hj => by rw [hWc]; exact hN _ (by omega)) (fun j hj => by rw [hWf]; exact hNf _) h1v
  have hGi : ¬ (G = i) := by omega
  have hGim : ¬ (G = i + 1) := by omega
  have hci : ¬ (c = i) := by omega
  have hbN : b ≠ w.heap.size := by omega
  have hcpB : ∀ (W : World), (∀ x, W.cell? x = (W1.setCells w.heap.size (i * 3) vs).cell? x) → (∀ x, W.frozen? x = (W1.setCells w.heap.size (i * 3) vs).frozen? x) → ∀ ty dc sc, (Builtin.copy_ #[62, 62] ty #[.slice (some ⟨w.heap.size, (i + 1) * 3, none⟩) (n - i) dc, .slice (some ⟨b, off + i * 3, none⟩) (n - i) sc]).run Try.prog W = .ok (goInt (Nat.min (n - i) (n - i))) (W.setCells w.heap.size ((i + 1) * 3) (cs.drop (i * 3))) := fun W hWc hWf ty dc sc =>
    run_copy_k W _ _ ty 66 3 w.heap.size ((i + 1) * 3) (n - i) dc ⟨b, off + i * 3, none⟩ (n - i) sc (cs.drop (i * 3)) Try.underlying62 hsz (by rw [hdl, hmin1])
      (fun j v hj => by
        rw [Addr.add_lit, hWc, World.cell?_setCells_out _ _ _ _ _ (fun h _ => absurd h hbN), Nat.add_assoc]
        exact hOb _ v (hcs (i * 3 + j) v (by rwa [List.getElem?_drop] at hj)))
      (fun j hj => by rw [hWc]; exact isSome_setCells _ _ _ _ (fun t ht => hN _ (by omega)) _ (hN _ (by omega)))
      (fun j hj => by rw [hWf, World.frozen?_setCells]; exact hNf _) (fun v hv => h1c v (List.mem_of_mem_drop hv))
  subst hW1
  have hE1 : ∀ x, ((w.alloc (.cells ROW 66)).drew).cell? x = (w.drew.alloc (.cells ROW 66)).cell? x := fun x => rfl
  have hE2 : ∀ x, ((w.alloc (.cells ROW 66)).drew).frozen? x = (w.drew.alloc (.cells ROW 66)).frozen? x := fun x => rfl
  have hF1 : ∀ x, (((w.alloc (.cells ROW 66)).drew.setCells w.heap.size (i * 3) vs).drew).cell? x = ((w.drew.alloc (.cells ROW 66)).setCells w.heap.size (i * 3) vs).cell? x := fun x => rfl
  have hF2 : ∀ x, (((w.alloc (.cells ROW 66)).drew.setCells w.heap.size (i * 3) vs).drew).frozen? x = ((w.drew.alloc (.cells ROW 66)).setCells w.heap.size (i * 3) vs).frozen? x := fun x => rfl
  have hw1 : IntKind.i64.wrap ((i : Int) + 1) = (i : Int) + 1 := by rw [IntKind.wrap_i64]; omega
  have hw2 : IntKind.i64.wrap ((n : Int) + 1) = (n : Int) + 1 := by rw [IntKind.wrap_i64]; omega
  have hw3 : IntKind.i64.wrap ((n : Int) + 1 - (i : Int)) = (n : Int) + 1 - (i : Int) := by rw [IntKind.wrap_i64]; omega
  have hb1 : (0 : Int) ≤ (i : Int) + 1 := by omega
  have hin : i ≤ n := by omega
  have htn : ((i : Int) + 1).toNat = i + 1 := by omega
  have hb3 : (i : Int) ≤ (n : Int) := by omega
  have hb5 : (i : Int) + 1 ≤ (n : Int) + 1 := by omega
  clear hkk hik hold hROW hG hRl hRs
  go_enter Try.func46, Try.ntmps46
  go_wp2_with (first
    | (at_builtin; refine Lib.wpList_append_run _ rfl _ _ _ _ rfl _ _ rfl rfl _ _ (hrz _) ?_)
    | (at_builtin; refine wpList_copy_runI _ rfl _ _ 62 62 rfl _ _ rfl rfl (hcpA _ hE1 hE2 _ _) ?_)
    | (at_builtin; refine wpList_copy_runI _ rfl _ _ 62 62 rfl _ _ rfl rfl (hcpB _ (fun _ => rfl) (fun _ => rfl) _ _ _) ?_))
  go_region_law_o (refine step_copy_runI rfl _ _ 62 62 rfl (.slice (some ⟨w.heap.size, (i + 1) * 3, none⟩) (n - i) (G - (i + 1))) (.slice (some ⟨b, off + i * 3, none⟩) (n - i) (c - i)) (by simp [Act.eval, Act.put]) (by simp [Act.eval, Act.put]) (hcpB _ hF1 hF2 3 (G - (i + 1)) (c - i)) ?_)
  go_wp2
  go_ret
  exact ⟨rfl, hRg, rfl⟩
end Go.Proofs.Ytibdinelkpbhaaa
