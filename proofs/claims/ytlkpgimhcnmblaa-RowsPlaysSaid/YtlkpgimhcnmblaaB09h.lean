import Derived.Test.YtlkpgimhcnmblaaB09g
set_option maxRecDepth 100000
set_option linter.unusedVariables false
set_option linter.unusedSimpArgs false
namespace Go.Proofs.Ytlkpgimhcnmblaa
open Go.Proofs.Ytlkpgimhcnmblaa.Sh Go.Proofs.Ytlkpgimhcnmblaa.Sh.V Go.RowKit
/-! ### RowsPlays: the loop's parts -/
noncomputable def brSet (n m : Nat) (s0 : VS) (s1 : Bool) (s5 : VP) (s6 : Nat) (s7 : Int) (key : ByteArray) (h : VH) : VRes :=
  ((ixV 3 s0 s7).bind fun p8 =>
                      ((atO p8 2).bind fun p9 =>
                        ((ldV (.flat (.int .i64)) h p9).bind fun x10 =>
                        ((callD (vF P tab n) P false (.tup []) 20 [.ptr s5, .str key, .int .i64 x10] h).bind fun r11 =>
                        ((ldV (.agg [.slice 83, .slice 47]) r11.2 (.ob s6 0)).bind fun x12 =>
                        ((ixV 3 s0 s7).bind fun p13 =>
                        ((atO p13 2).bind fun p14 =>
                        ((ldV (.flat (.int .i64)) r11.2 p14).bind fun x15 =>
                        ((callD (vF P tab n) P false (.one (.agg [.slice 83, .slice 47])) 27 [.agg [.sl 83 x12.1, .sl 47 x12.2.1], .str key, .int .i64 x15] r11.2).bind fun r16 =>
                        ((stV r16.2 (.ob s6 0) [.sl 83 r16.1.1, .sl 47 r16.1.2.1]).bind fun h17 =>
                        ((callD (vF P tab n) P false (.tup [(.flat (.int .i64)), (.flat .bool)]) 31 [.ptr s5, .str key] h17).bind fun r18 =>
                        ((ldV (.agg [.slice 83, .slice 47]) r18.2 (.ob s6 0)).bind fun x19 =>
                        ((callD (vF P tab n) P false (.tup [(.flat (.int .i64)), (.flat .bool)]) 32 [.agg [.sl 83 x19.1, .sl 47 x19.2.1], .str key] r18.2).bind fun r20 =>
                        (cond ((r18.1.1 : Int) != r20.1.1)
                        (some (.bool false, r20.2))
                        (cond (!(r18.1.2.1 == r20.1.2.1))
                        (some (.bool false, r20.2))
                        ((ldV (.flat (.slice 83)) r20.2 (.ob s6 0)).bind fun x21 =>
                        ((callD (vF P tab n) P false (.one (.flat (.int .i64))) 26 [.ptr s5] r20.2).bind fun r22 =>
                        (cond (V.stays r22.2 [(.ob s6 0, .slice 83, .sl 83 x21)])
                        (cond ((r22.1 : Int) != ((VS.len x21 : Nat) : Int))
                        (some (.bool false, r22.2))
                        ((ldV (.flat (.slice 47)) r22.2 (.ob s6 1)).bind fun x23 =>
                        ((callD (vF P tab n) P false (.one (.flat (.int .i64))) 23 [.ptr s5] r22.2).bind fun r24 =>
                        (cond (V.stays r24.2 [(.ob s6 1, .slice 47, .sl 47 x23), (.ob s6 0, .slice 83, .sl 83 x21)])
                        (cond ((r24.1 : Int) != ((VS.len x23 : Nat) : Int))
                        (some (.bool false, r24.2))
                        ((ldV (.agg [.slice 83, .slice 47]) r24.2 (.ob s6 0)).bind fun x25 =>
                        ((callD (vF P tab n) P false (.one (.flat (.slice 9))) 21 [.ptr s5] r24.2).bind fun r26 =>
                        (cond (V.stays r26.2 [(.ob s6 0, .slice 83, .sl 83 x25.1), (.ob s6 1, .slice 47, .sl 47 x25.2.1), (.ob s6 1, .slice 47, .sl 47 x23), (.ob s6 0, .slice 83, .sl 83 x21)])
                        ((callD (vF P tab n) P false (.one (.flat (.slice 9))) 33 [.agg [.sl 83 x25.1, .sl 47 x25.2.1]] r26.2).bind fun r27 =>
                        (cond (V.stays r27.2 [(.ob s6 1, .slice 47, .sl 47 x23), (.ob s6 0, .slice 83, .sl 83 x21)])
                        ((callD (vF P tab n) P false (.one (.flat .bool)) 18 [.sl 9 r26.1, .sl 9 r27.1] r27.2).bind fun r28 =>
                        (cond (V.stays r28.2 [(.ob s6 0, .slice 83, .sl 83 x25.1), (.ob s6 1, .slice 47, .sl 47 x25.2.1), (.ob s6 1, .slice 47, .sl 47 x23), (.ob s6 0, .slice 83, .sl 83 x21)])
                        (cond (!r28.1)
                        (some (.bool false, r28.2))
                        (L6_0 n m s0 s1 s5 s6 (IntKind.wrap .i64 (s7 + 1)) r28.2))
                        none))
                        none))
                        none))))
                        none))))
                        none))))))))))))))))))

noncomputable def tl6 (n m : Nat) (s0 : VS) (s1 : Bool) (s5 : VP) (s6 : Nat) (s7 : Int) (key : ByteArray) (h : VH) : VRes :=
  ((callD (vF P tab n) P false (.tup [(.flat (.int .i64)), (.flat .bool)]) 31 [.ptr s5, .str key] h).bind fun r18 =>
                        ((ldV (.agg [.slice 83, .slice 47]) r18.2 (.ob s6 0)).bind fun x19 =>
                        ((callD (vF P tab n) P false (.tup [(.flat (.int .i64)), (.flat .bool)]) 32 [.agg [.sl 83 x19.1, .sl 47 x19.2.1], .str key] r18.2).bind fun r20 =>
                        (cond ((r18.1.1 : Int) != r20.1.1)
                        (some (.bool false, r20.2))
                        (cond (!(r18.1.2.1 == r20.1.2.1))
                        (some (.bool false, r20.2))
                        ((ldV (.flat (.slice 83)) r20.2 (.ob s6 0)).bind fun x21 =>
                        ((callD (vF P tab n) P false (.one (.flat (.int .i64))) 26 [.ptr s5] r20.2).bind fun r22 =>
                        (cond (V.stays r22.2 [(.ob s6 0, .slice 83, .sl 83 x21)])
                        (cond ((r22.1 : Int) != ((VS.len x21 : Nat) : Int))
                        (some (.bool false, r22.2))
                        ((ldV (.flat (.slice 47)) r22.2 (.ob s6 1)).bind fun x23 =>
                        ((callD (vF P tab n) P false (.one (.flat (.int .i64))) 23 [.ptr s5] r22.2).bind fun r24 =>
                        (cond (V.stays r24.2 [(.ob s6 1, .slice 47, .sl 47 x23), (.ob s6 0, .slice 83, .sl 83 x21)])
                        (cond ((r24.1 : Int) != ((VS.len x23 : Nat) : Int))
                        (some (.bool false, r24.2))
                        ((ldV (.agg [.slice 83, .slice 47]) r24.2 (.ob s6 0)).bind fun x25 =>
                        ((callD (vF P tab n) P false (.one (.flat (.slice 9))) 21 [.ptr s5] r24.2).bind fun r26 =>
                        (cond (V.stays r26.2 [(.ob s6 0, .slice 83, .sl 83 x25.1), (.ob s6 1, .slice 47, .sl 47 x25.2.1), (.ob s6 1, .slice 47, .sl 47 x23), (.ob s6 0, .slice 83, .sl 83 x21)])
                        ((callD (vF P tab n) P false (.one (.flat (.slice 9))) 33 [.agg [.sl 83 x25.1, .sl 47 x25.2.1]] r26.2).bind fun r27 =>
                        (cond (V.stays r27.2 [(.ob s6 1, .slice 47, .sl 47 x23), (.ob s6 0, .slice 83, .sl 83 x21)])
                        ((callD (vF P tab n) P false (.one (.flat .bool)) 18 [.sl 9 r26.1, .sl 9 r27.1] r27.2).bind fun r28 =>
                        (cond (V.stays r28.2 [(.ob s6 0, .slice 83, .sl 83 x25.1), (.ob s6 1, .slice 47, .sl 47 x25.2.1), (.ob s6 1, .slice 47, .sl 47 x23), (.ob s6 0, .slice 83, .sl 83 x21)])
                        (cond (!r28.1)
                        (some (.bool false, r28.2))
                        (L6_0 n m s0 s1 s5 s6 (IntKind.wrap .i64 (s7 + 1)) r28.2))
                        none))
                        none))
                        none))))
                        none))))
                        none))))))))

noncomputable def brDrop (n m : Nat) (s0 : VS) (s1 : Bool) (s5 : VP) (s6 : Nat) (s7 : Int) (key : ByteArray) (h : VH) : VRes :=
  ((ldV (.agg [.slice 83, .slice 47]) h (.ob s6 0)).bind fun x92 =>
                        ((callD (vF P tab n) P false (.tup [(.agg [.slice 83, .slice 47]), (.flat .bool)]) 28 [.agg [.sl 83 x92.1, .sl 47 x92.2.1], .str key] h).bind fun r93 =>
                        ((stV (r93.2 ++ [.row (50 + boxK) [.sl 83 .nil, .sl 47 .nil]]) (.ob r93.2.length 0) [.sl 83 r93.1.1.1, .sl 47 r93.1.1.2.1]).bind fun h94 =>
                        ((ldV (.agg [.slice 83, .slice 47]) h94 (.ob r93.2.length 0)).bind fun x95 =>
                        ((stV h94 (.ob s6 0) [.sl 83 x95.1, .sl 47 x95.2.1]).bind fun h96 =>
                        ((callD (vF P tab n) P false (.one (.flat .bool)) 24 [.ptr s5, .str key] h96).bind fun r97 =>
                        (cond (!(r97.1 == r93.1.2.1))
                        (some (.bool false, r97.2))
                        ((callD (vF P tab n) P false (.tup [(.flat (.int .i64)), (.flat .bool)]) 31 [.ptr s5, .str key] r97.2).bind fun r98 =>
                        ((ldV (.agg [.slice 83, .slice 47]) r98.2 (.ob s6 0)).bind fun x99 =>
                        ((callD (vF P tab n) P false (.tup [(.flat (.int .i64)), (.flat .bool)]) 32 [.agg [.sl 83 x99.1, .sl 47 x99.2.1], .str key] r98.2).bind fun r100 =>
                        (cond ((r98.1.1 : Int) != r100.1.1)
                        (some (.bool false, r100.2))
                        (cond (!(r98.1.2.1 == r100.1.2.1))
                        (some (.bool false, r100.2))
                        ((ldV (.flat (.slice 83)) r100.2 (.ob s6 0)).bind fun x101 =>
                        ((callD (vF P tab n) P false (.one (.flat (.int .i64))) 26 [.ptr s5] r100.2).bind fun r102 =>
                        (cond (V.stays r102.2 [(.ob s6 0, .slice 83, .sl 83 x101)])
                        (cond ((r102.1 : Int) != ((VS.len x101 : Nat) : Int))
                        (some (.bool false, r102.2))
                        ((ldV (.flat (.slice 47)) r102.2 (.ob s6 1)).bind fun x103 =>
                        ((callD (vF P tab n) P false (.one (.flat (.int .i64))) 23 [.ptr s5] r102.2).bind fun r104 =>
                        (cond (V.stays r104.2 [(.ob s6 1, .slice 47, .sl 47 x103), (.ob s6 0, .slice 83, .sl 83 x101)])
                        (cond ((r104.1 : Int) != ((VS.len x103 : Nat) : Int))
                        (some (.bool false, r104.2))
                        ((ldV (.agg [.slice 83, .slice 47]) r104.2 (.ob s6 0)).bind fun x105 =>
                        ((callD (vF P tab n) P false (.one (.flat (.slice 9))) 21 [.ptr s5] r104.2).bind fun r106 =>
                        (cond (V.stays r106.2 [(.ob s6 0, .slice 83, .sl 83 x105.1), (.ob s6 1, .slice 47, .sl 47 x105.2.1), (.ob s6 1, .slice 47, .sl 47 x103), (.ob s6 0, .slice 83, .sl 83 x101)])
                        ((callD (vF P tab n) P false (.one (.flat (.slice 9))) 33 [.agg [.sl 83 x105.1, .sl 47 x105.2.1]] r106.2).bind fun r107 =>
                        (cond (V.stays r107.2 [(.ob s6 1, .slice 47, .sl 47 x103), (.ob s6 0, .slice 83, .sl 83 x101)])
                        ((callD (vF P tab n) P false (.one (.flat .bool)) 18 [.sl 9 r106.1, .sl 9 r107.1] r107.2).bind fun r108 =>
                        (cond (V.stays r108.2 [(.ob s6 0, .slice 83, .sl 83 x105.1), (.ob s6 1, .slice 47, .sl 47 x105.2.1), (.ob s6 1, .slice 47, .sl 47 x103), (.ob s6 0, .slice 83, .sl 83 x101)])
                        (cond (!r108.1)
                        (some (.bool false, r108.2))
                        (L6_0 n m s0 s1 s5 s6 (IntKind.wrap .i64 (s7 + 1)) r108.2))
                        none))
                        none))
                        none))))
                        none))))
                        none)))))))))))))))

noncomputable def brUndo (n m : Nat) (s0 : VS) (s1 : Bool) (s5 : VP) (s6 : Nat) (s7 : Int) (key : ByteArray) (c : Int) (h : VH) : VRes :=
  ((callD (vF P tab n) P false (.tup []) 25 [.ptr s5, .int .i64 c] h).bind fun r130 =>
                        ((ldV (.agg [.slice 83, .slice 47]) r130.2 (.ob s6 0)).bind fun x131 =>
                        ((callD (vF P tab n) P false (.one (.agg [.slice 83, .slice 47])) 29 [.agg [.sl 83 x131.1, .sl 47 x131.2.1], .int .i64 c] r130.2).bind fun r132 =>
                        ((stV r132.2 (.ob s6 0) [.sl 83 r132.1.1, .sl 47 r132.1.2.1]).bind fun h133 =>
                        ((callD (vF P tab n) P false (.tup [(.flat (.int .i64)), (.flat .bool)]) 31 [.ptr s5, .str key] h133).bind fun r134 =>
                        ((ldV (.agg [.slice 83, .slice 47]) r134.2 (.ob s6 0)).bind fun x135 =>
                        ((callD (vF P tab n) P false (.tup [(.flat (.int .i64)), (.flat .bool)]) 32 [.agg [.sl 83 x135.1, .sl 47 x135.2.1], .str key] r134.2).bind fun r136 =>
                        (cond ((r134.1.1 : Int) != r136.1.1)
                        (some (.bool false, r136.2))
                        (cond (!(r134.1.2.1 == r136.1.2.1))
                        (some (.bool false, r136.2))
                        ((ldV (.flat (.slice 83)) r136.2 (.ob s6 0)).bind fun x137 =>
                        ((callD (vF P tab n) P false (.one (.flat (.int .i64))) 26 [.ptr s5] r136.2).bind fun r138 =>
                        (cond (V.stays r138.2 [(.ob s6 0, .slice 83, .sl 83 x137)])
                        (cond ((r138.1 : Int) != ((VS.len x137 : Nat) : Int))
                        (some (.bool false, r138.2))
                        ((ldV (.flat (.slice 47)) r138.2 (.ob s6 1)).bind fun x139 =>
                        ((callD (vF P tab n) P false (.one (.flat (.int .i64))) 23 [.ptr s5] r138.2).bind fun r140 =>
                        (cond (V.stays r140.2 [(.ob s6 1, .slice 47, .sl 47 x139), (.ob s6 0, .slice 83, .sl 83 x137)])
                        (cond ((r140.1 : Int) != ((VS.len x139 : Nat) : Int))
                        (some (.bool false, r140.2))
                        ((ldV (.agg [.slice 83, .slice 47]) r140.2 (.ob s6 0)).bind fun x141 =>
                        ((callD (vF P tab n) P false (.one (.flat (.slice 9))) 21 [.ptr s5] r140.2).bind fun r142 =>
                        (cond (V.stays r142.2 [(.ob s6 0, .slice 83, .sl 83 x141.1), (.ob s6 1, .slice 47, .sl 47 x141.2.1), (.ob s6 1, .slice 47, .sl 47 x139), (.ob s6 0, .slice 83, .sl 83 x137)])
                        ((callD (vF P tab n) P false (.one (.flat (.slice 9))) 33 [.agg [.sl 83 x141.1, .sl 47 x141.2.1]] r142.2).bind fun r143 =>
                        (cond (V.stays r143.2 [(.ob s6 1, .slice 47, .sl 47 x139), (.ob s6 0, .slice 83, .sl 83 x137)])
                        ((callD (vF P tab n) P false (.one (.flat .bool)) 18 [.sl 9 r142.1, .sl 9 r143.1] r143.2).bind fun r144 =>
                        (cond (V.stays r144.2 [(.ob s6 0, .slice 83, .sl 83 x141.1), (.ob s6 1, .slice 47, .sl 47 x141.2.1), (.ob s6 1, .slice 47, .sl 47 x139), (.ob s6 0, .slice 83, .sl 83 x137)])
                        (cond (!r144.1)
                        (some (.bool false, r144.2))
                        (L6_0 n m s0 s1 s5 s6 (IntKind.wrap .i64 (s7 + 1)) r144.2))
                        none))
                        none))
                        none))))
                        none))))
                        none))))))))))))

noncomputable def brDone (n m : Nat) (s0 : VS) (s1 : Bool) (s5 : VP) (s6 : Nat) (s7 : Int) (key : ByteArray) (h : VH) : VRes :=
  ((callD (vF P tab n) P false (.tup []) 30 [.ptr s5] h).bind fun r160 =>
                        ((stV r160.2 (.ob s6 1) [.sl 47 .nil]).bind fun h161 =>
                        ((callD (vF P tab n) P false (.tup [(.flat (.int .i64)), (.flat .bool)]) 31 [.ptr s5, .str key] h161).bind fun r162 =>
                        ((ldV (.agg [.slice 83, .slice 47]) r162.2 (.ob s6 0)).bind fun x163 =>
                        ((callD (vF P tab n) P false (.tup [(.flat (.int .i64)), (.flat .bool)]) 32 [.agg [.sl 83 x163.1, .sl 47 x163.2.1], .str key] r162.2).bind fun r164 =>
                        (cond ((r162.1.1 : Int) != r164.1.1)
                        (some (.bool false, r164.2))
                        (cond (!(r162.1.2.1 == r164.1.2.1))
                        (some (.bool false, r164.2))
                        ((ldV (.flat (.slice 83)) r164.2 (.ob s6 0)).bind fun x165 =>
                        ((callD (vF P tab n) P false (.one (.flat (.int .i64))) 26 [.ptr s5] r164.2).bind fun r166 =>
                        (cond (V.stays r166.2 [(.ob s6 0, .slice 83, .sl 83 x165)])
                        (cond ((r166.1 : Int) != ((VS.len x165 : Nat) : Int))
                        (some (.bool false, r166.2))
                        ((ldV (.flat (.slice 47)) r166.2 (.ob s6 1)).bind fun x167 =>
                        ((callD (vF P tab n) P false (.one (.flat (.int .i64))) 23 [.ptr s5] r166.2).bind fun r168 =>
                        (cond (V.stays r168.2 [(.ob s6 1, .slice 47, .sl 47 x167), (.ob s6 0, .slice 83, .sl 83 x165)])
                        (cond ((r168.1 : Int) != ((VS.len x167 : Nat) : Int))
                        (some (.bool false, r168.2))
                        ((ldV (.agg [.slice 83, .slice 47]) r168.2 (.ob s6 0)).bind fun x169 =>
                        ((callD (vF P tab n) P false (.one (.flat (.slice 9))) 21 [.ptr s5] r168.2).bind fun r170 =>
                        (cond (V.stays r170.2 [(.ob s6 0, .slice 83, .sl 83 x169.1), (.ob s6 1, .slice 47, .sl 47 x169.2.1), (.ob s6 1, .slice 47, .sl 47 x167), (.ob s6 0, .slice 83, .sl 83 x165)])
                        ((callD (vF P tab n) P false (.one (.flat (.slice 9))) 33 [.agg [.sl 83 x169.1, .sl 47 x169.2.1]] r170.2).bind fun r171 =>
                        (cond (V.stays r171.2 [(.ob s6 1, .slice 47, .sl 47 x167), (.ob s6 0, .slice 83, .sl 83 x165)])
                        ((callD (vF P tab n) P false (.one (.flat .bool)) 18 [.sl 9 r170.1, .sl 9 r171.1] r171.2).bind fun r172 =>
                        (cond (V.stays r172.2 [(.ob s6 0, .slice 83, .sl 83 x169.1), (.ob s6 1, .slice 47, .sl 47 x169.2.1), (.ob s6 1, .slice 47, .sl 47 x167), (.ob s6 0, .slice 83, .sl 83 x165)])
                        (cond (!r172.1)
                        (some (.bool false, r172.2))
                        (L6_0 n m s0 s1 s5 s6 (IntKind.wrap .i64 (s7 + 1)) r172.2))
                        none))
                        none))
                        none))))
                        none))))
                        none))))))))))
/-! ### The plain law -/
open I
theorem getM_wo (L : Rw) (key k' : Key) : getM (wo L key) k' = if k' = key then none else getM L k' := by
  induction L with
  | nil => unfold wo getM; simp
  | cons p L ih =>
    obtain ⟨a, b⟩ := p
    unfold wo at ih ⊢
    by_cases e : a = key
    · rw [List.filter_cons_of_neg (by simp [e]), ih]
      by_cases e2 : k' = key
      · rw [if_pos e2, if_pos e2]
      · rw [if_neg e2, if_neg e2]
        unfold getM
        rw [if_neg (by rw [e]; exact e2)]
        cases L <;> rfl
    · rw [List.filter_cons_of_pos (by simp [e])]
      show (if k' = a then some b else getM _ k') = _
      rw [ih]
      by_cases e2 : k' = key
      · rw [if_neg (by rw [e2]; exact fun h => e h.symm), if_pos e2, if_pos e2]
      · rw [if_neg e2, if_neg e2]; rfl
theorem getM_one (L : Rw) (key : Key) (v : Int) (k' : Key) : getM (L ++ [(key, v)]) k' = match getM L k' with | some x => some x | none => if k' = key then some v else none := by
  induction L with
  | nil => rfl
  | cons p L ih =>
    obtain ⟨a, b⟩ := p
    show (if k' = a then some b else getM (L ++ [(key, v)]) k') = match (if k' = a then some b else getM L k') with | some x => some x | none => if k' = key then some v else none
    by_cases e : k' = a
    · rw [if_pos e, if_pos e]
    · rw [if_neg e, if_neg e, ih]
theorem getM_set (L : Rw) (key : Key) (v : Int) (k' : Key) : getM (wo L key ++ [(key, v)]) k' = if k' = key then some v else getM L k' := by
  rw [getM_one, getM_wo]
  by_cases e : k' = key
  · rw [if_pos e, if_pos e, if_pos e]
  · rw [if_neg e, if_neg e, if_neg e]
    cases getM L k' <;> rfl
theorem nd_wo {L : Rw} (h : Nd L) (key : Key) : Nd (wo L key) := by
  unfold Nd wo at *
  exact h.sublist (List.Sublist.map _ List.filter_sublist)
theorem nd_set {L : Rw} (h : Nd L) (key : Key) (v : Int) : Nd (wo L key ++ [(key, v)]) := by
  have h1 := nd_wo h key
  unfold Nd at *
  rw [List.map_append, List.nodup_append]
  refine ⟨h1, by simp, fun a ha b hb e => ?_⟩
  simp only [List.map_cons, List.map_nil, List.mem_singleton] at hb
  subst hb; subst e
  rw [mem_keys, getM_wo, if_pos rfl] at ha
  exact ha rfl
theorem je_eqv {m L : Rw} (h : Eqv m L) (k : Key) : je m k = je L k := by unfold je; rw [h k]
/-- The journal, and what the reference has kept. -/
inductive Wj : List JE → List Rw → Rw → Prop
  | nil {L} : Nd L → Wj [] [] L
  | step {jr ws L L'} (k : Key) : Wj jr ws L → Nd L' → (∀ key, key ≠ k → getM L' key = getM L key) → Wj (jr ++ [je L k]) (ws ++ [L]) L'
theorem Wj.nd {jr ws L} (h : Wj jr ws L) : Nd L := by cases h <;> assumption
theorem Wj.len {jr ws L} (h : Wj jr ws L) : jr.length = ws.length := by
  induction h with
  | nil => rfl
  | step k _ _ _ ih => simp [ih]
theorem Wj.undo {jr ws L} (h : Wj jr ws L) : ∀ c, c < jr.length → ∃ w, ws[c]? = some w ∧ Wj (jr.take c) (ws.take c) w ∧ ∀ m', Nd m' → Eqv m' L → Nd ((jr.drop c).reverse.foldl un1 m') ∧ Eqv ((jr.drop c).reverse.foldl un1 m') w := by
  induction h with
  | nil => intro c hc; cases hc
  | @step jr ws L L' k h0 hn hg ih =>
    intro c hc
    have hl := h0.len
    have one : ∀ m', Nd m' → Eqv m' L' → Nd (un1 m' (je L k)) ∧ Eqv (un1 m' (je L k)) L := fun m' h1 h2 => by
      refine ⟨un1_nd h1 _, fun key => ?_⟩
      rw [un1_get h1]
      by_cases e : key = k
      · rw [if_pos e, e]
      · rw [if_neg e, h2, hg key e]
    by_cases e : c = jr.length
    · subst e
      refine ⟨L, by rw [hl, List.getElem?_append_right (Nat.le_refl _), Nat.sub_self]; rfl, ?_, fun m' h1 h2 => ?_⟩
      · rw [List.take_left, hl, List.take_left]; exact h0
      · rw [List.drop_left]; exact one m' h1 h2
    · have hc' : c < jr.length := by rw [List.length_append, List.length_singleton] at hc; omega
      obtain ⟨w, w1, w2, w3⟩ := ih c hc'
      refine ⟨w, by rw [List.getElem?_append_left (by omega)]; exact w1, ?_, fun m' h1 h2 => ?_⟩
      · rw [List.take_append_of_le_length (by omega), List.take_append_of_le_length (by omega)]; exact w2
      · rw [List.drop_append_of_le_length (by omega), List.reverse_append]
        obtain ⟨q1, q2⟩ := one m' h1 h2
        exact w3 _ q1 q2
structure Inv (mp : Rw) (jr : List JE) (L : Rw) (ws : List Rw) : Prop where
  nd : Nd mp
  eq : Eqv mp L
  wj : Wj jr ws L
/-! ### The tail -/
/-- The state of the loop. -/
structure St (H : VH) (k j o : Nat) (T : List Nat) (mp : Rw) (jr : List JE) (L : Rw) (ws : List Rw) : Prop where
  tb : TB H k j T mp jr
  row : ∃ a b, H[o]? = some (.row RT [.sl 83 a, .sl 47 b]) ∧ IsR a L ∧ IsW b ws
  out : o ∉ T
  inv : Inv mp jr L ws
  jk : JK jr
theorem tl_ok (n m : Nat) (s0 : VS) (s1 : Bool) (s7 : Int) {k j o : Nat} {T : List Nat} {mp : Rw} {jr : List JE} {L : Rw} {ws : List Rw} {H : VH} (h : St H k j o T mp jr L ws) (hm : mp.length ≤ 105) (key : Key)
    (K : ∀ H', St H' k j o T mp jr L ws → ∃ H'', L6_0 (n + 210) m s0 s1 (.ob k 0) o (IntKind.wrap .i64 (s7 + 1)) H' = some (.bool true, H'')) :
    ∃ H', tl6 (n + 210) m s0 s1 (.ob k 0) o s7 ⟨key.toArray⟩ H = some (.bool true, H') := by
  obtain ⟨tb, ⟨a, b, hr, ha, hb⟩, ho, inv, hjk⟩ := h
  obtain ⟨ks1, ks2⟩ := inv.eq.keys inv.nd inv.wj.nd
  have wl := inv.wj.len
  unfold tl6
  rw [c31 (n + 209) tb key, Option.bind_some]
  simp only
  rw [ld_ab hr, Option.bind_some]
  rw [callD_some (τ := .tup [(.flat (.int .i64)), (.flat .bool)]) (x := ((getM L key).getD 0, (getM L key).isSome, ())) _ (e32 (n + 209) ha hb key (by omega) (by omega) H) rfl, Option.bind_some]
  simp only
  rw [inv.eq key, bne_self_eq_false, cond_false, beq_self_eq_true, Bool.not_true, cond_false, ld_a hr, Option.bind_some, callD_int (e26 (n + 209) tb), Option.bind_some]
  simp only [st_a hr, stays_nil, cond_true]
  rw [ha.len, ks2, bne_self_eq_false, cond_false, ld_b hr, Option.bind_some, callD_int (e23 (n + 209) tb), Option.bind_some]
  simp only [st_a hr, st_b hr, stays_nil, cond_true]
  rw [hb.len, wl, bne_self_eq_false, cond_false, ld_ab hr, Option.bind_some]
  obtain ⟨s, H1, b1, b2, b3⟩ := e21 (n + 208) tb (by omega)
  have hr1 := b3.ob hr (by simp)
  rw [callD_sl b1, Option.bind_some]
  simp only [st_a hr1, st_b hr1, stays_nil, cond_true]
  obtain ⟨s', c1, c2⟩ := e33 (n + 208) ha hb (by omega) (by omega) H1
  rw [callD_sl c1, Option.bind_some]
  simp only [st_a hr1, st_b hr1, stays_nil, cond_true]
  have e : sortK (mp.map (·.1)) = riseS (L.map (·.1)) := by
    rw [ks1]
    exact sort_rise inv.wj.nd (fun _ => Iff.rfl)
  rw [e] at b2
  have hrl := riseS_len (L.map (·.1))
  rw [List.length_map] at hrl
  rw [callD_bool (e18 (n + 209) b2 c2 (by omega) (by omega) H1), Option.bind_some]
  simp only [st_a hr1, st_b hr1, stays_nil, cond_true, decide_true, Bool.not_true, cond_false]
  exact K H1 ⟨tb.kn b3, ⟨a, b, hr1, ha, hb⟩, ho, inv, hjk⟩
/-- Behind a change of the row. -/
theorem row_set {H : VH} {k j o : Nat} {T : List Nat} {mp : Rw} {jr : List JE} (h : TB H k j T mp jr) (ho : o ∉ T) (x : VO) : TB (H.set o x) k j T mp jr := h.keep (Kp.set H o x) (fun t ht hm => by rw [List.mem_singleton] at hm; subst hm; exact ho ht)
theorem out_of {H : VH} {T T' : List Nat} {o : Nat} (h : TN H T T') (ho : o ∉ T) (hl : o < H.length) : o ∉ T' := fun hm => by
  rcases h o hm with h1 | h1
  · exact ho h1
  · omega
theorem ab_st {H : VH} {o : Nat} {a b : VS} (h : H[o]? = some (.row RT [.sl 83 a, .sl 47 b])) (c d : VS) {β : Type} (f : VH → Option β) : (stV H (.ob o 0) [.sl 83 c, .sl 47 d]).bind f = f (H.set o (.row RT [.sl 83 c, .sl 47 d])) := by rw [st_ab h, Option.bind_some]
theorem ws_app {ws : List Rw} {B : Nat} (h : ∀ w ∈ ws, w.length ≤ B) {L : Rw} (hL : L.length ≤ B) : ∀ w ∈ ws ++ [L], w.length ≤ B + 1 := fun w hw => by
  rcases List.mem_append.1 hw with h1 | h1
  · have := h w h1; omega
  · rw [List.mem_singleton] at h1; subst h1; omega
theorem set_ok (n m : Nat) {s0 : VS} {xs : List Ac} (hs : IsE s0 (acs xs)) (s1 : Bool) {i : Nat} {ac : Ac} (hac : xs[i]? = some ac) {k j o : Nat} {T : List Nat} {mp : Rw} {jr : List JE} {L : Rw} {ws : List Rw} {H : VH} (h : St H k j o T mp jr L ws) {B : Nat} (hB : B ≤ 103) (hm : mp.length ≤ B) (hj : jr.length ≤ B) (hws : ∀ w ∈ ws, w.length ≤ B) (key : Key) (hkl : key.length ≤ 9223372036854775807)
    (K : ∀ H' T' mp' jr' L' ws', St H' k j o T' mp' jr' L' ws' → mp'.length ≤ B + 1 → jr'.length ≤ B + 1 → (∀ w ∈ ws', w.length ≤ B + 1) → ∃ H'', L6_0 (n + 210) m s0 s1 (.ob k 0) o (IntKind.wrap .i64 ((i : Int) + 1)) H' = some (.bool true, H'')) :
    ∃ H', brSet (n + 210) m s0 s1 (.ob k 0) o (i : Int) ⟨key.toArray⟩ H = some (.bool true, H') := by
  obtain ⟨tb, ⟨a, b, hr, ha, hb⟩, ho, inv, hjk⟩ := h
  obtain ⟨ks1, ks2⟩ := inv.eq.keys inv.nd inv.wj.nd
  have wl := inv.wj.len
  unfold brSet
  rw [ix_act hs hac, Option.bind_some, at_v, Option.bind_some, ld_v, Option.bind_some]
  obtain ⟨H1, T1, a1, a2, a3, a4⟩ := e20 (n + 207) tb ac.v hkl (by omega) (by omega)
  have hr1 := a3.ob hr ho
  rw [callD_unit a1, Option.bind_some]
  simp only
  rw [ld_ab hr1, Option.bind_some, Option.bind_some, at_v, Option.bind_some, ld_v, Option.bind_some]
  obtain ⟨s, t, u1, u2, u3⟩ := e27 (n + 208) ha hb key ac.v (by omega) (by omega) (by omega) H1
  rw [callD_ab u1, Option.bind_some]
  simp only
  rw [ab_st hr1]
  have ho1 := out_of a4 ho (lt_of_ob hr)
  have hpl := (len_put mp key ac.v).2
  have hst : St (H1.set o (.row RT [.sl 83 s, .sl 47 t])) k j o T1 (putA mp key ac.v) (jr ++ [je mp key]) (wo L key ++ [(key, ac.v)]) (ws ++ [L]) := by
    refine ⟨row_set a2 ho1 _, ⟨s, t, st_at hr1 _, u2, u3⟩, ho1, ⟨nodup_put inv.nd _ _, fun y => ?_, ?_⟩, jk_app hjk hkl⟩
    · rw [getM_put, getM_set, inv.eq y]
    · rw [je_eqv inv.eq]
      exact inv.wj.step key (nd_set inv.wj.nd _ _) (fun y hy => by rw [getM_set, if_neg hy])
  exact tl_ok n m s0 s1 i hst (by omega) key (fun H' hH' => K H' _ _ _ _ _ hH' (by omega) (by rw [List.length_append, List.length_singleton]; omega) (ws_app hws (by omega)))
theorem drop_ok (n m : Nat) {s0 : VS} (s1 : Bool) (i : Nat) {k j o : Nat} {T : List Nat} {mp : Rw} {jr : List JE} {L : Rw} {ws : List Rw} {H : VH} (h : St H k j o T mp jr L ws) {B : Nat} (hB : B ≤ 103) (hm : mp.length ≤ B) (hj : jr.length ≤ B) (hws : ∀ w ∈ ws, w.length ≤ B) (key : Key) (hkl : key.length ≤ 9223372036854775807)
    (K : ∀ H' T' mp' jr' L' ws', St H' k j o T' mp' jr' L' ws' → mp'.length ≤ B + 1 → jr'.length ≤ B + 1 → (∀ w ∈ ws', w.length ≤ B + 1) → ∃ H'', L6_0 (n + 210) m s0 s1 (.ob k 0) o (IntKind.wrap .i64 ((i : Int) + 1)) H' = some (.bool true, H'')) :
    ∃ H', brDrop (n + 210) m s0 s1 (.ob k 0) o (i : Int) ⟨key.toArray⟩ H = some (.bool true, H') := by
  obtain ⟨tb, ⟨a, b, hr, ha, hb⟩, ho, inv, hjk⟩ := h
  obtain ⟨ks1, ks2⟩ := inv.eq.keys inv.nd inv.wj.nd
  have wl := inv.wj.len
  unfold brDrop
  rw [ld_ab hr, Option.bind_some]
  obtain ⟨s, t, u1, u2, u3⟩ := e28 (n + 208) ha hb key (by omega) (by omega) (by omega) H
  rw [callD_some (τ := .tup [(.agg [.slice 83, .slice 47]), (.flat .bool)]) (x := ((s, t, ()), (getM L key).isSome, ())) _ u1 rfl, Option.bind_some]
  simp only
  have hh : (H ++ [.row RT [.sl 83 .nil, .sl 47 .nil]])[H.length]? = some (.row RT [.sl 83 .nil, .sl 47 .nil]) := by rw [List.getElem?_append_right (Nat.le_refl _), Nat.sub_self]; rfl
  have hl := lt_of_ob hr
  have hr0 : (H ++ [VO.row RT [.sl 83 .nil, .sl 47 .nil]])[o]? = some (.row RT [.sl 83 a, .sl 47 b]) := by rw [List.getElem?_append_left hl]; exact hr
  rw [ret_ab hh]
  have hr1 : ((H ++ [VO.row RT [.sl 83 .nil, .sl 47 .nil]]).set H.length (.row RT [.sl 83 s, .sl 47 t]))[o]? = some (.row RT [.sl 83 a, .sl 47 b]) := by rw [List.getElem?_set_ne (by omega)]; exact hr0
  have tb1 : TB ((H ++ [VO.row RT [.sl 83 .nil, .sl 47 .nil]]).set H.length (.row RT [.sl 83 s, .sl 47 t])) k j T mp jr := row_set (tb.kn (Kp.app H _)) (fun hm => by have := tb.lt _ hm; omega) _
  rw [ab_st hr1]
  have tb2 := row_set tb1 ho (.row RT [.sl 83 s, .sl 47 t])
  obtain ⟨H2, T2, a1, a2, a3, a4⟩ := e24 (n + 207) tb2 key (by omega)
  have hr2 := a3.ob (st_at hr1 (.row RT [.sl 83 s, .sl 47 t])) ho
  rw [callD_bool a1, Option.bind_some]
  simp only
  rw [inv.eq key, beq_self_eq_true, Bool.not_true, cond_false]
  have ho2 := out_of a4 ho (by rw [List.length_set, List.length_set, List.length_append]; omega)
  have hcl := len_cut mp key
  rw [inv.eq key] at a2
  cases hg : (getM L key).isSome with
  | true =>
    rw [hg] at a2 u2 u3
    simp only [if_true] at a2 u2 u3
    have hst : St H2 k j o T2 (cutA mp key) (jr ++ [je mp key]) (wo L key) (ws ++ [L]) := by
      refine ⟨a2, ⟨s, t, hr2, u2, u3⟩, ho2, ⟨nodup_cut inv.nd _, fun y => ?_, ?_⟩, jk_app hjk hkl⟩
      · rw [getM_cut inv.nd, getM_wo, inv.eq y]
      · rw [je_eqv inv.eq]
        exact inv.wj.step key (nd_wo inv.wj.nd _) (fun y hy => by rw [getM_wo, if_neg hy])
    exact tl_ok n m s0 s1 i hst (by omega) key (fun H' hH' => K H' _ _ _ _ _ hH' (by omega) (by rw [List.length_append, List.length_singleton]; omega) (ws_app hws (by omega)))
  | false =>
    rw [hg] at a2 u2 u3
    simp only [Bool.false_eq_true, if_false] at a2 u2 u3
    have hcut : cutA mp key = mp := by
      rcases findV_ents (enc := I.enc) vkeq_sk key mp with ⟨_, _, _, h4⟩ | ⟨_, _, h1, _⟩
      · exact h4
      · rw [← inv.eq key, h1] at hg; cases hg
    rw [hcut] at a2
    have hst : St H2 k j o T2 mp jr L ws := ⟨a2, ⟨s, t, hr2, u2, u3⟩, ho2, inv, hjk⟩
    exact tl_ok n m s0 s1 i hst (by omega) key (fun H' hH' => K H' _ _ _ _ _ hH' (by omega) (by omega) (fun w hw => by have := hws w hw; omega))
theorem undo_ok (n m : Nat) {s0 : VS} (s1 : Bool) (i : Nat) {k j o : Nat} {T : List Nat} {mp : Rw} {jr : List JE} {L : Rw} {ws : List Rw} {H : VH} (h : St H k j o T mp jr L ws) {B : Nat} (hB : B ≤ 103) (hm : mp.length ≤ B) (hj : jr.length ≤ B) (hws : ∀ w ∈ ws, w.length ≤ B) (key : Key) (c : Int)
    (K : ∀ H' T' mp' jr' L' ws', St H' k j o T' mp' jr' L' ws' → mp'.length ≤ B + 1 → jr'.length ≤ B + 1 → (∀ w ∈ ws', w.length ≤ B + 1) → ∃ H'', L6_0 (n + 210) m s0 s1 (.ob k 0) o (IntKind.wrap .i64 ((i : Int) + 1)) H' = some (.bool true, H'')) :
    ∃ H', brUndo (n + 210) m s0 s1 (.ob k 0) o (i : Int) ⟨key.toArray⟩ c H = some (.bool true, H') := by
  obtain ⟨tb, ⟨a, b, hr, ha, hb⟩, ho, inv, hjk⟩ := h
  obtain ⟨ks1, ks2⟩ := inv.eq.keys inv.nd inv.wj.nd
  have wl := inv.wj.len
  obtain ⟨c0, hc⟩ : ∃ c0 : Nat, (if 0 > c then 0 else c) = (c0 : Int) := ⟨(if 0 > c then 0 else c).toNat, by split <;> omega⟩
  unfold brUndo
  obtain ⟨H1, T1, a1, a2, a3, a4⟩ := e25 (n + 208) hc tb (by omega) (by omega) hjk
  have hr1 := a3.ob hr ho
  rw [callD_unit a1, Option.bind_some]
  simp only
  rw [ld_ab hr1, Option.bind_some]
  obtain ⟨s, t, u1, u2, u3⟩ := e29 (n + 209) ha hb c hc (by omega) H1
  rw [callD_ab u1, Option.bind_some]
  simp only
  rw [ab_st hr1]
  have ho1 := out_of a4 ho (lt_of_ob hr)
  have tb1 := row_set a2 ho1 (.row RT [.sl 83 s, .sl 47 t])
  by_cases e : c0 < jr.length
  · obtain ⟨w, w1, w2, w3⟩ := inv.wj.undo c0 e
    obtain ⟨q1, q2⟩ := w3 mp inv.nd inv.eq
    rw [w1] at u2
    have hst : St (H1.set o (.row RT [.sl 83 s, .sl 47 t])) k j o T1 ((jr.drop c0).reverse.foldl un1 mp) (jr.take c0) w (ws.take c0) :=
      ⟨tb1, ⟨s, t, st_at hr1 _, u2, u3⟩, ho1, ⟨q1, q2, w2⟩, fun y hy => hjk y (List.mem_of_mem_take hy)⟩
    have hwl := hws w (List.mem_of_getElem? w1)
    have hml := (q2.keys q1 w2.nd).2
    exact tl_ok n m s0 s1 i hst (by omega) key (fun H' hH' => K H' _ _ _ _ _ hH' (by omega) (by rw [List.length_take]; omega) (fun x hx => by have := hws x (List.mem_of_mem_take hx); omega))
  · rw [List.drop_eq_nil_of_le (by omega), List.take_of_length_le (by omega)] at tb1
    rw [List.getElem?_eq_none (by omega)] at u2
    rw [List.take_of_length_le (by omega)] at u3
    have hst : St (H1.set o (.row RT [.sl 83 s, .sl 47 t])) k j o T1 mp jr L ws :=
      ⟨tb1, ⟨s, t, st_at hr1 _, u2, u3⟩, ho1, inv, hjk⟩
    exact tl_ok n m s0 s1 i hst (by omega) key (fun H' hH' => K H' _ _ _ _ _ hH' (by omega) (by omega) (fun w hw => by have := hws w hw; omega))
theorem done_ok (n m : Nat) {s0 : VS} (s1 : Bool) (i : Nat) {k j o : Nat} {T : List Nat} {mp : Rw} {jr : List JE} {L : Rw} {ws : List Rw} {H : VH} (h : St H k j o T mp jr L ws) {B : Nat} (hB : B ≤ 103) (hm : mp.length ≤ B) (key : Key)
    (K : ∀ H' T' mp' jr' L' ws', St H' k j o T' mp' jr' L' ws' → mp'.length ≤ B + 1 → jr'.length ≤ B + 1 → (∀ w ∈ ws', w.length ≤ B + 1) → ∃ H'', L6_0 (n + 210) m s0 s1 (.ob k 0) o (IntKind.wrap .i64 ((i : Int) + 1)) H' = some (.bool true, H'')) :
    ∃ H', brDone (n + 210) m s0 s1 (.ob k 0) o (i : Int) ⟨key.toArray⟩ H = some (.bool true, H') := by
  obtain ⟨tb, ⟨a, b, hr, ha, hb⟩, ho, inv, hjk⟩ := h
  unfold brDone
  obtain ⟨H1, T1, a1, a2, a3, a4⟩ := e30 (n + 209) tb
  have hr1 := a3.ob hr ho
  rw [callD_unit a1, Option.bind_some]
  simp only
  have hst1 : stV H1 (.ob o 1) [.sl 47 .nil] = some (H1.set o (.row RT [.sl 83 a, .sl 47 .nil])) := st_row hr1 (by simp) rfl
  rw [hst1, Option.bind_some]
  have ho1 := out_of a4 ho (lt_of_ob hr)
  have hst : St (H1.set o (.row RT [.sl 83 a, .sl 47 .nil])) k j o T1 mp [] L [] :=
    ⟨row_set a2 ho1 _, ⟨a, .nil, st_at hr1 _, ha, ⟨[], .nil, rfl, fun i w hw => by simp at hw⟩⟩, ho1, ⟨inv.nd, inv.eq, .nil inv.wj.nd⟩, fun y hy => by cases hy⟩
  exact tl_ok n m s0 s1 i hst (by omega) key (fun H' hH' => K H' _ _ _ _ _ hH' (by omega) (Nat.zero_le _) (fun w hw => by cases hw))
theorem p60 (n : Nat) {s0 : VS} {xs : List Ac} (hs : IsE s0 (acs xs)) (hok : ∀ x ∈ xs, x.ok) (hz : xs.length ≤ 100) (s1 : Bool) : ∀ (m i : Nat) {H : VH} {k j o : Nat} {T : List Nat} {mp : Rw} {jr : List JE} {L : Rw} {ws : List Rw}, St H k j o T mp jr L ws → mp.length ≤ i → jr.length ≤ i → (∀ w ∈ ws, w.length ≤ i) → i ≤ xs.length → xs.length < i + m →
    ∃ H', L6_0 (n + 210) m s0 s1 (.ob k 0) o (i : Int) H = some (.bool true, H') := by
  intro m
  induction m with
  | zero => intros; omega
  | succ m ih =>
    intro i H k j o T mp jr L ws h hm hj hws hi hlt
    rw [L6_0_eq, hs.len, acs_len]
    by_cases c1 : i < xs.length
    · obtain ⟨a, ha⟩ := get_of c1
      have hdt : decide ((i : Int) < (xs.length : Int)) = true := decide_eq_true (by omega)
      have hao := hok a (List.mem_of_getElem? ha)
      rw [hdt, cond_true, ix_act hs ha, Option.bind_some, ld_act, Option.bind_some]
      simp only
      rw [c12 (n + 208) hao s1 H, Option.bind_some]
      simp only
      rw [Option.bind_some, at_0, Option.bind_some, ld_d, Option.bind_some, show (8 : Int) = ((8 : Nat) : Int) from rfl, remI_nat (by decide), Option.bind_some]
      have K : ∀ H' T' mp' jr' L' ws', St H' k j o T' mp' jr' L' ws' → mp'.length ≤ i + 1 → jr'.length ≤ i + 1 → (∀ w ∈ ws', w.length ≤ i + 1) → ∃ H'', L6_0 (n + 210) m s0 s1 (.ob k 0) o (IntKind.wrap .i64 ((i : Int) + 1)) H' = some (.bool true, H'') := by
        intro H' T' mp' jr' L' ws' h' hm' hj' hw'
        rw [inc_nat (by omega)]
        exact ih (i + 1) h' hm' hj' hw' (by omega) (by omega)
      have q8 : a.d % 8 < 8 := Nat.mod_lt _ (by decide)
      have hkl := keyS_len hao s1
      have ha' := ix_act hs ha
      have q : a.d % 8 = 0 ∨ a.d % 8 = 1 ∨ a.d % 8 = 2 ∨ a.d % 8 = 3 ∨ a.d % 8 = 4 ∨ a.d % 8 = 5 ∨ a.d % 8 = 6 ∨ a.d % 8 = 7 := by omega
      rcases q with q | q | q | q | q | q | q | q
      all_goals rw [q]
      · rw [show ((((0 : Nat) : Int)) == 0) = true from rfl, cond_true]
        have t := set_ok n m hs s1 ha h (by omega) hm hj hws (keyS a s1) hkl K
        unfold brSet at t
        rw [ha'] at t
        exact t
      · rw [show ((((1 : Nat) : Int)) == 0) = false from rfl, cond_false, show ((((1 : Nat) : Int)) == 1) = true from rfl, cond_true]
        have t := set_ok n m hs s1 ha h (by omega) hm hj hws (keyS a s1) hkl K
        unfold brSet at t
        rw [ha'] at t
        exact t
      · rw [show ((((2 : Nat) : Int)) == 0) = false from rfl, cond_false, show ((((2 : Nat) : Int)) == 1) = false from rfl, cond_false, show ((((2 : Nat) : Int)) == 2) = true from rfl, cond_true]
        have t := set_ok n m hs s1 ha h (by omega) hm hj hws (keyS a s1) hkl K
        unfold brSet at t
        rw [ha'] at t
        exact t
      · rw [show ((((3 : Nat) : Int)) == 0) = false from rfl, cond_false, show ((((3 : Nat) : Int)) == 1) = false from rfl, cond_false, show ((((3 : Nat) : Int)) == 2) = false from rfl, cond_false, show ((((3 : Nat) : Int)) == 3) = true from rfl, cond_true]
        have t := set_ok n m hs s1 ha h (by omega) hm hj hws (keyS a s1) hkl K
        unfold brSet at t
        rw [ha'] at t
        exact t
      · rw [show ((((4 : Nat) : Int)) == 0) = false from rfl, cond_false, show ((((4 : Nat) : Int)) == 1) = false from rfl, cond_false, show ((((4 : Nat) : Int)) == 2) = false from rfl, cond_false, show ((((4 : Nat) : Int)) == 3) = false from rfl, cond_false, show ((((4 : Nat) : Int)) == 4) = true from rfl, cond_true]
        exact drop_ok n m (s0 := s0) s1 i h (by omega) hm hj hws (keyS a s1) hkl K
      · rw [show ((((5 : Nat) : Int)) == 0) = false from rfl, cond_false, show ((((5 : Nat) : Int)) == 1) = false from rfl, cond_false, show ((((5 : Nat) : Int)) == 2) = false from rfl, cond_false, show ((((5 : Nat) : Int)) == 3) = false from rfl, cond_false, show ((((5 : Nat) : Int)) == 4) = false from rfl, cond_false, show ((((5 : Nat) : Int)) == 5) = true from rfl, cond_true]
        exact drop_ok n m (s0 := s0) s1 i h (by omega) hm hj hws (keyS a s1) hkl K
      · rw [show ((((6 : Nat) : Int)) == 0) = false from rfl, cond_false, show ((((6 : Nat) : Int)) == 1) = false from rfl, cond_false, show ((((6 : Nat) : Int)) == 2) = false from rfl, cond_false, show ((((6 : Nat) : Int)) == 3) = false from rfl, cond_false, show ((((6 : Nat) : Int)) == 4) = false from rfl, cond_false, show ((((6 : Nat) : Int)) == 5) = false from rfl, cond_false, show ((((6 : Nat) : Int)) == 6) = true from rfl, cond_true]
        rw [Option.bind_some, at_v, Option.bind_some, ld_v, Option.bind_some]
        cases s1 with
        | true =>
          rw [cond_true]
          have hre : ∃ c, remI a.v ((8 : Nat) : Int) = some c := ⟨_, rfl⟩
          obtain ⟨c, hc⟩ := hre
          rw [hc, Option.bind_some]
          exact undo_ok n m (s0 := s0) true i h (by omega) hm hj hws (keyS a true) c K
        | false =>
          rw [cond_false]
          exact undo_ok n m (s0 := s0) false i h (by omega) hm hj hws (keyS a false) a.v K
      · rw [show ((((7 : Nat) : Int)) == 0) = false from rfl, cond_false, show ((((7 : Nat) : Int)) == 1) = false from rfl, cond_false, show ((((7 : Nat) : Int)) == 2) = false from rfl, cond_false, show ((((7 : Nat) : Int)) == 3) = false from rfl, cond_false, show ((((7 : Nat) : Int)) == 4) = false from rfl, cond_false, show ((((7 : Nat) : Int)) == 5) = false from rfl, cond_false, show ((((7 : Nat) : Int)) == 6) = false from rfl, cond_false]
        exact done_ok n m (s0 := s0) s1 i h (by omega) hm (keyS a s1) K
    · have : i = xs.length := by omega
      subst this
      have hdt : decide ((xs.length : Int) < (xs.length : Int)) = false := decide_eq_false (by omega)
      rw [hdt, cond_false]
      exact ⟨_, rfl⟩
theorem rowsPlays (n : Nat) {s0 : VS} {xs : List Ac} (hs : IsE s0 (acs xs)) (hok : ∀ x ∈ xs, x.ok) (s1 : Bool) (H : VH) : ∃ H', vF P tab (n + 211) 6 [.sl 29 s0, .bool s1] H = some (.bool true, H') := by
  rw [vF_body rfl, f6_eq, callD_bool (e9 (n + 170) H), Option.bind_some]
  simp only [Bool.not_true, cond_false]
  rw [hs.len, acs_len]
  by_cases c1 : 100 < xs.length
  · have hdt : decide ((xs.length : Int) > 100) = true := decide_eq_true (by omega)
    rw [hdt, cond_true, callD_bool (e9 (n + 170) H), Option.bind_some]
    exact ⟨H, rfl⟩
  have hdt : decide ((xs.length : Int) > 100) = false := decide_eq_false (by omega)
  rw [hdt, cond_false]
  obtain ⟨H1, T1, a1, a2, a3, a4⟩ := I.e19 (n + 209) H
  rw [callD_ptr a1, Option.bind_some]
  simp only
  refine p60 n hs hok (by omega) s1 (n + 210) 0 (mp := []) (jr := []) (L := []) (ws := []) ⟨a2.kn (Kp.app _ _), ⟨.nil, .nil, by rw [List.getElem?_append_right (Nat.le_refl _), Nat.sub_self]; rfl, IsE.nil, [], IsE.nil, rfl, fun i w hw => by simp at hw⟩, fun hm => ?_, ⟨by simp [Nd], fun _ => rfl, .nil (by simp [Nd])⟩, fun y hy => by cases hy⟩ (Nat.le_refl _) (Nat.le_refl _) (fun w hw => by cases hw) (Nat.zero_le _) (by omega)
  have := a2.lt _ hm
  omega
theorem rowsPlays_law (us : List V) (h : HasAs P [22, 4] us) : ∃ n H', vF P tab n 6 us [] = some (.bool true, H') := by
  match us, h with
  | [u0, u1], ⟨h0, h1, _⟩ =>
    obtain ⟨s, l, rfl, i1, i2, _⟩ := acts_of h0
    obtain ⟨b, rfl⟩ := hasA_bool (by kernel_rfl) h1
    exact ⟨_, rowsPlays 0 i1 i2 b []⟩
end Go.Proofs.Ytlkpgimhcnmblaa
