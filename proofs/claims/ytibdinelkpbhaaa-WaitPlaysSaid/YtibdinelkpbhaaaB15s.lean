import Derived.Test.YtibdinelkpbhaaaEq
import Derived.Shelf.SlIter.Nil
import Derived.Shelf.SortM.Plain
import Derived.Shelf.SortM.SortNone
set_option maxRecDepth 100000
set_option maxHeartbeats 0
set_option linter.unusedVariables false
set_option linter.unusedSimpArgs false
namespace Go.Proofs.Ytibdinelkpbhaaa
open Go.Proofs.Ytibdinelkpbhaaa.Sh Go.Proofs.Ytibdinelkpbhaaa.Sh.V Go.RowKit Go.Maps Go.Shelf
/-! ### slices.Sorted over maps.Keys: the kit's contracts, laid at this program -/
def keys51_ren : Go.Shelf.Ren := ⟨fun | 7 => 51 | 10 => 72 | n => n, fun | 23 => 55 | 26 => 9 | 3 => 59 | 28 => 94 | 0 => 0 | 27 => 93 | 33 => 114 | 4 => 4 | n => n, fun | n => n⟩
theorem keys51 : Go.Proofs.SlLaysZ.n7 Try.prog keys51_ren := {
  mixed := by kernel_rfl
  f7 := ⟨Try.f51.name, by decide, Try.func51.trans (congrArg some (by kernel_rfl))⟩
  f10 := ⟨Try.f72.name, by decide, Try.func72.trans (congrArg some (by kernel_rfl))⟩
  t0 := Try.underlying0
  a0 := Try.isAgg0
  z0 := Try.sizeOf0
  v0 := Try.zeroValue0
  t4 := Try.underlying4
  a4 := Try.isAgg4
  z4 := Try.sizeOf4
  v4 := Try.zeroValue4
  t23 := Try.underlying55
  a23 := Try.isAgg55
  z23 := Try.sizeOf55
  v23 := Try.zeroValue55
  t26 := Try.underlying9
  a26 := Try.isAgg9
  z26 := Try.sizeOf9
  v26 := Try.zeroValue9
  t27 := Try.underlying93
  a27 := Try.isAgg93
  z27 := Try.sizeOf93
  v27 := Try.zeroValue93
  t28 := Try.underlying94
  a28 := Try.isAgg94
  z28 := Try.sizeOf94
  v28 := Try.zeroValue94
  t33 := Try.underlying114
  a33 := Try.isAgg114
  z33 := Try.sizeOf114
  v33 := Try.zeroValue114 }
def sorted50_ren : Go.Shelf.Ren := ⟨fun | 6 => 50 | 8 => 70 | 9 => 71 | 11 => 81 | 13 => 49 | 12 => 82 | 23 => 68 | 24 => 69 | 14 => 85 | 15 => 86 | 16 => 87 | 17 => 88 | 18 => 89 | 19 => 90 | 20 => 91 | 21 => 92 | 22 => 93 | 25 => 94 | 26 => 76 | 27 => 77 | 28 => 95 | 29 => 96 | 30 => 97 | 31 => 98 | n => n, fun | 26 => 9 | 28 => 94 | 24 => 74 | 0 => 0 | 3 => 3 | 37 => 91 | 48 => 110 | 50 => 112 | 4 => 4 | 40 => 103 | 39 => 102 | 45 => 31 | 5 => 5 | 9 => 9 | 51 => 116 | 55 => 120 | 57 => 125 | 58 => 126 | 33 => 114 | n => n, fun | n => n⟩
theorem sorted50 : Go.Proofs.SlLaysZ.n6 Try.prog sorted50_ren := {
  mixed := by kernel_rfl
  f6 := ⟨Try.f50.name, by decide, Try.func50.trans (congrArg some (by kernel_rfl))⟩
  f8 := ⟨Try.f70.name, by decide, Try.func70.trans (congrArg some (by kernel_rfl))⟩
  f11 := ⟨Try.f81.name, by decide, Try.func81.trans (congrArg some (by kernel_rfl))⟩
  t0 := Try.underlying0
  a0 := Try.isAgg0
  z0 := Try.sizeOf0
  v0 := Try.zeroValue0
  t24 := Try.underlying74
  a24 := Try.isAgg74
  z24 := Try.sizeOf74
  v24 := Try.zeroValue74
  t26 := Try.underlying9
  a26 := Try.isAgg9
  z26 := Try.sizeOf9
  v26 := Try.zeroValue9
  t28 := Try.underlying94
  a28 := Try.isAgg94
  z28 := Try.sizeOf94
  v28 := Try.zeroValue94
  i26 := by kernel_rfl }
def sort71_ren : Go.Shelf.Ren := ⟨fun | 6 => 71 | 8 => 49 | 9 => 82 | 19 => 68 | 20 => 69 | 21 => 85 | 22 => 86 | 23 => 87 | 24 => 88 | 25 => 89 | 26 => 90 | 27 => 91 | 28 => 92 | 29 => 93 | 36 => 94 | 31 => 76 | 32 => 77 | 37 => 95 | 38 => 96 | 39 => 97 | 41 => 98 | n => n, fun | 27 => 74 | 29 => 9 | 3 => 3 | 32 => 91 | 26 => 74 | 0 => 0 | 44 => 110 | 46 => 112 | 4 => 4 | 36 => 103 | 35 => 102 | 41 => 31 | 5 => 5 | 9 => 9 | 53 => 116 | 57 => 120 | 63 => 125 | 64 => 126 | n => n, fun | n => n⟩
theorem sort71 : Go.Proofs.SlLaysM.n6 Try.prog sort71_ren := {
  mixed := by kernel_rfl
  f6 := ⟨Try.f71.name, by decide, Try.func71.trans (congrArg some (by kernel_rfl))⟩
  f8 := Try.func49.trans (congrArg some (by kernel_rfl))
  f9 := ⟨Try.f82.name, by decide, Try.func82.trans (congrArg some (by kernel_rfl))⟩
  f19 := Try.func68.trans (congrArg some (by kernel_rfl))
  f20 := Try.func69.trans (congrArg some (by kernel_rfl))
  f21 := ⟨Try.f85.name, by decide, Try.func85.trans (congrArg some (by kernel_rfl))⟩
  f22 := ⟨Try.f86.name, by decide, Try.func86.trans (congrArg some (by kernel_rfl))⟩
  f23 := ⟨Try.f87.name, by decide, Try.func87.trans (congrArg some (by kernel_rfl))⟩
  f24 := ⟨Try.f88.name, by decide, Try.func88.trans (congrArg some (by kernel_rfl))⟩
  f25 := ⟨Try.f89.name, by decide, Try.func89.trans (congrArg some (by kernel_rfl))⟩
  f26 := ⟨Try.f90.name, by decide, Try.func90.trans (congrArg some (by kernel_rfl))⟩
  f27 := ⟨Try.f91.name, by decide, Try.func91.trans (congrArg some (by kernel_rfl))⟩
  f28 := ⟨Try.f92.name, by decide, Try.func92.trans (congrArg some (by kernel_rfl))⟩
  f29 := ⟨Try.f93.name, by decide, Try.func93.trans (congrArg some (by kernel_rfl))⟩
  f31 := Try.func76.trans (congrArg some (by kernel_rfl))
  f32 := Try.func77.trans (congrArg some (by kernel_rfl))
  f36 := ⟨Try.f94.name, by decide, Try.func94.trans (congrArg some (by kernel_rfl))⟩
  f37 := ⟨Try.f95.name, by decide, Try.func95.trans (congrArg some (by kernel_rfl))⟩
  f38 := ⟨Try.f96.name, by decide, Try.func96.trans (congrArg some (by kernel_rfl))⟩
  f39 := ⟨Try.f97.name, by decide, Try.func97.trans (congrArg some (by kernel_rfl))⟩
  f41 := ⟨Try.f98.name, by decide, Try.func98.trans (congrArg some (by kernel_rfl))⟩
  t0 := Try.underlying0
  a0 := Try.isAgg0
  z0 := Try.sizeOf0
  v0 := Try.zeroValue0
  t3 := Try.underlying3
  a3 := Try.isAgg3
  z3 := Try.sizeOf3
  v3 := Try.zeroValue3
  t4 := Try.underlying4
  a4 := Try.isAgg4
  z4 := Try.sizeOf4
  v4 := Try.zeroValue4
  t5 := Try.underlying5
  a5 := Try.isAgg5
  z5 := Try.sizeOf5
  v5 := Try.zeroValue5
  t9 := Try.underlying9
  a9 := Try.isAgg9
  z9 := Try.sizeOf9
  v9 := Try.zeroValue9
  t26 := Try.underlying74
  a26 := Try.isAgg74
  z26 := Try.sizeOf74
  v26 := Try.zeroValue74
  t27 := Try.underlying74
  a27 := Try.isAgg74
  z27 := Try.sizeOf74
  v27 := Try.zeroValue74
  t29 := Try.underlying9
  a29 := Try.isAgg9
  z29 := Try.sizeOf9
  v29 := Try.zeroValue9
  t32 := Try.underlying91
  a32 := Try.isAgg91
  z32 := Try.sizeOf91
  v32 := Try.zeroValue91
  t35 := Try.underlying102
  a35 := Try.isAgg102
  z35 := Try.sizeOf102
  v35 := Try.zeroValue102
  t36 := Try.underlying103
  a36 := Try.isAgg103
  z36 := Try.sizeOf103
  v36 := Try.zeroValue103
  t41 := Try.underlying31
  a41 := Try.isAgg31
  z41 := Try.sizeOf31
  v41 := Try.zeroValue31
  t44 := Try.underlying110
  a44 := Try.isAgg110
  z44 := Try.sizeOf110
  v44 := Try.zeroValue110
  t46 := Try.underlying112
  a46 := Try.isAgg112
  z46 := Try.sizeOf112
  v46 := Try.zeroValue112
  t53 := Try.underlying116
  a53 := Try.isAgg116
  z53 := Try.sizeOf116
  v53 := Try.zeroValue116
  t57 := Try.underlying120
  a57 := Try.isAgg120
  z57 := Try.sizeOf120
  v57 := Try.zeroValue120
  t63 := Try.underlying125
  a63 := Try.isAgg125
  z63 := Try.sizeOf125
  v63 := Try.zeroValue125
  t64 := Try.underlying126
  a64 := Try.isAgg126
  z64 := Try.sizeOf126
  v64 := Try.zeroValue126 }
def sort31_ren : Go.Shelf.Ren := ⟨fun | 5 => 31 | 8 => 49 | 7 => 48 | 19 => 68 | 20 => 69 | 10 => 59 | 11 => 60 | 12 => 61 | 13 => 62 | 14 => 63 | 15 => 64 | 16 => 65 | 17 => 66 | 18 => 67 | 30 => 75 | 31 => 76 | 32 => 77 | 33 => 78 | 34 => 79 | 35 => 80 | 40 => 84 | n => n, fun | 23 => 29 | 25 => 3 | 3 => 3 | 32 => 91 | 22 => 29 | 0 => 0 | 44 => 110 | 46 => 112 | 4 => 4 | 36 => 103 | 35 => 102 | 41 => 31 | 5 => 5 | 9 => 9 | 53 => 116 | 57 => 120 | 63 => 125 | 64 => 126 | n => n, fun | n => n⟩
theorem sort31 : Go.Proofs.SlLaysM.n5 Try.prog sort31_ren := {
  mixed := by kernel_rfl
  f5 := ⟨Try.f31.name, by decide, Try.func31.trans (congrArg some (by kernel_rfl))⟩
  f7 := ⟨Try.f48.name, by decide, Try.func48.trans (congrArg some (by kernel_rfl))⟩
  f8 := Try.func49.trans (congrArg some (by kernel_rfl))
  f10 := ⟨Try.f59.name, by decide, Try.func59.trans (congrArg some (by kernel_rfl))⟩
  f11 := ⟨Try.f60.name, by decide, Try.func60.trans (congrArg some (by kernel_rfl))⟩
  f12 := ⟨Try.f61.name, by decide, Try.func61.trans (congrArg some (by kernel_rfl))⟩
  f13 := ⟨Try.f62.name, by decide, Try.func62.trans (congrArg some (by kernel_rfl))⟩
  f14 := ⟨Try.f63.name, by decide, Try.func63.trans (congrArg some (by kernel_rfl))⟩
  f15 := ⟨Try.f64.name, by decide, Try.func64.trans (congrArg some (by kernel_rfl))⟩
  f16 := ⟨Try.f65.name, by decide, Try.func65.trans (congrArg some (by kernel_rfl))⟩
  f17 := ⟨Try.f66.name, by decide, Try.func66.trans (congrArg some (by kernel_rfl))⟩
  f18 := ⟨Try.f67.name, by decide, Try.func67.trans (congrArg some (by kernel_rfl))⟩
  f19 := Try.func68.trans (congrArg some (by kernel_rfl))
  f20 := Try.func69.trans (congrArg some (by kernel_rfl))
  f30 := ⟨Try.f75.name, by decide, Try.func75.trans (congrArg some (by kernel_rfl))⟩
  f31 := Try.func76.trans (congrArg some (by kernel_rfl))
  f32 := Try.func77.trans (congrArg some (by kernel_rfl))
  f33 := ⟨Try.f78.name, by decide, Try.func78.trans (congrArg some (by kernel_rfl))⟩
  f34 := ⟨Try.f79.name, by decide, Try.func79.trans (congrArg some (by kernel_rfl))⟩
  f35 := ⟨Try.f80.name, by decide, Try.func80.trans (congrArg some (by kernel_rfl))⟩
  f40 := ⟨Try.f84.name, by decide, Try.func84.trans (congrArg some (by kernel_rfl))⟩
  t0 := Try.underlying0
  a0 := Try.isAgg0
  z0 := Try.sizeOf0
  v0 := Try.zeroValue0
  t3 := Try.underlying3
  a3 := Try.isAgg3
  z3 := Try.sizeOf3
  v3 := Try.zeroValue3
  t4 := Try.underlying4
  a4 := Try.isAgg4
  z4 := Try.sizeOf4
  v4 := Try.zeroValue4
  t5 := Try.underlying5
  a5 := Try.isAgg5
  z5 := Try.sizeOf5
  v5 := Try.zeroValue5
  t9 := Try.underlying9
  a9 := Try.isAgg9
  z9 := Try.sizeOf9
  v9 := Try.zeroValue9
  t22 := Try.underlying29
  a22 := Try.isAgg29
  z22 := Try.sizeOf29
  v22 := Try.zeroValue29
  t23 := Try.underlying29
  a23 := Try.isAgg29
  z23 := Try.sizeOf29
  v23 := Try.zeroValue29
  t25 := Try.underlying3
  a25 := Try.isAgg3
  z25 := Try.sizeOf3
  v25 := Try.zeroValue3
  t32 := Try.underlying91
  a32 := Try.isAgg91
  z32 := Try.sizeOf91
  v32 := Try.zeroValue91
  t35 := Try.underlying102
  a35 := Try.isAgg102
  z35 := Try.sizeOf102
  v35 := Try.zeroValue102
  t36 := Try.underlying103
  a36 := Try.isAgg103
  z36 := Try.sizeOf103
  v36 := Try.zeroValue103
  t41 := Try.underlying31
  a41 := Try.isAgg31
  z41 := Try.sizeOf31
  v41 := Try.zeroValue31
  t44 := Try.underlying110
  a44 := Try.isAgg110
  z44 := Try.sizeOf110
  v44 := Try.zeroValue110
  t46 := Try.underlying112
  a46 := Try.isAgg112
  z46 := Try.sizeOf112
  v46 := Try.zeroValue112
  t53 := Try.underlying116
  a53 := Try.isAgg116
  z53 := Try.sizeOf116
  v53 := Try.zeroValue116
  t57 := Try.underlying120
  a57 := Try.isAgg120
  z57 := Try.sizeOf120
  v57 := Try.zeroValue120
  t63 := Try.underlying125
  a63 := Try.isAgg125
  z63 := Try.sizeOf125
  v63 := Try.zeroValue125
  t64 := Try.underlying126
  a64 := Try.isAgg126
  z64 := Try.sizeOf126
  v64 := Try.zeroValue126 }
theorem srt51 : SrtOK Try.prog 50 72 9 := by
  have hsorts : ∀ m, AnyZ.SortsIn Try.prog sorted50_ren Fence.wide m := fun m =>
    ⟨fun blk off cap ss W hH hblk hsz => callsIn_wide.2 (AnyM.slices_Sort_string sort71 blk off cap ss W hH hblk hsz), fun p cap W => callsIn_wide.2 (AnyM.slices_Sort_string_none sort71 p cap W)⟩
  refine ⟨⟨_, _, Try.func50, rfl⟩, by kernel_rfl, by kernel_rfl, by decide, fun w gb b nn D0 hlt hcell hown hmax hbytes => ?_, fun w gb hlt hcell => ?_⟩
  · refine (callsIn_wide (n := 5)).1 ?_
    have hseq : SeqGives Fence.wide 2 Try.prog 72 #[.pointer (some ⟨gb, 0, none⟩)] encStr (fun ss => ss.Perm (strKeys D0)) (Maps.size D0) w :=
      AnyZ.keys_gives (ρ := keys51_ren) { keys51 with } Fence.wide _ trivial rfl (by omega) gb b nn D0 w hlt hcell hown
    exact AnyZ.sorted_in sorted50 Fence.wide 5 trivial trivial trivial trivial rfl (by omega) (hsorts _) (enters_of Try.func71 (by kernel_rfl) rfl) 72 #[.pointer (some ⟨gb, 0, none⟩)] trivial (enters_of Try.func72 (by kernel_rfl) rfl) _ _ hmax hbytes _ hseq
  · refine (callsIn_wide (n := 5)).1 ?_
    have hseq : SeqGives Fence.wide 2 Try.prog 72 #[.pointer (some ⟨gb, 0, none⟩)] encStr (fun ss : List (List UInt8) => ss = []) 0 w :=
      AnyZ.keys_gives_nil (ρ := keys51_ren) { keys51 with } Fence.wide _ trivial rfl gb w hlt hcell
    refine (AnyZ.sorted_in sorted50 Fence.wide 5 trivial trivial trivial trivial rfl (by omega) (hsorts _) (enters_of Try.func71 (by kernel_rfl) rfl) 72 #[.pointer (some ⟨gb, 0, none⟩)] trivial (enters_of Try.func72 (by kernel_rfl) rfl) _ 0 (Nat.zero_le _) (by omega) _ hseq).mono ?_
    rintro e w' ⟨v, ss, rfl, hss, _, hn, hb⟩
    exact ⟨by rw [hn.2 hss], hb⟩
theorem prim50 : PrimOK Try.prog 50 (sortedP [72] 9) := sorted_ok fun it h => by
  simp only [List.mem_cons, List.not_mem_nil, or_false] at h
  rcases h with rfl
  · exact srt51
theorem prim31 : PrimOK Try.prog 31 sortP := sortP_ok ⟨⟨_, _, Try.func31, rfl⟩, fun blk off cap zs w h1 h2 h3 => AnyM.slices_Sort_int sort31 blk off cap zs w h1 h2 h3, fun p cap w => AnyM.slices_Sort_int_none sort31 p cap w⟩
end Go.Proofs.Ytibdinelkpbhaaa
