/- Contracts and plain laws that the law ArborTrees needs, part 8. -/
import Derived.Test.YtkgcmgbndapjcaaZArborTrees7
import Derived.Shelf.Sort.Plain
import Derived.Test.YtkgcmgbndapjcaaChecked
namespace Go.Proofs
open Go.Shelf
def Try.lays189_ren : Go.Shelf.Ren := ⟨fun | 189 => 55 | 125 => 73 | 257 => 72 | 128 => 100 | 129 => 101 | 294 => 91 | 295 => 92 | 296 => 93 | 297 => 94 | 298 => 95 | 299 => 96 | 216 => 97 | 300 => 98 | 301 => 99 | 328 => 109 | 329 => 110 | 330 => 111 | 331 => 112 | 332 => 113 | 215 => 114 | 343 => 118 | n => n, fun | 28 => 27 | 3 => 3 | 46 => 99 | 0 => 0 | 51 => 125 | 53 => 127 | 4 => 4 | 183 => 118 | 182 => 117 | 131 => 104 | 5 => 5 | 9 => 9 | 218 => 137 | 222 => 141 | 228 => 148 | 229 => 149 | n => n, fun | n => n⟩
theorem Try.lays189 : Go.Proofs.Lays.n189 Try.prog Try.lays189_ren := {
  mixed := by kernel_rfl
  f125 := Try.func73.trans (congrArg some (by kernel_rfl))
  f128 := Try.func100.trans (congrArg some (by kernel_rfl))
  f129 := Try.func101.trans (congrArg some (by kernel_rfl))
  f189 := Try.func55.trans (congrArg some (by kernel_rfl))
  f215 := Try.func114.trans (congrArg some (by kernel_rfl))
  f216 := Try.func97.trans (congrArg some (by kernel_rfl))
  f257 := Try.func72.trans (congrArg some (by kernel_rfl))
  f294 := Try.func91.trans (congrArg some (by kernel_rfl))
  f295 := Try.func92.trans (congrArg some (by kernel_rfl))
  f296 := Try.func93.trans (congrArg some (by kernel_rfl))
  f297 := Try.func94.trans (congrArg some (by kernel_rfl))
  f298 := Try.func95.trans (congrArg some (by kernel_rfl))
  f299 := Try.func96.trans (congrArg some (by kernel_rfl))
  f300 := Try.func98.trans (congrArg some (by kernel_rfl))
  f301 := Try.func99.trans (congrArg some (by kernel_rfl))
  f328 := Try.func109.trans (congrArg some (by kernel_rfl))
  f329 := Try.func110.trans (congrArg some (by kernel_rfl))
  f330 := Try.func111.trans (congrArg some (by kernel_rfl))
  f331 := Try.func112.trans (congrArg some (by kernel_rfl))
  f332 := Try.func113.trans (congrArg some (by kernel_rfl))
  f343 := Try.func118.trans (congrArg some (by kernel_rfl))
  t0 := Try.underlying0
  a0 := Try.isAgg0
  z0 := Try.sizeOf0
  v0 := Try.zeroValue0
  t3 := Try.underlying3
  a3 := Try.isAgg3
  z3 := Try.sizeOf3
  v3 := Try.zeroValue3
  t4 := Try.underlying4
  a4 := Try.isAgg4
  z4 := Try.sizeOf4
  v4 := Try.zeroValue4
  t5 := Try.underlying5
  a5 := Try.isAgg5
  z5 := Try.sizeOf5
  v5 := Try.zeroValue5
  t9 := Try.underlying9
  a9 := Try.isAgg9
  z9 := Try.sizeOf9
  v9 := Try.zeroValue9
  t28 := Try.underlying27
  a28 := Try.isAgg27
  z28 := Try.sizeOf27
  v28 := Try.zeroValue27
  t46 := Try.underlying99
  a46 := Try.isAgg99
  z46 := Try.sizeOf99
  v46 := Try.zeroValue99
  t51 := Try.underlying125
  a51 := Try.isAgg125
  z51 := Try.sizeOf125
  v51 := Try.zeroValue125
  t53 := Try.underlying127
  a53 := Try.isAgg127
  z53 := Try.sizeOf127
  v53 := Try.zeroValue127
  t131 := Try.underlying104
  a131 := Try.isAgg104
  z131 := Try.sizeOf104
  v131 := Try.zeroValue104
  t182 := Try.underlying117
  a182 := Try.isAgg117
  z182 := Try.sizeOf117
  v182 := Try.zeroValue117
  t183 := Try.underlying118
  a183 := Try.isAgg118
  z183 := Try.sizeOf118
  v183 := Try.zeroValue118
  t218 := Try.underlying137
  a218 := Try.isAgg137
  z218 := Try.sizeOf137
  v218 := Try.zeroValue137
  t222 := Try.underlying141
  a222 := Try.isAgg141
  z222 := Try.sizeOf141
  v222 := Try.zeroValue141
  t228 := Try.underlying148
  a228 := Try.isAgg148
  z228 := Try.sizeOf148
  v228 := Try.zeroValue148
  t229 := Try.underlying149
  a229 := Try.isAgg149
  z229 := Try.sizeOf149
  v229 := Try.zeroValue149 }
end Go.Proofs
namespace Go.Am
open Go Go.Proofs
set_option linter.unusedVariables false
set_option linter.unusedSimpArgs false
variable {w0 : World}
attribute [local irreducible] AWP ACalls
attribute [local congr] acalls_congr
theorem sortC : SortC Try.prog 55 := fun blk off cap zs w h1 h2 h3 => Any.slices_Sort_int Try.lays189 blk off cap zs w h1 h2 h3
end Go.Am
namespace Go.Am
open Go Go.Proofs
set_option linter.unusedVariables false
set_option linter.unusedSimpArgs false
variable {w0 : World}
attribute [local irreducible] AWP ACalls
attribute [local congr] acalls_congr
theorem sort_callable : callable Try.prog 55 = true := by kernel_rfl
theorem sort_use {c : List Int} {m top : Nat} {H : Heap} {r : Nat} (hl : c.length = top) (hm : m ≤ top) (h0 : 0 < m) (hb : top ≤ 1099511627776) {K : AV → Heap → Prop}
    (k : ∀ s : List Int, s.length = top → s.take m = sortI (c.take m) → K (.tup []) (upd H r (some (.arr 1 3 (s.map I) top)))) :
    ACalls Try.prog w0 55 [.ref r 0 m top] (upd H r (some (.arr 1 3 (c.map I) top))) K := by
  have hsl : (sortI (c.take m)).length = m := by rw [sortI, List.length_mergeSort, List.length_take]; omega
  refine sort_acalls sortC sort_callable hl hm h0 (by omega) (upd_same _ _ _) ?_
  have := k (sortI (c.take m) ++ c.drop m) (by rw [List.length_append, hsl, List.length_drop]; omega) (by rw [List.take_append_of_le_length (by omega), List.take_of_length_le (by omega)])
  rw [upd_upd]
  exact this
theorem sort_none {r n : Nat} : Ret Try.prog w0 55 [.ref r 0 0 n] (.tup []) := by
  intro H
  refine ACalls.wks (args' := [.sl [] 0]) rfl (fun i a b h1 h2 => ?_) (sort_zero H)
  cases i with
  | zero =>
    simp at h1 h2
    subst h1; subst h2; exact wks_ref0
  | succ i => simp at h1
end Go.Am
