/- The contract of slices.Sort at this translation, written by the tool of the kit out of a proved one. -/
import Derived.Test.YtiepdioaidglmaaGreatDoorShelf
import Derived.Shelf.Sort.Plain
namespace Go.Proofs
open Go.Shelf
def Tryz.lays190_ren : Go.Shelf.Ren := ⟨fun | 190 => 76 | 125 => 88 | 258 => 87 | 128 => 105 | 129 => 106 | 302 => 96 | 303 => 97 | 304 => 98 | 305 => 99 | 306 => 100 | 307 => 101 | 308 => 102 | 309 => 103 | 310 => 104 | 333 => 112 | 329 => 113 | 330 => 114 | 334 => 115 | 335 => 116 | 336 => 117 | 344 => 122 | n => n, fun | 31 => 31 | 9 => 9 | 3 => 3 | 46 => 119 | 0 => 0 | 51 => 136 | 53 => 139 | 4 => 4 | 183 => 145 | 182 => 144 | 131 => 97 | 5 => 5 | 218 => 157 | 222 => 161 | 228 => 167 | 229 => 168 | n => n, fun | n => n⟩
theorem Tryz.lays190 : Go.Proofs.Lays.n190 Tryz.prog Tryz.lays190_ren := {
  mixed := by kernel_rfl
  f125 := Tryz.func88.trans (congrArg some (by kernel_rfl))
  f128 := Tryz.func105.trans (congrArg some (by kernel_rfl))
  f129 := Tryz.func106.trans (congrArg some (by kernel_rfl))
  f190 := Tryz.func76.trans (congrArg some (by kernel_rfl))
  f258 := Tryz.func87.trans (congrArg some (by kernel_rfl))
  f302 := Tryz.func96.trans (congrArg some (by kernel_rfl))
  f303 := Tryz.func97.trans (congrArg some (by kernel_rfl))
  f304 := Tryz.func98.trans (congrArg some (by kernel_rfl))
  f305 := Tryz.func99.trans (congrArg some (by kernel_rfl))
  f306 := Tryz.func100.trans (congrArg some (by kernel_rfl))
  f307 := Tryz.func101.trans (congrArg some (by kernel_rfl))
  f308 := Tryz.func102.trans (congrArg some (by kernel_rfl))
  f309 := Tryz.func103.trans (congrArg some (by kernel_rfl))
  f310 := Tryz.func104.trans (congrArg some (by kernel_rfl))
  f329 := Tryz.func113.trans (congrArg some (by kernel_rfl))
  f330 := Tryz.func114.trans (congrArg some (by kernel_rfl))
  f333 := Tryz.func112.trans (congrArg some (by kernel_rfl))
  f334 := Tryz.func115.trans (congrArg some (by kernel_rfl))
  f335 := Tryz.func116.trans (congrArg some (by kernel_rfl))
  f336 := Tryz.func117.trans (congrArg some (by kernel_rfl))
  f344 := Tryz.func122.trans (congrArg some (by kernel_rfl))
  t0 := Tryz.underlying0
  a0 := Tryz.isAgg0
  z0 := Tryz.sizeOf0
  v0 := Tryz.zeroValue0
  t3 := Tryz.underlying3
  a3 := Tryz.isAgg3
  z3 := Tryz.sizeOf3
  v3 := Tryz.zeroValue3
  t4 := Tryz.underlying4
  a4 := Tryz.isAgg4
  z4 := Tryz.sizeOf4
  v4 := Tryz.zeroValue4
  t5 := Tryz.underlying5
  a5 := Tryz.isAgg5
  z5 := Tryz.sizeOf5
  v5 := Tryz.zeroValue5
  t9 := Tryz.underlying9
  a9 := Tryz.isAgg9
  z9 := Tryz.sizeOf9
  v9 := Tryz.zeroValue9
  t31 := Tryz.underlying31
  a31 := Tryz.isAgg31
  z31 := Tryz.sizeOf31
  v31 := Tryz.zeroValue31
  t46 := Tryz.underlying119
  a46 := Tryz.isAgg119
  z46 := Tryz.sizeOf119
  v46 := Tryz.zeroValue119
  t51 := Tryz.underlying136
  a51 := Tryz.isAgg136
  z51 := Tryz.sizeOf136
  v51 := Tryz.zeroValue136
  t53 := Tryz.underlying139
  a53 := Tryz.isAgg139
  z53 := Tryz.sizeOf139
  v53 := Tryz.zeroValue139
  t131 := Tryz.underlying97
  a131 := Tryz.isAgg97
  z131 := Tryz.sizeOf97
  v131 := Tryz.zeroValue97
  t182 := Tryz.underlying144
  a182 := Tryz.isAgg144
  z182 := Tryz.sizeOf144
  v182 := Tryz.zeroValue144
  t183 := Tryz.underlying145
  a183 := Tryz.isAgg145
  z183 := Tryz.sizeOf145
  v183 := Tryz.zeroValue145
  t218 := Tryz.underlying157
  a218 := Tryz.isAgg157
  z218 := Tryz.sizeOf157
  v218 := Tryz.zeroValue157
  t222 := Tryz.underlying161
  a222 := Tryz.isAgg161
  z222 := Tryz.sizeOf161
  v222 := Tryz.zeroValue161
  t228 := Tryz.underlying167
  a228 := Tryz.isAgg167
  z228 := Tryz.sizeOf167
  v228 := Tryz.zeroValue167
  t229 := Tryz.underlying168
  a229 := Tryz.isAgg168
  z229 := Tryz.sizeOf168
  v229 := Tryz.zeroValue168 }
open Go.Sort Go.RowKit in
theorem Tryz.slices_Sort_string (blk off cap : Nat) (ss : List (List UInt8)) (w : World) (hH : Holds encStr w blk off ss.toArray) (hblk : blk < w.heap.size) (hsz : ss.length < 4611686018427387904) :
    Calls Tryz.prog 76 #[.slice (some ⟨blk, off, none⟩) ss.length cap] w fun e w' =>
      e = .returned (.tuple #[]) ∧ ∃ n os, w' = grow (putRow encStr (Sort.ahead w n) blk off (ss.mergeSort fun x y => decide (x ≤ y)).toArray) os := Any.slices_Sort_string Tryz.lays190 blk off cap ss w hH hblk hsz
end Go.Proofs
