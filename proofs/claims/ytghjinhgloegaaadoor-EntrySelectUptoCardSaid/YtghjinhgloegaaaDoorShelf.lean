/- Contracts of Go's library, laid at this translation by the shelf's own tool (its plain mode); cut to those that are used here. -/
import Derived.Shelf.Lay
import Derived.Shelf.Sort.Plain
import Derived.Shelf.Strings.Split
import Derived.Shelf.Slices.Clone
import Derived.Shelf.Slices.In.SortNone2
import Derived.Test.YtghjinhgloegaaaDoorProg
namespace Go.Proofs
open Go.Shelf
def YtghjinhgloegaaaDoor.lays192_ren : Go.Shelf.Ren := ⟨fun | 192 => 53 | 190 => 71 | 125 => 87 | 258 => 86 | 128 => 104 | 129 => 105 | 302 => 95 | 303 => 96 | 304 => 97 | 305 => 98 | 306 => 99 | 307 => 100 | 308 => 101 | 309 => 102 | 310 => 103 | 333 => 111 | 329 => 112 | 330 => 113 | 334 => 114 | 335 => 115 | 336 => 116 | 344 => 119 | n => n, fun | 31 => 22 | 0 => 0 | 9 => 9 | 3 => 3 | 46 => 110 | 51 => 125 | 53 => 127 | 4 => 4 | 183 => 119 | 182 => 118 | 131 => 79 | 5 => 5 | 218 => 129 | 222 => 133 | 228 => 141 | 229 => 142 | n => n, fun | n => n⟩
theorem YtghjinhgloegaaaDoor.lays192 : Go.Proofs.Lays.n192 Tryd.prog YtghjinhgloegaaaDoor.lays192_ren := {
  mixed := by kernel_rfl
  f125 := Tryd.func87.trans (congrArg some (by kernel_rfl))
  f128 := Tryd.func104.trans (congrArg some (by kernel_rfl))
  f129 := Tryd.func105.trans (congrArg some (by kernel_rfl))
  f190 := Tryd.func71.trans (congrArg some (by kernel_rfl))
  f192 := Tryd.func53.trans (congrArg some (by kernel_rfl))
  f258 := Tryd.func86.trans (congrArg some (by kernel_rfl))
  f302 := Tryd.func95.trans (congrArg some (by kernel_rfl))
  f303 := Tryd.func96.trans (congrArg some (by kernel_rfl))
  f304 := Tryd.func97.trans (congrArg some (by kernel_rfl))
  f305 := Tryd.func98.trans (congrArg some (by kernel_rfl))
  f306 := Tryd.func99.trans (congrArg some (by kernel_rfl))
  f307 := Tryd.func100.trans (congrArg some (by kernel_rfl))
  f308 := Tryd.func101.trans (congrArg some (by kernel_rfl))
  f309 := Tryd.func102.trans (congrArg some (by kernel_rfl))
  f310 := Tryd.func103.trans (congrArg some (by kernel_rfl))
  f329 := Tryd.func112.trans (congrArg some (by kernel_rfl))
  f330 := Tryd.func113.trans (congrArg some (by kernel_rfl))
  f333 := Tryd.func111.trans (congrArg some (by kernel_rfl))
  f334 := Tryd.func114.trans (congrArg some (by kernel_rfl))
  f335 := Tryd.func115.trans (congrArg some (by kernel_rfl))
  f336 := Tryd.func116.trans (congrArg some (by kernel_rfl))
  f344 := Tryd.func119.trans (congrArg some (by kernel_rfl))
  t0 := Tryd.underlying0
  a0 := Tryd.isAgg0
  z0 := Tryd.sizeOf0
  v0 := Tryd.zeroValue0
  t3 := Tryd.underlying3
  a3 := Tryd.isAgg3
  z3 := Tryd.sizeOf3
  v3 := Tryd.zeroValue3
  t4 := Tryd.underlying4
  a4 := Tryd.isAgg4
  z4 := Tryd.sizeOf4
  v4 := Tryd.zeroValue4
  t5 := Tryd.underlying5
  a5 := Tryd.isAgg5
  z5 := Tryd.sizeOf5
  v5 := Tryd.zeroValue5
  t9 := Tryd.underlying9
  a9 := Tryd.isAgg9
  z9 := Tryd.sizeOf9
  v9 := Tryd.zeroValue9
  t31 := Tryd.underlying22
  a31 := Tryd.isAgg22
  z31 := Tryd.sizeOf22
  v31 := Tryd.zeroValue22
  t46 := Tryd.underlying110
  a46 := Tryd.isAgg110
  z46 := Tryd.sizeOf110
  v46 := Tryd.zeroValue110
  t51 := Tryd.underlying125
  a51 := Tryd.isAgg125
  z51 := Tryd.sizeOf125
  v51 := Tryd.zeroValue125
  t53 := Tryd.underlying127
  a53 := Tryd.isAgg127
  z53 := Tryd.sizeOf127
  v53 := Tryd.zeroValue127
  t131 := Tryd.underlying79
  a131 := Tryd.isAgg79
  z131 := Tryd.sizeOf79
  v131 := Tryd.zeroValue79
  t182 := Tryd.underlying118
  a182 := Tryd.isAgg118
  z182 := Tryd.sizeOf118
  v182 := Tryd.zeroValue118
  t183 := Tryd.underlying119
  a183 := Tryd.isAgg119
  z183 := Tryd.sizeOf119
  v183 := Tryd.zeroValue119
  t218 := Tryd.underlying129
  a218 := Tryd.isAgg129
  z218 := Tryd.sizeOf129
  v218 := Tryd.zeroValue129
  t222 := Tryd.underlying133
  a222 := Tryd.isAgg133
  z222 := Tryd.sizeOf133
  v222 := Tryd.zeroValue133
  t228 := Tryd.underlying141
  a228 := Tryd.isAgg141
  z228 := Tryd.sizeOf141
  v228 := Tryd.zeroValue141
  t229 := Tryd.underlying142
  a229 := Tryd.isAgg142
  z229 := Tryd.sizeOf142
  v229 := Tryd.zeroValue142 }
open Go.Sort Go.RowKit in
theorem YtghjinhgloegaaaDoor.sort_Strings (blk off cap : Nat) (ss : List (List UInt8)) (w : World) (hH : Holds encStr w blk off ss.toArray) (hblk : blk < w.heap.size) (hsz : ss.length < 4611686018427387904) :
    Calls Tryd.prog 53 #[.slice (some ⟨blk, off, none⟩) ss.length cap] w fun e w' =>
      e = .returned (.tuple #[]) ∧ ∃ n os, w' = grow (putRow encStr (Sort.ahead w n) blk off (ss.mergeSort fun x y => decide (x ≤ y)).toArray) os := Any.sort_Strings YtghjinhgloegaaaDoor.lays192 blk off cap ss w hH hblk hsz
def YtghjinhgloegaaaDoor.lays146_ren : Go.Shelf.Ren := ⟨fun | 146 => 50 | 221 => 70 | 268 => 83 | 138 => 84 | 143 => 85 | 195 => 91 | 197 => 92 | 218 => 93 | 219 => 94 | 260 => 106 | 217 => 107 | 225 => 108 | 224 => 109 | 267 => 110 | 266 => 117 | 314 => 118 | n => n, fun | 9 => 9 | 31 => 22 | 3 => 3 | 4 => 4 | 0 => 0 | 105 => 114 | 21 => 21 | 5 => 5 | 46 => 110 | 119 => 135 | 139 => 138 | 138 => 137 | 146 => 139 | 51 => 125 | n => n, fun | 1 => 1 | 3 => 2 | 4 => 3 | n => n⟩
theorem YtghjinhgloegaaaDoor.lays146 : Go.Proofs.Lays.n146 Tryd.prog YtghjinhgloegaaaDoor.lays146_ren := {
  mixed := by kernel_rfl
  f138 := Tryd.func84.trans (congrArg some (by kernel_rfl))
  f143 := Tryd.func85.trans (congrArg some (by kernel_rfl))
  f146 := Tryd.func50.trans (congrArg some (by kernel_rfl))
  f195 := Tryd.func91.trans (congrArg some (by kernel_rfl))
  f197 := Tryd.func92.trans (congrArg some (by kernel_rfl))
  f217 := Tryd.func107.trans (congrArg some (by kernel_rfl))
  f218 := Tryd.func93.trans (congrArg some (by kernel_rfl))
  f219 := Tryd.func94.trans (congrArg some (by kernel_rfl))
  f221 := Tryd.func70.trans (congrArg some (by kernel_rfl))
  f224 := Tryd.func109.trans (congrArg some (by kernel_rfl))
  f225 := Tryd.func108.trans (congrArg some (by kernel_rfl))
  f260 := Tryd.func106.trans (congrArg some (by kernel_rfl))
  f266 := Tryd.func117.trans (congrArg some (by kernel_rfl))
  f267 := Tryd.func110.trans (congrArg some (by kernel_rfl))
  f268 := Tryd.func83.trans (congrArg some (by kernel_rfl))
  f314 := Tryd.func118.trans (congrArg some (by kernel_rfl))
  t0 := Tryd.underlying0
  a0 := Tryd.isAgg0
  z0 := Tryd.sizeOf0
  v0 := Tryd.zeroValue0
  t3 := Tryd.underlying3
  a3 := Tryd.isAgg3
  z3 := Tryd.sizeOf3
  v3 := Tryd.zeroValue3
  t4 := Tryd.underlying4
  a4 := Tryd.isAgg4
  z4 := Tryd.sizeOf4
  v4 := Tryd.zeroValue4
  t5 := Tryd.underlying5
  a5 := Tryd.isAgg5
  z5 := Tryd.sizeOf5
  v5 := Tryd.zeroValue5
  t9 := Tryd.underlying9
  a9 := Tryd.isAgg9
  z9 := Tryd.sizeOf9
  v9 := Tryd.zeroValue9
  t21 := Tryd.underlying21
  a21 := Tryd.isAgg21
  z21 := Tryd.sizeOf21
  v21 := Tryd.zeroValue21
  t31 := Tryd.underlying22
  a31 := Tryd.isAgg22
  z31 := Tryd.sizeOf22
  v31 := Tryd.zeroValue22
  t46 := Tryd.underlying110
  a46 := Tryd.isAgg110
  z46 := Tryd.sizeOf110
  v46 := Tryd.zeroValue110
  t51 := Tryd.underlying125
  a51 := Tryd.isAgg125
  z51 := Tryd.sizeOf125
  v51 := Tryd.zeroValue125
  t105 := Tryd.underlying114
  a105 := Tryd.isAgg114
  z105 := Tryd.sizeOf114
  v105 := Tryd.zeroValue114
  t119 := Tryd.underlying135
  a119 := Tryd.isAgg135
  z119 := Tryd.sizeOf135
  t138 := Tryd.underlying137
  a138 := Tryd.isAgg137
  z138 := Tryd.sizeOf137
  v138 := Tryd.zeroValue137
  t139 := Tryd.underlying138
  a139 := Tryd.isAgg138
  z139 := Tryd.sizeOf138
  v139 := Tryd.zeroValue138
  t146 := Tryd.underlying139
  a146 := Tryd.isAgg139
  z146 := Tryd.sizeOf139
  v146 := Tryd.zeroValue139
  g1 := by kernel_rfl
  g3 := by kernel_rfl
  g4 := by kernel_rfl }
open Go.RowKit Go.Lib in
theorem YtghjinhgloegaaaDoor.strings_Split (s sep : ByteArray) (m : Int) (w : World) (hs : s.size < 4294967281) (hm : w.cell? ⟨1, 0, none⟩ = some (.int .i64 m)) (h1 : 1 ≤ sep.size) :
    Calls Tryd.prog 50 #[.string s, .string sep] w fun e w' =>
      e = .returned (.slice (some ⟨w.heap.size, 0, none⟩) (Lib.countB s sep + 1) (Lib.countB s sep + 1)) ∧ w' = w.alloc (.cells ((Lib.splitB sep 0 (Lib.countB s sep) s).map Value.string).toArray 9) := Any.strings_Split YtghjinhgloegaaaDoor.lays146 (by kernel_rfl) s sep m w hs hm h1
def YtghjinhgloegaaaDoor.laysNm216_ren : Go.Shelf.Ren := ⟨fun | 16 => 32 | n => n, fun | 24 => 22 | 9 => 9 | 4 => 4 | n => n, fun | n => n⟩
theorem YtghjinhgloegaaaDoor.laysNm216 : Go.Proofs.Lays2.n16 Tryd.prog YtghjinhgloegaaaDoor.laysNm216_ren := {
  mixed := by kernel_rfl
  f16 := Tryd.func32.trans (congrArg some (by kernel_rfl))
  t4 := Tryd.underlying4
  a4 := Tryd.isAgg4
  z4 := Tryd.sizeOf4
  v4 := Tryd.zeroValue4
  t9 := Tryd.underlying9
  a9 := Tryd.isAgg9
  z9 := Tryd.sizeOf9
  v9 := Tryd.zeroValue9
  t24 := Tryd.underlying22
  a24 := Tryd.isAgg22
  z24 := Tryd.sizeOf22
  v24 := Tryd.zeroValue22
  i9 := by kernel_rfl }
open Go.RowKit Go.Lib in
theorem YtghjinhgloegaaaDoor.slices_Clone_string (b off n c : Nat) (zs : List ByteArray) (w : World) (hz : n ≤ zs.length) (hbig : n * 16 ≤ 140737488355328) (hc : ∀ j, j < zs.length → w.cell? ⟨b, off + j, none⟩ = some (.string (zs.getD j ByteArray.empty))) :
    Calls Tryd.prog 32 #[.slice (some ⟨b, off, none⟩) n c] w fun e w' => ∃ v', e = .returned v' ∧ w'.ownsRow w.heap.size 9 1 v' n ((zs.take n).map (Value.string)) ∧ v' ≠ .slice none 0 0 ∧ Below w.heap.size w w' := Any.slices_Clone_string YtghjinhgloegaaaDoor.laysNm216 b off n c zs w hz hbig hc
open Go.RowKit Go.Lib in
theorem YtghjinhgloegaaaDoor.slices_Clone_string_nil (n c : Nat) (w : World) :
    Calls Tryd.prog 32 #[.slice none n c] w fun e w' => e = .returned (.slice none 0 0) ∧ w' = w := Any.slices_Clone_string_nil YtghjinhgloegaaaDoor.laysNm216 n c w
open Go.RowKit Go.Lib in
theorem YtghjinhgloegaaaDoor.slices_Clone_string_zero (a : Addr) (c : Nat) (w : World) :
    Calls Tryd.prog 32 #[.slice (some a) 0 c] w fun e w' => ∃ v', e = .returned v' ∧ w'.ownsRow w.heap.size 9 1 v' 0 [] ∧ v' ≠ .slice none 0 0 ∧ Below w.heap.size w w' := Any.slices_Clone_string_zero YtghjinhgloegaaaDoor.laysNm216 a c w
open Go.RowKit Go.Sort in
theorem YtghjinhgloegaaaDoor.sort_Strings_none (p : Option Addr) (cap : Nat) (w : World) :
    Calls Tryd.prog 53 #[.slice p 0 cap] w fun e w' => e = .returned (.tuple #[]) ∧ w' = w := Any.sort_Strings_none YtghjinhgloegaaaDoor.lays192 p cap w
end Go.Proofs
