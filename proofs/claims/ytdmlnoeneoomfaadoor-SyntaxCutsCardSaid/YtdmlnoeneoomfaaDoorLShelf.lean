
/-
  The contract of strings.Fields of the library's shelf, at this program (laid by the kit's tool, in plain words; its numbers are seat syntax's).
-/
import Derived.Shelf.Strings.Fields
import Derived.Test.YtdmlnoeneoomfaaDoorProg
namespace Go.Proofs
open Go.Shelf
def Tryd.lays157_ren : Go.Shelf.Ren := ⟨fun | 157 => 73 | 229 => 87 | 199 => 88 | 261 => 94 | 311 => 95 | 312 => 96 | n => n, fun | 9 => 9 | 31 => 44 | 3 => 3 | 5 => 5 | 4 => 4 | 119 => 138 | 0 => 0 | 40 => 140 | 152 => 144 | 21 => 21 | 154 => 146 | 51 => 147 | 141 => 149 | 196 => 153 | 193 => 150 | 198 => 155 | 49 => 65 | 194 => 151 | 201 => 158 | 226 => 160 | 46 => 161 | 227 => 162 | n => n, fun | 0 => 0 | 6 => 1 | n => n⟩
theorem Tryd.lays157 : Go.Proofs.Lays.n157 Tryd.prog Tryd.lays157_ren := {
  mixed := by kernel_rfl
  f157 := Tryd.func73.trans (congrArg some (by kernel_rfl))
  f199 := Tryd.func88.trans (congrArg some (by kernel_rfl))
  f229 := Tryd.func87.trans (congrArg some (by kernel_rfl))
  f261 := Tryd.func94.trans (congrArg some (by kernel_rfl))
  f311 := Tryd.func95.trans (congrArg some (by kernel_rfl))
  f312 := Tryd.func96.trans (congrArg some (by kernel_rfl))
  t0 := Tryd.underlying0
  a0 := Tryd.isAgg0
  z0 := Tryd.sizeOf0
  v0 := Tryd.zeroValue0
  t3 := Tryd.underlying3
  a3 := Tryd.isAgg3
  z3 := Tryd.sizeOf3
  v3 := Tryd.zeroValue3
  t4 := Tryd.underlying4
  a4 := Tryd.isAgg4
  z4 := Tryd.sizeOf4
  v4 := Tryd.zeroValue4
  t5 := Tryd.underlying5
  a5 := Tryd.isAgg5
  z5 := Tryd.sizeOf5
  v5 := Tryd.zeroValue5
  t9 := Tryd.underlying9
  a9 := Tryd.isAgg9
  z9 := Tryd.sizeOf9
  v9 := Tryd.zeroValue9
  t21 := Tryd.underlying21
  a21 := Tryd.isAgg21
  z21 := Tryd.sizeOf21
  v21 := Tryd.zeroValue21
  t31 := Tryd.underlying44
  a31 := Tryd.isAgg44
  z31 := Tryd.sizeOf44
  v31 := Tryd.zeroValue44
  t40 := Tryd.underlying140
  a40 := Tryd.isAgg140
  z40 := Tryd.sizeOf140
  v40 := Tryd.zeroValue140
  t46 := Tryd.underlying161
  a46 := Tryd.isAgg161
  z46 := Tryd.sizeOf161
  v46 := Tryd.zeroValue161
  t49 := Tryd.underlying65
  a49 := Tryd.isAgg65
  z49 := Tryd.sizeOf65
  v49 := Tryd.zeroValue65
  t51 := Tryd.underlying147
  a51 := Tryd.isAgg147
  z51 := Tryd.sizeOf147
  v51 := Tryd.zeroValue147
  t119 := Tryd.underlying138
  a119 := Tryd.isAgg138
  z119 := Tryd.sizeOf138
  t141 := Tryd.underlying149
  a141 := Tryd.isAgg149
  z141 := Tryd.sizeOf149
  v141 := Tryd.zeroValue149
  t152 := Tryd.underlying144
  a152 := Tryd.isAgg144
  z152 := Tryd.sizeOf144
  v152 := Tryd.zeroValue144
  t154 := Tryd.underlying146
  a154 := Tryd.isAgg146
  z154 := Tryd.sizeOf146
  v154 := Tryd.zeroValue146
  t193 := Tryd.underlying150
  a193 := Tryd.isAgg150
  z193 := Tryd.sizeOf150
  v193 := Tryd.zeroValue150
  t194 := Tryd.underlying151
  a194 := Tryd.isAgg151
  z194 := Tryd.sizeOf151
  v194 := Tryd.zeroValue151
  t196 := Tryd.underlying153
  a196 := Tryd.isAgg153
  z196 := Tryd.sizeOf153
  v196 := Tryd.zeroValue153
  t198 := Tryd.underlying155
  a198 := Tryd.isAgg155
  z198 := Tryd.sizeOf155
  v198 := Tryd.zeroValue155
  t201 := Tryd.underlying158
  a201 := Tryd.isAgg158
  z201 := Tryd.sizeOf158
  v201 := Tryd.zeroValue158
  t226 := Tryd.underlying160
  a226 := Tryd.isAgg160
  z226 := Tryd.sizeOf160
  v226 := Tryd.zeroValue160
  t227 := Tryd.underlying162
  a227 := Tryd.isAgg162
  z227 := Tryd.sizeOf162
  v227 := Tryd.zeroValue162
  g0 := by kernel_rfl
  g6 := by kernel_rfl }
open Go.RowKit Go.Lib in
/-- strings.Fields, the table by 'Lib.TabIs' (as strings.TrimSpace's contract). 'hg': the table's number, by its name: at a dump 'by kernel_rfl'. (LAID: no walk: one application.) -/
theorem Tryd.strings_Fields (s : ByteArray) (w : World) (hs : s.size < 4294967281) (hascii : ∀ (j : Nat) b, s.data.toList[j]? = some b → b.toNat < 128) (htab : Lib.TabIs Tryd.prog w "strings.asciiSpace" .u8 Lib.asciiSpaceTab) :
    Calls Tryd.prog 73 #[.string s] w fun e w' =>
      e = .returned (.slice (some ⟨w.heap.size, 0, none⟩) (Lib.fields s.data.toList).length (Lib.fields s.data.toList).length) ∧ w' = w.alloc (.cells ((Lib.fields s.data.toList).map fun l => Value.string ⟨l.toArray⟩).toArray 9) := Any.strings_Fields Tryd.lays157 (by kernel_rfl) (by kernel_rfl) s w hs hascii htab
end Go.Proofs
