/- The library's contract of strings.Trim at an ASCII cutset, laid at this program by the kit's tool, in plain words. -/
import Derived.Shelf.Strings.SlTrimAscii
import Derived.Test.YtdkhldebnpmiiaaGreatDoorProg
namespace Go.Proofs
open Go.Shelf
def Tryz.lays160_ren : Go.Shelf.Ren := ⟨fun | 160 => 170 | 232 => 176 | 231 => 175 | 227 => 177 | 234 => 179 | 233 => 178 | 236 => 181 | 235 => 180 | 228 => 184 | 271 => 187 | 151 => 186 | 197 => 185 | 120 => 190 | 152 => 189 | 260 => 188 | 137 => 191 | 119 => 192 | 224 => 193 | 225 => 194 | 217 => 195 | 266 => 196 | n => n, fun | 9 => 9 | 4 => 4 | 3 => 3 | 5 => 5 | 117 => 156 | 116 => 155 | 0 => 0 | 124 => 159 | 21 => 21 | 105 => 161 | 46 => 127 | 119 => 165 | 139 => 168 | 138 => 167 | n => n, fun | 3 => 0 | 4 => 1 | n => n⟩
theorem Tryz.lays160 : Go.Proofs.Lays.n160 Tryz.prog Tryz.lays160_ren := {
  mixed := by kernel_rfl
  f119 := Tryz.func192.trans (congrArg some (by kernel_rfl))
  f120 := Tryz.func190.trans (congrArg some (by kernel_rfl))
  f137 := Tryz.func191.trans (congrArg some (by kernel_rfl))
  f151 := Tryz.func186.trans (congrArg some (by kernel_rfl))
  f152 := Tryz.func189.trans (congrArg some (by kernel_rfl))
  f160 := Tryz.func170.trans (congrArg some (by kernel_rfl))
  f197 := Tryz.func185.trans (congrArg some (by kernel_rfl))
  f217 := Tryz.func195.trans (congrArg some (by kernel_rfl))
  f224 := Tryz.func193.trans (congrArg some (by kernel_rfl))
  f225 := Tryz.func194.trans (congrArg some (by kernel_rfl))
  f227 := Tryz.func177.trans (congrArg some (by kernel_rfl))
  f228 := Tryz.func184.trans (congrArg some (by kernel_rfl))
  f231 := Tryz.func175.trans (congrArg some (by kernel_rfl))
  f232 := Tryz.func176.trans (congrArg some (by kernel_rfl))
  f233 := Tryz.func178.trans (congrArg some (by kernel_rfl))
  f234 := Tryz.func179.trans (congrArg some (by kernel_rfl))
  f235 := Tryz.func180.trans (congrArg some (by kernel_rfl))
  f236 := Tryz.func181.trans (congrArg some (by kernel_rfl))
  f260 := Tryz.func188.trans (congrArg some (by kernel_rfl))
  f266 := Tryz.func196.trans (congrArg some (by kernel_rfl))
  f271 := Tryz.func187.trans (congrArg some (by kernel_rfl))
  t0 := Tryz.underlying0
  a0 := Tryz.isAgg0
  z0 := Tryz.sizeOf0
  v0 := Tryz.zeroValue0
  t3 := Tryz.underlying3
  a3 := Tryz.isAgg3
  z3 := Tryz.sizeOf3
  v3 := Tryz.zeroValue3
  t4 := Tryz.underlying4
  a4 := Tryz.isAgg4
  z4 := Tryz.sizeOf4
  v4 := Tryz.zeroValue4
  t5 := Tryz.underlying5
  a5 := Tryz.isAgg5
  z5 := Tryz.sizeOf5
  v5 := Tryz.zeroValue5
  t9 := Tryz.underlying9
  a9 := Tryz.isAgg9
  z9 := Tryz.sizeOf9
  v9 := Tryz.zeroValue9
  t21 := Tryz.underlying21
  a21 := Tryz.isAgg21
  z21 := Tryz.sizeOf21
  v21 := Tryz.zeroValue21
  t46 := Tryz.underlying127
  a46 := Tryz.isAgg127
  z46 := Tryz.sizeOf127
  v46 := Tryz.zeroValue127
  t105 := Tryz.underlying161
  a105 := Tryz.isAgg161
  z105 := Tryz.sizeOf161
  v105 := Tryz.zeroValue161
  t116 := Tryz.underlying155
  a116 := Tryz.isAgg155
  z116 := Tryz.sizeOf155
  t117 := Tryz.underlying156
  a117 := Tryz.isAgg156
  z117 := Tryz.sizeOf156
  v117 := Tryz.zeroValue156
  t119 := Tryz.underlying165
  a119 := Tryz.isAgg165
  z119 := Tryz.sizeOf165
  t124 := Tryz.underlying159
  a124 := Tryz.isAgg159
  z124 := Tryz.sizeOf159
  v124 := Tryz.zeroValue159
  t138 := Tryz.underlying167
  a138 := Tryz.isAgg167
  z138 := Tryz.sizeOf167
  v138 := Tryz.zeroValue167
  t139 := Tryz.underlying168
  a139 := Tryz.isAgg168
  z139 := Tryz.sizeOf168
  v139 := Tryz.zeroValue168
  g3 := by kernel_rfl
  g4 := by kernel_rfl }
open Go.RowKit in
/-- strings.Trim at an ASCII cutset -/
theorem Tryz.strings_Trim_set (s cutset : ByteArray) (w : World) (hs : s.size ≤ 9223372036854775807) (hcs : cutset.size < 4294967281) (hascii : ∀ (j : Nat) b, cutset.data.toList[j]? = some b → b.toNat < 128) :
    Calls Tryz.prog 170 #[.string s, .string cutset] w fun e w' => e = .returned (.string ⟨(Lib.trimS s.data.toList cutset.data.toList).toArray⟩) ∧ Below w.heap.size w w' := Any.strings_Trim_laid Tryz.lays160 (by kernel_rfl) s cutset w hs hcs hascii
end Go.Proofs
