/-
 DERIVED: THE SHELF's CONTRACTS AT THIS DUMP, IN PLAIN WORDS (tools/lay-plain.mjs out of 'TryzShG.lean', which tools/lay-shelf.mjs wrote): THE SAME DECLARATIONS UNDER THE SAME NAMES: 'import', 'namespace', 'open', 'def', 'theorem' AND NOTHING ELSE: no command of the shelf's: FOR A HAND-IN. Each laying: the table of numbers ('.._ren') and one theorem, a field a fact of the dump's own or the kernel's comparison; each contract: ONE APPLICATION.
-/
import Derived.Shelf.SlGeneric
import Derived.Shelf.LaysM
import Derived.Shelf.Strings.SplitShaped
import Derived.Shelf.Strings.OnBuilder
import Derived.Shelf.Strings.BuilderK
import Derived.Shelf.Spec.SlicesGrow
import Derived.Ground.NamesProg
import Derived.Ground.SlsfProg
import Derived.Test.YtbfhebmdcpmfaaaGreatDoorProg
namespace Go.Proofs
open Go.Shelf
def Tryz.laysM157_ren:Go.Shelf.Ren:=⟨fun|157=>130|229=>138|199=>139|261=>140|311=>141|312=>142|n=>n,fun|9=>9|31=>22|3=>3|5=>5|4=>4|119=>181|0=>0|40=>183|152=>184|21=>21|154=>186|51=>187|141=>189|196=>193|193=>190|198=>196|49=>194|194=>191|201=>199|226=>201|46=>202|227=>203|n=>n,fun|0=>0|6=>2|n=>n⟩
theorem Tryz.laysM157:Go.Proofs.LaysM.n157 Tryz.prog Tryz.laysM157_ren:= {
 mixed:=by kernel_rfl
 f157:=Tryz.func130.trans (congrArg some (by kernel_rfl))
 f199:=Tryz.func139.trans (congrArg some (by kernel_rfl))
 f229:=Tryz.func138.trans (congrArg some (by kernel_rfl))
 f261:=Tryz.func140.trans (congrArg some (by kernel_rfl))
 f311:=Tryz.func141.trans (congrArg some (by kernel_rfl))
 f312:=Tryz.func142.trans (congrArg some (by kernel_rfl))
 t0:=Tryz.underlying0
 a0:=Tryz.isAgg0
 z0:=Tryz.sizeOf0
 v0:=Tryz.zeroValue0
 t3:=Tryz.underlying3
 a3:=Tryz.isAgg3
 z3:=Tryz.sizeOf3
 v3:=Tryz.zeroValue3
 t4:=Tryz.underlying4
 a4:=Tryz.isAgg4
 z4:=Tryz.sizeOf4
 v4:=Tryz.zeroValue4
 t5:=Tryz.underlying5
 a5:=Tryz.isAgg5
 z5:=Tryz.sizeOf5
 v5:=Tryz.zeroValue5
 t9:=Tryz.underlying9
 a9:=Tryz.isAgg9
 z9:=Tryz.sizeOf9
 v9:=Tryz.zeroValue9
 t21:=Tryz.underlying21
 a21:=Tryz.isAgg21
 z21:=Tryz.sizeOf21
 v21:=Tryz.zeroValue21
 t31:=Tryz.underlying22
 a31:=Tryz.isAgg22
 z31:=Tryz.sizeOf22
 v31:=Tryz.zeroValue22
 t40:=Tryz.underlying183
 a40:=Tryz.isAgg183
 z40:=Tryz.sizeOf183
 v40:=Tryz.zeroValue183
 t46:=Tryz.underlying202
 a46:=Tryz.isAgg202
 z46:=Tryz.sizeOf202
 v46:=Tryz.zeroValue202
 t49:=Tryz.underlying194
 a49:=Tryz.isAgg194
 z49:=Tryz.sizeOf194
 v49:=Tryz.zeroValue194
 t51:=Tryz.underlying187
 a51:=Tryz.isAgg187
 z51:=Tryz.sizeOf187
 v51:=Tryz.zeroValue187
 t119:=Tryz.underlying181
 a119:=Tryz.isAgg181
 z119:=Tryz.sizeOf181
 t141:=Tryz.underlying189
 a141:=Tryz.isAgg189
 z141:=Tryz.sizeOf189
 v141:=Tryz.zeroValue189
 t152:=Tryz.underlying184
 a152:=Tryz.isAgg184
 z152:=Tryz.sizeOf184
 v152:=Tryz.zeroValue184
 t154:=Tryz.underlying186
 a154:=Tryz.isAgg186
 z154:=Tryz.sizeOf186
 v154:=Tryz.zeroValue186
 t193:=Tryz.underlying190
 a193:=Tryz.isAgg190
 z193:=Tryz.sizeOf190
 v193:=Tryz.zeroValue190
 t194:=Tryz.underlying191
 a194:=Tryz.isAgg191
 z194:=Tryz.sizeOf191
 v194:=Tryz.zeroValue191
 t196:=Tryz.underlying193
 a196:=Tryz.isAgg193
 z196:=Tryz.sizeOf193
 v196:=Tryz.zeroValue193
 t198:=Tryz.underlying196
 a198:=Tryz.isAgg196
 z198:=Tryz.sizeOf196
 v198:=Tryz.zeroValue196
 t201:=Tryz.underlying199
 a201:=Tryz.isAgg199
 z201:=Tryz.sizeOf199
 v201:=Tryz.zeroValue199
 t226:=Tryz.underlying201
 a226:=Tryz.isAgg201
 z226:=Tryz.sizeOf201
 v226:=Tryz.zeroValue201
 t227:=Tryz.underlying203
 a227:=Tryz.isAgg203
 z227:=Tryz.sizeOf203
 v227:=Tryz.zeroValue203
 g0:=by kernel_rfl
 g6:=by kernel_rfl
 i0:=by kernel_rfl
 i3:=by kernel_rfl
 i4:=by kernel_rfl
 i5:=by kernel_rfl
 i9:=by kernel_rfl
 i21:=by kernel_rfl
 i31:=by kernel_rfl
 i40:=by kernel_rfl
 i46:=by kernel_rfl
 i49:=by kernel_rfl
 i51:=by kernel_rfl
 i141:=by kernel_rfl
 i152:=by kernel_rfl
 i154:=by kernel_rfl
 i193:=by kernel_rfl
 i194:=by kernel_rfl
 i196:=by kernel_rfl
 i198:=by kernel_rfl
 i201:=by kernel_rfl
 i226:=by kernel_rfl
 i227:=by kernel_rfl
 m0:=by kernel_rfl
 m6:=by kernel_rfl}
def Tryz.layGrow_ren:Go.Shelf.Ren:=⟨fun|4=>131|n=>n,fun|22=>22|25=>9|3=>3|4=>4|9=>9|20=>20|0=>0|n=>n,fun|n=>n⟩
theorem Tryz.layGrow:Go.Proofs.Lays8.n4 Tryz.prog Tryz.layGrow_ren:= {
 mixed:=by kernel_rfl
 f4:=⟨Tryz.f131.name,by decide,Tryz.func131.trans (congrArg some (by kernel_rfl))⟩
 t0:=Tryz.underlying0
 a0:=Tryz.isAgg0
 z0:=Tryz.sizeOf0
 v0:=Tryz.zeroValue0
 t3:=Tryz.underlying3
 a3:=Tryz.isAgg3
 z3:=Tryz.sizeOf3
 v3:=Tryz.zeroValue3
 t4:=Tryz.underlying4
 a4:=Tryz.isAgg4
 z4:=Tryz.sizeOf4
 v4:=Tryz.zeroValue4
 t9:=Tryz.underlying9
 a9:=Tryz.isAgg9
 z9:=Tryz.sizeOf9
 v9:=Tryz.zeroValue9
 t20:=Tryz.underlying20
 a20:=Tryz.isAgg20
 z20:=Tryz.sizeOf20
 v20:=Tryz.zeroValue20
 t22:=Tryz.underlying22
 a22:=Tryz.isAgg22
 z22:=Tryz.sizeOf22
 v22:=Tryz.zeroValue22}
end Go.Proofs
