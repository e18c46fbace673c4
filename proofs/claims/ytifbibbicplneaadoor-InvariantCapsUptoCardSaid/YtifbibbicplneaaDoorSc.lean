/-
 DERIVED: THE SHELF's CONTRACTS AT THIS DUMP, IN PLAIN WORDS (tools/lay-plain.mjs out of 'TrydSh.lean', which tools/lay-shelf.mjs wrote): THE SAME DECLARATIONS UNDER THE SAME NAMES: 'import', 'namespace', 'open', 'def', 'theorem' AND NOTHING ELSE: no command of the shelf's: FOR A HAND-IN. Each laying: the table of numbers ('.._ren') and one theorem, a field a fact of the dump's own or the kernel's comparison; each contract: ONE APPLICATION.
-/
import Derived.Shelf.SlGeneric
import Derived.Shelf.LaysM
import Derived.Shelf.Strings.SplitShaped
import Derived.Shelf.Strings.OnBuilder
import Derived.Shelf.Strings.BuilderK
import Derived.Shelf.Spec.SlicesGrow
import Derived.Ground.NamesProg
import Derived.Ground.SlsfProg
import Derived.Test.YtifbibbicplneaaDoorProg
namespace Go.Proofs
open Go.Shelf
def Tryd.laysM157_ren:Go.Shelf.Ren:=⟨fun|157=>93|229=>99|199=>100|261=>101|311=>102|312=>103|n=>n,fun|9=>9|31=>22|3=>3|5=>5|4=>4|119=>161|0=>0|40=>163|152=>164|21=>21|154=>166|51=>167|141=>169|196=>173|193=>170|198=>176|49=>174|194=>171|201=>179|226=>181|46=>182|227=>183|n=>n,fun|0=>0|6=>2|n=>n⟩
theorem Tryd.laysM157:Go.Proofs.LaysM.n157 Tryd.prog Tryd.laysM157_ren:= {
 mixed:=by kernel_rfl
 f157:=Tryd.func93.trans (congrArg some (by kernel_rfl))
 f199:=Tryd.func100.trans (congrArg some (by kernel_rfl))
 f229:=Tryd.func99.trans (congrArg some (by kernel_rfl))
 f261:=Tryd.func101.trans (congrArg some (by kernel_rfl))
 f311:=Tryd.func102.trans (congrArg some (by kernel_rfl))
 f312:=Tryd.func103.trans (congrArg some (by kernel_rfl))
 t0:=Tryd.underlying0
 a0:=Tryd.isAgg0
 z0:=Tryd.sizeOf0
 v0:=Tryd.zeroValue0
 t3:=Tryd.underlying3
 a3:=Tryd.isAgg3
 z3:=Tryd.sizeOf3
 v3:=Tryd.zeroValue3
 t4:=Tryd.underlying4
 a4:=Tryd.isAgg4
 z4:=Tryd.sizeOf4
 v4:=Tryd.zeroValue4
 t5:=Tryd.underlying5
 a5:=Tryd.isAgg5
 z5:=Tryd.sizeOf5
 v5:=Tryd.zeroValue5
 t9:=Tryd.underlying9
 a9:=Tryd.isAgg9
 z9:=Tryd.sizeOf9
 v9:=Tryd.zeroValue9
 t21:=Tryd.underlying21
 a21:=Tryd.isAgg21
 z21:=Tryd.sizeOf21
 v21:=Tryd.zeroValue21
 t31:=Tryd.underlying22
 a31:=Tryd.isAgg22
 z31:=Tryd.sizeOf22
 v31:=Tryd.zeroValue22
 t40:=Tryd.underlying163
 a40:=Tryd.isAgg163
 z40:=Tryd.sizeOf163
 v40:=Tryd.zeroValue163
 t46:=Tryd.underlying182
 a46:=Tryd.isAgg182
 z46:=Tryd.sizeOf182
 v46:=Tryd.zeroValue182
 t49:=Tryd.underlying174
 a49:=Tryd.isAgg174
 z49:=Tryd.sizeOf174
 v49:=Tryd.zeroValue174
 t51:=Tryd.underlying167
 a51:=Tryd.isAgg167
 z51:=Tryd.sizeOf167
 v51:=Tryd.zeroValue167
 t119:=Tryd.underlying161
 a119:=Tryd.isAgg161
 z119:=Tryd.sizeOf161
 t141:=Tryd.underlying169
 a141:=Tryd.isAgg169
 z141:=Tryd.sizeOf169
 v141:=Tryd.zeroValue169
 t152:=Tryd.underlying164
 a152:=Tryd.isAgg164
 z152:=Tryd.sizeOf164
 v152:=Tryd.zeroValue164
 t154:=Tryd.underlying166
 a154:=Tryd.isAgg166
 z154:=Tryd.sizeOf166
 v154:=Tryd.zeroValue166
 t193:=Tryd.underlying170
 a193:=Tryd.isAgg170
 z193:=Tryd.sizeOf170
 v193:=Tryd.zeroValue170
 t194:=Tryd.underlying171
 a194:=Tryd.isAgg171
 z194:=Tryd.sizeOf171
 v194:=Tryd.zeroValue171
 t196:=Tryd.underlying173
 a196:=Tryd.isAgg173
 z196:=Tryd.sizeOf173
 v196:=Tryd.zeroValue173
 t198:=Tryd.underlying176
 a198:=Tryd.isAgg176
 z198:=Tryd.sizeOf176
 v198:=Tryd.zeroValue176
 t201:=Tryd.underlying179
 a201:=Tryd.isAgg179
 z201:=Tryd.sizeOf179
 v201:=Tryd.zeroValue179
 t226:=Tryd.underlying181
 a226:=Tryd.isAgg181
 z226:=Tryd.sizeOf181
 v226:=Tryd.zeroValue181
 t227:=Tryd.underlying183
 a227:=Tryd.isAgg183
 z227:=Tryd.sizeOf183
 v227:=Tryd.zeroValue183
 g0:=by kernel_rfl
 g6:=by kernel_rfl
 i0:=by kernel_rfl
 i3:=by kernel_rfl
 i4:=by kernel_rfl
 i5:=by kernel_rfl
 i9:=by kernel_rfl
 i21:=by kernel_rfl
 i31:=by kernel_rfl
 i40:=by kernel_rfl
 i46:=by kernel_rfl
 i49:=by kernel_rfl
 i51:=by kernel_rfl
 i141:=by kernel_rfl
 i152:=by kernel_rfl
 i154:=by kernel_rfl
 i193:=by kernel_rfl
 i194:=by kernel_rfl
 i196:=by kernel_rfl
 i198:=by kernel_rfl
 i201:=by kernel_rfl
 i226:=by kernel_rfl
 i227:=by kernel_rfl
 m0:=by kernel_rfl
 m6:=by kernel_rfl}
def Tryd.layGrow_ren:Go.Shelf.Ren:=⟨fun|4=>95|n=>n,fun|22=>22|25=>9|3=>3|4=>4|9=>9|20=>20|0=>0|n=>n,fun|n=>n⟩
theorem Tryd.layGrow:Go.Proofs.Lays8.n4 Tryd.prog Tryd.layGrow_ren:= {
 mixed:=by kernel_rfl
 f4:=⟨Tryd.f95.name,by decide,Tryd.func95.trans (congrArg some (by kernel_rfl))⟩
 t0:=Tryd.underlying0
 a0:=Tryd.isAgg0
 z0:=Tryd.sizeOf0
 v0:=Tryd.zeroValue0
 t3:=Tryd.underlying3
 a3:=Tryd.isAgg3
 z3:=Tryd.sizeOf3
 v3:=Tryd.zeroValue3
 t4:=Tryd.underlying4
 a4:=Tryd.isAgg4
 z4:=Tryd.sizeOf4
 v4:=Tryd.zeroValue4
 t9:=Tryd.underlying9
 a9:=Tryd.isAgg9
 z9:=Tryd.sizeOf9
 v9:=Tryd.zeroValue9
 t20:=Tryd.underlying20
 a20:=Tryd.isAgg20
 z20:=Tryd.sizeOf20
 v20:=Tryd.zeroValue20
 t22:=Tryd.underlying22
 a22:=Tryd.isAgg22
 z22:=Tryd.sizeOf22
 v22:=Tryd.zeroValue22}
end Go.Proofs
