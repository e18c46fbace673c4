/-
 DERIVED: THE SHELF's CONTRACTS AT THIS DUMP, IN PLAIN WORDS (tools/lay-plain.mjs out of 'TryzSh.lean', which tools/lay-shelf.mjs wrote): THE SAME DECLARATIONS UNDER THE SAME NAMES: 'import', 'namespace', 'open', 'def', 'theorem' AND NOTHING ELSE: no command of the shelf's: FOR A HAND-IN. Each laying: the table of numbers ('.._ren') and one theorem, a field a fact of the dump's own or the kernel's comparison; each contract: ONE APPLICATION.
-/
import Derived.Shelf.SlGeneric
import Derived.Shelf.LaysM
import Derived.Shelf.Strings.SplitShaped
import Derived.Shelf.Strings.OnBuilder
import Derived.Shelf.Strings.BuilderK
import Derived.Shelf.Spec.SlicesGrow
import Derived.Ground.NamesProg
import Derived.Ground.SlsfProg
import Derived.Test.YtifbibbicplneaaGreatDoorProg
namespace Go.Proofs
open Go.Shelf
def Tryz.laysM157_ren:Go.Shelf.Ren:=⟨fun|157=>182|229=>190|199=>191|261=>194|311=>195|312=>196|n=>n,fun|9=>9|31=>22|3=>3|5=>5|4=>4|119=>217|0=>0|40=>219|152=>222|21=>21|154=>224|51=>225|141=>227|196=>231|193=>228|198=>234|49=>232|194=>229|201=>237|226=>239|46=>75|227=>240|n=>n,fun|0=>0|6=>1|n=>n⟩
theorem Tryz.laysM157:Go.Proofs.LaysM.n157 Tryz.prog Tryz.laysM157_ren:= {
 mixed:=by kernel_rfl
 f157:=Tryz.func182.trans (congrArg some (by kernel_rfl))
 f199:=Tryz.func191.trans (congrArg some (by kernel_rfl))
 f229:=Tryz.func190.trans (congrArg some (by kernel_rfl))
 f261:=Tryz.func194.trans (congrArg some (by kernel_rfl))
 f311:=Tryz.func195.trans (congrArg some (by kernel_rfl))
 f312:=Tryz.func196.trans (congrArg some (by kernel_rfl))
 t0:=Tryz.underlying0
 a0:=Tryz.isAgg0
 z0:=Tryz.sizeOf0
 v0:=Tryz.zeroValue0
 t3:=Tryz.underlying3
 a3:=Tryz.isAgg3
 z3:=Tryz.sizeOf3
 v3:=Tryz.zeroValue3
 t4:=Tryz.underlying4
 a4:=Tryz.isAgg4
 z4:=Tryz.sizeOf4
 v4:=Tryz.zeroValue4
 t5:=Tryz.underlying5
 a5:=Tryz.isAgg5
 z5:=Tryz.sizeOf5
 v5:=Tryz.zeroValue5
 t9:=Tryz.underlying9
 a9:=Tryz.isAgg9
 z9:=Tryz.sizeOf9
 v9:=Tryz.zeroValue9
 t21:=Tryz.underlying21
 a21:=Tryz.isAgg21
 z21:=Tryz.sizeOf21
 v21:=Tryz.zeroValue21
 t31:=Tryz.underlying22
 a31:=Tryz.isAgg22
 z31:=Tryz.sizeOf22
 v31:=Tryz.zeroValue22
 t40:=Tryz.underlying219
 a40:=Tryz.isAgg219
 z40:=Tryz.sizeOf219
 v40:=Tryz.zeroValue219
 t46:=Tryz.underlying75
 a46:=Tryz.isAgg75
 z46:=Tryz.sizeOf75
 v46:=Tryz.zeroValue75
 t49:=Tryz.underlying232
 a49:=Tryz.isAgg232
 z49:=Tryz.sizeOf232
 v49:=Tryz.zeroValue232
 t51:=Tryz.underlying225
 a51:=Tryz.isAgg225
 z51:=Tryz.sizeOf225
 v51:=Tryz.zeroValue225
 t119:=Tryz.underlying217
 a119:=Tryz.isAgg217
 z119:=Tryz.sizeOf217
 t141:=Tryz.underlying227
 a141:=Tryz.isAgg227
 z141:=Tryz.sizeOf227
 v141:=Tryz.zeroValue227
 t152:=Tryz.underlying222
 a152:=Tryz.isAgg222
 z152:=Tryz.sizeOf222
 v152:=Tryz.zeroValue222
 t154:=Tryz.underlying224
 a154:=Tryz.isAgg224
 z154:=Tryz.sizeOf224
 v154:=Tryz.zeroValue224
 t193:=Tryz.underlying228
 a193:=Tryz.isAgg228
 z193:=Tryz.sizeOf228
 v193:=Tryz.zeroValue228
 t194:=Tryz.underlying229
 a194:=Tryz.isAgg229
 z194:=Tryz.sizeOf229
 v194:=Tryz.zeroValue229
 t196:=Tryz.underlying231
 a196:=Tryz.isAgg231
 z196:=Tryz.sizeOf231
 v196:=Tryz.zeroValue231
 t198:=Tryz.underlying234
 a198:=Tryz.isAgg234
 z198:=Tryz.sizeOf234
 v198:=Tryz.zeroValue234
 t201:=Tryz.underlying237
 a201:=Tryz.isAgg237
 z201:=Tryz.sizeOf237
 v201:=Tryz.zeroValue237
 t226:=Tryz.underlying239
 a226:=Tryz.isAgg239
 z226:=Tryz.sizeOf239
 v226:=Tryz.zeroValue239
 t227:=Tryz.underlying240
 a227:=Tryz.isAgg240
 z227:=Tryz.sizeOf240
 v227:=Tryz.zeroValue240
 g0:=by kernel_rfl
 g6:=by kernel_rfl
 i0:=by kernel_rfl
 i3:=by kernel_rfl
 i4:=by kernel_rfl
 i5:=by kernel_rfl
 i9:=by kernel_rfl
 i21:=by kernel_rfl
 i31:=by kernel_rfl
 i40:=by kernel_rfl
 i46:=by kernel_rfl
 i49:=by kernel_rfl
 i51:=by kernel_rfl
 i141:=by kernel_rfl
 i152:=by kernel_rfl
 i154:=by kernel_rfl
 i193:=by kernel_rfl
 i194:=by kernel_rfl
 i196:=by kernel_rfl
 i198:=by kernel_rfl
 i201:=by kernel_rfl
 i226:=by kernel_rfl
 i227:=by kernel_rfl
 m0:=by kernel_rfl
 m6:=by kernel_rfl}
def Tryz.layGrow_ren:Go.Shelf.Ren:=⟨fun|4=>186|n=>n,fun|22=>22|25=>9|3=>3|4=>4|9=>9|20=>20|0=>0|n=>n,fun|n=>n⟩
theorem Tryz.layGrow:Go.Proofs.Lays8.n4 Tryz.prog Tryz.layGrow_ren:= {
 mixed:=by kernel_rfl
 f4:=⟨Tryz.f186.name,by decide,Tryz.func186.trans (congrArg some (by kernel_rfl))⟩
 t0:=Tryz.underlying0
 a0:=Tryz.isAgg0
 z0:=Tryz.sizeOf0
 v0:=Tryz.zeroValue0
 t3:=Tryz.underlying3
 a3:=Tryz.isAgg3
 z3:=Tryz.sizeOf3
 v3:=Tryz.zeroValue3
 t4:=Tryz.underlying4
 a4:=Tryz.isAgg4
 z4:=Tryz.sizeOf4
 v4:=Tryz.zeroValue4
 t9:=Tryz.underlying9
 a9:=Tryz.isAgg9
 z9:=Tryz.sizeOf9
 v9:=Tryz.zeroValue9
 t20:=Tryz.underlying20
 a20:=Tryz.isAgg20
 z20:=Tryz.sizeOf20
 v20:=Tryz.zeroValue20
 t22:=Tryz.underlying22
 a22:=Tryz.isAgg22
 z22:=Tryz.sizeOf22
 v22:=Tryz.zeroValue22}
end Go.Proofs
