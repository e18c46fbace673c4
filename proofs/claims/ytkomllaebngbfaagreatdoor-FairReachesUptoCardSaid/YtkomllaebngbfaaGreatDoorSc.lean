/-
 The codes of the program's functions, in the form that the layer reads, and that they are these. No condition.
-/
import Derived.Shelf.SlGeneric
import Derived.Shelf.LaysM
import Derived.Shelf.Strings.SplitShaped
import Derived.Shelf.Strings.OnBuilder
import Derived.Shelf.Strings.BuilderK
import Derived.Shelf.Spec.SlicesGrow
import Derived.Ground.NamesProg
import Derived.Shelf.SlSortCmp.WholeK
import Derived.Ground.SlsfProg
import Derived.Test.YtkomllaebngbfaaGreatDoorProg
import Derived.Test.YtkomllaebngbfaaGreatDoorSb
import Derived.Test.YtkomllaebngbfaaGreatDoorLg
namespace Go.Proofs.YtkomllaebngbfaaGreatDoor
open Go.Ab Go.Proofs
set_option maxRecDepth 100000
def Xr(f:Nat):Option FnX :=
 (bif Nat.blt f 126 then(bif Nat.blt f 82 then(bif Nat.blt f 50 then(bif Nat.blt f 34 then(bif Nat.blt f 22 then(bif Nat.blt f 19 then(bif Nat.blt f 17 then(bif Nat.beq f 9 then some ⟨C.iG,[.slot 6],66⟩ else none) else(bif Nat.beq f 17 then some ⟨C.mZ,[.slot 6],23⟩ else none)) else(bif Nat.blt f 20 then(bif Nat.beq f 19 then some ⟨C.nN,[.slot 0],60⟩ else none) else(bif Nat.beq f 20 then some ⟨C.ou,[.slot 6,.slot 7,.slot 8],62⟩ else none))) else(bif Nat.blt f 29 then(bif Nat.blt f 28 then(bif Nat.beq f 22 then some ⟨C.kX,[.slot 4],26⟩ else none) else(bif Nat.beq f 28 then some ⟨C.vG,[.slot 4],27⟩ else none)) else(bif Nat.blt f 32 then(bif Nat.beq f 29 then some ⟨C.o9,[.slot 2],17⟩ else none) else(bif Nat.beq f 32 then some ⟨C.BA,[.slot 6,.slot 7],29⟩ else none)))) else(bif Nat.blt f 40 then(bif Nat.blt f 36 then(bif Nat.blt f 35 then(bif Nat.beq f 34 then some ⟨C.lU,[.slot 6,.slot 7],25⟩ else none) else(bif Nat.beq f 35 then some ⟨C.nM,[.slot 6,.slot 7],24⟩ else none)) else(bif Nat.blt f 37 then(bif Nat.beq f 36 then some ⟨C.pI,[.slot 4,.slot 5],16⟩ else none) else(bif Nat.beq f 37 then some ⟨C.rV,[.slot 4,.slot 5],16⟩ else none))) else(bif Nat.blt f 42 then(bif Nat.blt f 41 then(bif Nat.beq f 40 then some ⟨C.lN,[.cell 2 6,.slot 3],105⟩ else none) else(bif Nat.beq f 41 then some ⟨C.vk,[.slot 4],48⟩ else none)) else(bif Nat.blt f 43 then(bif Nat.beq f 42 then some ⟨C.pY,[.slot 2],38⟩ else none) else(bif Nat.blt f 46 then(bif Nat.beq f 43 then some ⟨C.vF,[.cell 4 3,.slot 5],142⟩ else none) else(bif Nat.beq f 46 then some ⟨C.o8,[.cell 2 3],25⟩ else none)))))) else(bif Nat.blt f 72 then(bif Nat.blt f 66 then(bif Nat.blt f 54 then(bif Nat.blt f 51 then(bif Nat.beq f 50 then some ⟨C.nH,[.slot 4],14⟩ else none) else(bif Nat.beq f 51 then some ⟨C.pX,[.slot 4],14⟩ else none)) else(bif Nat.blt f 65 then(bif Nat.beq f 54 then some ⟨C.rO,[.slot 2],51⟩ else none) else(bif Nat.beq f 65 then some ⟨C.jR,[.slot 6],20⟩ else none))) else(bif Nat.blt f 68 then(bif Nat.blt f 67 then(bif Nat.beq f 66 then some ⟨C.ng,[.slot 4],26⟩ else none) else(bif Nat.beq f 67 then some ⟨C.uH,[.cell 4 14],95⟩ else none)) else(bif Nat.blt f 69 then(bif Nat.beq f 68 then some ⟨C.mD,[.slot 4],52⟩ else none) else(bif Nat.beq f 69 then some ⟨C.uY,[.slot 6],20⟩ else none)))) else(bif Nat.blt f 76 then(bif Nat.blt f 74 then(bif Nat.blt f 73 then(bif Nat.beq f 72 then some ⟨C.kY,[.cell 0 11],6⟩ else none) else(bif Nat.beq f 73 then some ⟨C.jK,[.cell 0 7],3⟩ else none)) else(bif Nat.blt f 75 then(bif Nat.beq f 74 then some ⟨C.DW,[.slot 4],47⟩ else none) else(bif Nat.beq f 75 then some ⟨C.lS,[.slot 4],39⟩ else none))) else(bif Nat.blt f 78 then(bif Nat.blt f 77 then(bif Nat.beq f 76 then some ⟨C.sW,[.slot 4],49⟩ else none) else(bif Nat.beq f 77 then some ⟨C.kT,[.slot 4],20⟩ else none)) else(bif Nat.blt f 79 then(bif Nat.beq f 78 then some ⟨C.qX,[.slot 4],22⟩ else none) else(bif Nat.blt f 80 then(bif Nat.beq f 79 then some ⟨C.jB,[.slot 4],26⟩ else none) else(bif Nat.beq f 80 then some ⟨C.rH,[.cell 4 3,.slot 5],118⟩ else none))))))) else(bif Nat.blt f 101 then(bif Nat.blt f 91 then(bif Nat.blt f 86 then(bif Nat.blt f 84 then(bif Nat.blt f 83 then(bif Nat.beq f 82 then some ⟨C.rJ,[.slot 4],63⟩ else none) else(bif Nat.beq f 83 then some ⟨C.vC,[.slot 6],39⟩ else none)) else(bif Nat.blt f 85 then(bif Nat.beq f 84 then some ⟨C.jl,[.slot 4],25⟩ else none) else(bif Nat.beq f 85 then some ⟨C.lQ,[.slot 4],26⟩ else none))) else(bif Nat.blt f 88 then(bif Nat.blt f 87 then(bif Nat.beq f 86 then some ⟨C.lT,[.slot 4],23⟩ else none) else(bif Nat.beq f 87 then some ⟨C.pz,[.slot 4],40⟩ else none)) else(bif Nat.blt f 89 then(bif Nat.beq f 88 then some ⟨C.rU,[.slot 4],54⟩ else none) else(bif Nat.beq f 89 then some ⟨C.mF,[.slot 4],163⟩ else none)))) else(bif Nat.blt f 95 then(bif Nat.blt f 93 then(bif Nat.blt f 92 then(bif Nat.beq f 91 then some ⟨C.kR,[.slot 2],178⟩ else none) else(bif Nat.beq f 92 then some ⟨C.oM,[.cell 2 3],10⟩ else none)) else(bif Nat.blt f 94 then(bif Nat.beq f 93 then some ⟨C.vH,[.slot 4],20⟩ else none) else(bif Nat.beq f 94 then some ⟨C.nO,[.slot 4],23⟩ else none))) else(bif Nat.blt f 97 then(bif Nat.blt f 96 then(bif Nat.beq f 95 then some ⟨C.jc,[.slot 2],18⟩ else none) else(bif Nat.beq f 96 then some ⟨C.gK,[.slot 4],14⟩ else none)) else(bif Nat.blt f 98 then(bif Nat.beq f 97 then some ⟨C.kL,[.slot 2],28⟩ else none) else(bif Nat.blt f 100 then(bif Nat.beq f 98 then some ⟨C.lg,[.cell 2 3],29⟩ else none) else(bif Nat.beq f 100 then some ⟨C.gu,[.slot 4],17⟩ else none)))))) else(bif Nat.blt f 117 then(bif Nat.blt f 108 then(bif Nat.blt f 103 then(bif Nat.blt f 102 then(bif Nat.beq f 101 then some ⟨C.dA,[.slot 4],116⟩ else none) else(bif Nat.beq f 102 then some ⟨C.dY,[.slot 4],181⟩ else none)) else(bif Nat.blt f 107 then(bif Nat.beq f 103 then some ⟨C.o7,[.slot 2],16⟩ else none) else(bif Nat.beq f 107 then some ⟨C.uI,[.slot 4],29⟩ else none))) else(bif Nat.blt f 114 then(bif Nat.blt f 112 then(bif Nat.beq f 108 then some ⟨C.sQ,[.slot 4],15⟩ else none) else(bif Nat.beq f 112 then some ⟨C.zC,[.slot 4],34⟩ else none)) else(bif Nat.blt f 115 then(bif Nat.beq f 114 then some ⟨C.aX,[.slot 6,.slot 7],49⟩ else none) else(bif Nat.beq f 115 then some ⟨C.iO,[.slot 4],9⟩ else none)))) else(bif Nat.blt f 121 then(bif Nat.blt f 119 then(bif Nat.blt f 118 then(bif Nat.beq f 117 then some ⟨C.jC,[.slot 4,.slot 5],23⟩ else none) else(bif Nat.beq f 118 then some ⟨C.gy,[.slot 4],9⟩ else none)) else(bif Nat.blt f 120 then(bif Nat.beq f 119 then some ⟨C.qh,[.slot 2],7⟩ else none) else(bif Nat.beq f 120 then some ⟨C.kN,[.slot 4],70⟩ else none))) else(bif Nat.blt f 123 then(bif Nat.blt f 122 then(bif Nat.beq f 121 then some ⟨C.pF,[.slot 4,.slot 5],16⟩ else none) else(bif Nat.beq f 122 then some ⟨C.rY,[.slot 4],46⟩ else none)) else(bif Nat.blt f 124 then(bif Nat.beq f 123 then some ⟨C.fV,[.slot 2],8⟩ else none) else(bif Nat.blt f 125 then(bif Nat.beq f 124 then some ⟨C.nJ,[.slot 4],44⟩ else none) else(bif Nat.beq f 125 then some ⟨C.pK,[.slot 4],62⟩ else none)))))))) else(bif Nat.blt f 162 then(bif Nat.blt f 144 then(bif Nat.blt f 135 then(bif Nat.blt f 130 then(bif Nat.blt f 128 then(bif Nat.blt f 127 then(bif Nat.beq f 126 then some ⟨C.CB,[.slot 4],18⟩ else none) else(bif Nat.beq f 127 then some ⟨C.mP,[],34⟩ else none)) else(bif Nat.blt f 129 then(bif Nat.beq f 128 then some ⟨C.aW,[.slot 4],9⟩ else none) else(bif Nat.beq f 129 then some ⟨C.lC,[.slot 3],8⟩ else none))) else(bif Nat.blt f 133 then(bif Nat.blt f 131 then(bif Nat.beq f 130 then some ⟨C.pG,[.slot 4],16⟩ else none) else(bif Nat.beq f 131 then some ⟨C.kG,[.slot 6],34⟩ else none)) else(bif Nat.blt f 134 then(bif Nat.beq f 133 then some ⟨C.iE,[.slot 2],58⟩ else none) else(bif Nat.beq f 134 then some ⟨C.aU,[.slot 6],15⟩ else none)))) else(bif Nat.blt f 139 then(bif Nat.blt f 137 then(bif Nat.blt f 136 then(bif Nat.beq f 135 then some ⟨C.lM,[.slot 4],18⟩ else none) else(bif Nat.beq f 136 then some ⟨C.uG,[.slot 2],21⟩ else none)) else(bif Nat.blt f 138 then(bif Nat.beq f 137 then some ⟨C.iJ,[.slot 4],37⟩ else none) else(bif Nat.beq f 138 then some ⟨C.wz,[.slot 4],276⟩ else none))) else(bif Nat.blt f 141 then(bif Nat.blt f 140 then(bif Nat.beq f 139 then some ⟨C.mg,[.slot 2],43⟩ else none) else(bif Nat.beq f 140 then some ⟨C.CJ,[.slot 4],18⟩ else none)) else(bif Nat.blt f 142 then(bif Nat.beq f 141 then some ⟨C.fP,[.cell 2 6,.slot 3],112⟩ else none) else(bif Nat.blt f 143 then(bif Nat.beq f 142 then some ⟨C.iM,[.slot 2],23⟩ else none) else(bif Nat.beq f 143 then some ⟨C.gU,[.slot 4],32⟩ else none)))))) else(bif Nat.blt f 152 then(bif Nat.blt f 148 then(bif Nat.blt f 146 then(bif Nat.blt f 145 then(bif Nat.beq f 144 then some ⟨C.jM,[.slot 2],18⟩ else none) else(bif Nat.beq f 145 then some ⟨C.pO,[.slot 2],18⟩ else none)) else(bif Nat.blt f 147 then(bif Nat.beq f 146 then some ⟨C.cmp_Compare_int,[.slot 4],20⟩ else none) else(bif Nat.beq f 147 then some ⟨C.ig,[.slot 4],36⟩ else none))) else(bif Nat.blt f 150 then(bif Nat.blt f 149 then(bif Nat.beq f 148 then some ⟨C.fQ,[.slot 2],157⟩ else none) else(bif Nat.beq f 149 then some ⟨C.eu,[.slot 2],46⟩ else none)) else(bif Nat.blt f 151 then(bif Nat.beq f 150 then some ⟨C.dK,[.slot 4],38⟩ else none) else(bif Nat.beq f 151 then some ⟨C.bM,[.slot 2],15⟩ else none)))) else(bif Nat.blt f 156 then(bif Nat.blt f 154 then(bif Nat.blt f 153 then(bif Nat.beq f 152 then some ⟨C.bU,[.slot 4],7⟩ else none) else(bif Nat.beq f 153 then some ⟨C.jD,[.slot 4],39⟩ else none)) else(bif Nat.blt f 155 then(bif Nat.beq f 154 then some ⟨C.iH,[.slot 4],30⟩ else none) else(bif Nat.beq f 155 then some ⟨C.yU,[.slot 4],18⟩ else none))) else(bif Nat.blt f 159 then(bif Nat.blt f 158 then(bif Nat.beq f 156 then some ⟨C.wZ,[.slot 4],34⟩ else none) else(bif Nat.beq f 158 then some ⟨C.jy,[.slot 4],19⟩ else none)) else(bif Nat.blt f 160 then(bif Nat.beq f 159 then some ⟨C.iW,[.slot 4],19⟩ else none) else(bif Nat.blt f 161 then(bif Nat.beq f 160 then some ⟨C.aS,[],14⟩ else none) else(bif Nat.beq f 161 then some ⟨C.aZ,[.slot 4],66⟩ else none))))))) else(bif Nat.blt f 180 then(bif Nat.blt f 171 then(bif Nat.blt f 167 then(bif Nat.blt f 164 then(bif Nat.blt f 163 then(bif Nat.beq f 162 then some ⟨C.kP,[.slot 4],9⟩ else none) else(bif Nat.beq f 163 then some ⟨C.jE,[.slot 4],15⟩ else none)) else(bif Nat.blt f 166 then(bif Nat.beq f 164 then some ⟨C.bF,[.slot 4],19⟩ else none) else(bif Nat.beq f 166 then some ⟨C.lZ,[.slot 0],2⟩ else none))) else(bif Nat.blt f 169 then(bif Nat.blt f 168 then(bif Nat.beq f 167 then some ⟨C.pW,[.slot 4],136⟩ else none) else(bif Nat.beq f 168 then some ⟨C.gQ,[.slot 4],19⟩ else none)) else(bif Nat.blt f 170 then(bif Nat.beq f 169 then some ⟨C.cmp_isNaN_int,[.slot 2],6⟩ else none) else(bif Nat.beq f 170 then some ⟨C.jZ,[.slot 2],32⟩ else none)))) else(bif Nat.blt f 175 then(bif Nat.blt f 173 then(bif Nat.blt f 172 then(bif Nat.beq f 171 then some ⟨C.iw,[.slot 2],21⟩ else none) else(bif Nat.beq f 172 then some ⟨C.gV,[.slot 4],188⟩ else none)) else(bif Nat.blt f 174 then(bif Nat.beq f 173 then some ⟨C.fO,[.slot 2],33⟩ else none) else(bif Nat.beq f 174 then some ⟨C.fA,[.slot 2],6⟩ else none))) else(bif Nat.blt f 177 then(bif Nat.blt f 176 then(bif Nat.beq f 175 then some ⟨C.bV,[.slot 4],13⟩ else none) else(bif Nat.beq f 176 then some ⟨C.cu,[],148⟩ else none)) else(bif Nat.blt f 178 then(bif Nat.beq f 177 then some ⟨C.oP,[.slot 2],8⟩ else none) else(bif Nat.blt f 179 then(bif Nat.beq f 178 then some ⟨C.kS,[.slot 2],6⟩ else none) else(bif Nat.beq f 179 then some ⟨C.iK,[.slot 4],24⟩ else none)))))) else(bif Nat.blt f 188 then(bif Nat.blt f 184 then(bif Nat.blt f 182 then(bif Nat.blt f 181 then(bif Nat.beq f 180 then some ⟨C.eU,[.slot 2],36⟩ else none) else(bif Nat.beq f 181 then some ⟨C.dX,[.slot 4],9⟩ else none)) else(bif Nat.blt f 183 then(bif Nat.beq f 182 then some ⟨C.fH,[.slot 2],9⟩ else none) else(bif Nat.beq f 183 then some ⟨C.cZ,[.slot 4],9⟩ else none))) else(bif Nat.blt f 186 then(bif Nat.blt f 185 then(bif Nat.beq f 184 then some ⟨C.iZ,[.slot 3],9⟩ else none) else(bif Nat.beq f 185 then some ⟨C.lu,[.slot 4],17⟩ else none)) else(bif Nat.blt f 187 then(bif Nat.beq f 186 then some ⟨C.jh,[.slot 4],105⟩ else none) else(bif Nat.beq f 187 then some ⟨C.jH,[.slot 4],44⟩ else none)))) else(bif Nat.blt f 200 then(bif Nat.blt f 190 then(bif Nat.blt f 189 then(bif Nat.beq f 188 then some ⟨C.eX,[.slot 4],15⟩ else none) else(bif Nat.beq f 189 then some ⟨C.gW,[.slot 4],25⟩ else none)) else(bif Nat.blt f 192 then(bif Nat.beq f 190 then some ⟨C.bI,[.slot 4],9⟩ else none) else(bif Nat.beq f 192 then some ⟨C.bH,[],53⟩ else none))) else(bif Nat.blt f 203 then(bif Nat.blt f 201 then(bif Nat.beq f 200 then some ⟨C.oZ,[.slot 2],19⟩ else none) else(bif Nat.beq f 201 then some ⟨C.mM,[.slot 2],25⟩ else none)) else(bif Nat.blt f 204 then(bif Nat.beq f 203 then some ⟨C.fF,[.slot 4],19⟩ else none) else(bif Nat.blt f 205 then(bif Nat.beq f 204 then some ⟨C.dG,[.slot 4],19⟩ else none) else(bif Nat.beq f 205 then some ⟨C.bT,[.slot 4],19⟩ else none)))))))))
theorem EP:acW Tryz.prog Xr:=fun _ _ h=>TabAt.use (.node (.node (.node (.node (.node (.node (.node (.leaf Bd.iG) (.leaf Bd.mZ)) (.node (.leaf Bd.nN) (.leaf Bd.ou))) (.node (.node (.leaf Bd.kX) (.leaf Bd.vG)) (.node (.leaf Bd.o9) (.leaf Bd.BA)))) (.node (.node (.node (.leaf Bd.lU) (.leaf Bd.nM)) (.node (.leaf Bd.pI) (.leaf Bd.rV))) (.node (.node (.leaf Bd.lN) (.leaf Bd.vk)) (.node (.leaf Bd.pY) (.node (.leaf Bd.vF) (.leaf Bd.o8)))))) (.node (.node (.node (.node (.leaf Bd.nH) (.leaf Bd.pX)) (.node (.leaf Bd.rO) (.leaf Bd.jR))) (.node (.node (.leaf Bd.ng) (.leaf Bd.uH)) (.node (.leaf Bd.mD) (.leaf Bd.uY)))) (.node (.node (.node (.leaf Bd.kY) (.leaf Bd.jK)) (.node (.leaf Bd.DW) (.leaf Bd.lS))) (.node (.node (.leaf Bd.sW) (.leaf Bd.kT)) (.node (.leaf Bd.qX) (.node (.leaf Bd.jB) (.leaf Bd.rH))))))) (.node (.node (.node (.node (.node (.leaf Bd.rJ) (.leaf Bd.vC)) (.node (.leaf Bd.jl) (.leaf Bd.lQ))) (.node (.node (.leaf Bd.lT) (.leaf Bd.pz)) (.node (.leaf Bd.rU) (.leaf Bd.mF)))) (.node (.node (.node (.leaf Bd.kR) (.leaf Bd.oM)) (.node (.leaf Bd.vH) (.leaf Bd.nO))) (.node (.node (.leaf Bd.jc) (.leaf Bd.gK)) (.node (.leaf Bd.kL) (.node (.leaf Bd.lg) (.leaf Bd.gu)))))) (.node (.node (.node (.node (.leaf Bd.dA) (.leaf Bd.dY)) (.node (.leaf Bd.o7) (.leaf Bd.uI))) (.node (.node (.leaf Bd.sQ) (.leaf Bd.zC)) (.node (.leaf Bd.aX) (.leaf Bd.iO)))) (.node (.node (.node (.leaf Bd.jC) (.leaf Bd.gy)) (.node (.leaf Bd.qh) (.leaf Bd.kN))) (.node (.node (.leaf Bd.pF) (.leaf Bd.rY)) (.node (.leaf Bd.fV) (.node (.leaf Bd.nJ) (.leaf Bd.pK)))))))) (.node (.node (.node (.node (.node (.node (.leaf Bd.CB) (.leaf Bd.mP)) (.node (.leaf Bd.aW) (.leaf Bd.lC))) (.node (.node (.leaf Bd.pG) (.leaf Bd.kG)) (.node (.leaf Bd.iE) (.leaf Bd.aU)))) (.node (.node (.node (.leaf Bd.lM) (.leaf Bd.uG)) (.node (.leaf Bd.iJ) (.leaf Bd.wz))) (.node (.node (.leaf Bd.mg) (.leaf Bd.CJ)) (.node (.leaf Bd.fP) (.node (.leaf Bd.iM) (.leaf Bd.gU)))))) (.node (.node (.node (.node (.leaf Bd.jM) (.leaf Bd.pO)) (.node (.leaf Bd.cmp_Compare_int) (.leaf Bd.ig))) (.node (.node (.leaf Bd.fQ) (.leaf Bd.eu)) (.node (.leaf Bd.dK) (.leaf Bd.bM)))) (.node (.node (.node (.leaf Bd.bU) (.leaf Bd.jD)) (.node (.leaf Bd.iH) (.leaf Bd.yU))) (.node (.node (.leaf Bd.wZ) (.leaf Bd.jy)) (.node (.leaf Bd.iW) (.node (.leaf Bd.aS) (.leaf Bd.aZ))))))) (.node (.node (.node (.node (.node (.leaf Bd.kP) (.leaf Bd.jE)) (.node (.leaf Bd.bF) (.leaf Bd.lZ))) (.node (.node (.leaf Bd.pW) (.leaf Bd.gQ)) (.node (.leaf Bd.cmp_isNaN_int) (.leaf Bd.jZ)))) (.node (.node (.node (.leaf Bd.iw) (.leaf Bd.gV)) (.node (.leaf Bd.fO) (.leaf Bd.fA))) (.node (.node (.leaf Bd.bV) (.leaf Bd.cu)) (.node (.leaf Bd.oP) (.node (.leaf Bd.kS) (.leaf Bd.iK)))))) (.node (.node (.node (.node (.leaf Bd.eU) (.leaf Bd.dX)) (.node (.leaf Bd.fH) (.leaf Bd.cZ))) (.node (.node (.leaf Bd.iZ) (.leaf Bd.lu)) (.node (.leaf Bd.jh) (.leaf Bd.jH)))) (.node (.node (.node (.leaf Bd.eX) (.leaf Bd.gW)) (.node (.leaf Bd.bI) (.leaf Bd.bH))) (.node (.node (.leaf Bd.oZ) (.leaf Bd.mM)) (.node (.leaf Bd.fF) (.node (.leaf Bd.dG) (.leaf Bd.bT))))))))) h
end Go.Proofs.YtkomllaebngbfaaGreatDoor
namespace Go.Proofs
open Go.Shelf
def Tryz.laysM157_ren:Go.Shelf.Ren:=⟨fun|157=>191|229=>206|199=>207|261=>213|311=>215|312=>216|n=>n,fun|9=>9|31=>22|3=>3|5=>5|4=>4|119=>197|0=>0|40=>199|152=>206|21=>21|154=>208|51=>190|141=>210|196=>217|193=>214|198=>220|49=>218|194=>215|201=>223|226=>225|46=>106|227=>226|n=>n,fun|0=>0|6=>1|n=>n⟩
theorem Tryz.laysM157:Go.Proofs.LaysM.n157 Tryz.prog Tryz.laysM157_ren:= {
 mixed:=by kernel_rfl
 f157:=Tryz.func191.trans (congrArg some (by kernel_rfl))
 f199:=Tryz.func207.trans (congrArg some (by kernel_rfl))
 f229:=Tryz.func206.trans (congrArg some (by kernel_rfl))
 f261:=Tryz.func213.trans (congrArg some (by kernel_rfl))
 f311:=Tryz.func215.trans (congrArg some (by kernel_rfl))
 f312:=Tryz.func216.trans (congrArg some (by kernel_rfl))
 t0:=Tryz.underlying0
 a0:=Tryz.isAgg0
 z0:=Tryz.sizeOf0
 v0:=Tryz.zeroValue0
 t3:=Tryz.underlying3
 a3:=Tryz.isAgg3
 z3:=Tryz.sizeOf3
 v3:=Tryz.zeroValue3
 t4:=Tryz.underlying4
 a4:=Tryz.isAgg4
 z4:=Tryz.sizeOf4
 v4:=Tryz.zeroValue4
 t5:=Tryz.underlying5
 a5:=Tryz.isAgg5
 z5:=Tryz.sizeOf5
 v5:=Tryz.zeroValue5
 t9:=Tryz.underlying9
 a9:=Tryz.isAgg9
 z9:=Tryz.sizeOf9
 v9:=Tryz.zeroValue9
 t21:=Tryz.underlying21
 a21:=Tryz.isAgg21
 z21:=Tryz.sizeOf21
 v21:=Tryz.zeroValue21
 t31:=Tryz.underlying22
 a31:=Tryz.isAgg22
 z31:=Tryz.sizeOf22
 v31:=Tryz.zeroValue22
 t40:=Tryz.underlying199
 a40:=Tryz.isAgg199
 z40:=Tryz.sizeOf199
 v40:=Tryz.zeroValue199
 t46:=Tryz.underlying106
 a46:=Tryz.isAgg106
 z46:=Tryz.sizeOf106
 v46:=Tryz.zeroValue106
 t49:=Tryz.underlying218
 a49:=Tryz.isAgg218
 z49:=Tryz.sizeOf218
 v49:=Tryz.zeroValue218
 t51:=Tryz.underlying190
 a51:=Tryz.isAgg190
 z51:=Tryz.sizeOf190
 v51:=Tryz.zeroValue190
 t119:=Tryz.underlying197
 a119:=Tryz.isAgg197
 z119:=Tryz.sizeOf197
 t141:=Tryz.underlying210
 a141:=Tryz.isAgg210
 z141:=Tryz.sizeOf210
 v141:=Tryz.zeroValue210
 t152:=Tryz.underlying206
 a152:=Tryz.isAgg206
 z152:=Tryz.sizeOf206
 v152:=Tryz.zeroValue206
 t154:=Tryz.underlying208
 a154:=Tryz.isAgg208
 z154:=Tryz.sizeOf208
 v154:=Tryz.zeroValue208
 t193:=Tryz.underlying214
 a193:=Tryz.isAgg214
 z193:=Tryz.sizeOf214
 v193:=Tryz.zeroValue214
 t194:=Tryz.underlying215
 a194:=Tryz.isAgg215
 z194:=Tryz.sizeOf215
 v194:=Tryz.zeroValue215
 t196:=Tryz.underlying217
 a196:=Tryz.isAgg217
 z196:=Tryz.sizeOf217
 v196:=Tryz.zeroValue217
 t198:=Tryz.underlying220
 a198:=Tryz.isAgg220
 z198:=Tryz.sizeOf220
 v198:=Tryz.zeroValue220
 t201:=Tryz.underlying223
 a201:=Tryz.isAgg223
 z201:=Tryz.sizeOf223
 v201:=Tryz.zeroValue223
 t226:=Tryz.underlying225
 a226:=Tryz.isAgg225
 z226:=Tryz.sizeOf225
 v226:=Tryz.zeroValue225
 t227:=Tryz.underlying226
 a227:=Tryz.isAgg226
 z227:=Tryz.sizeOf226
 v227:=Tryz.zeroValue226
 g0:=by kernel_rfl
 g6:=by kernel_rfl
 i0:=by kernel_rfl
 i3:=by kernel_rfl
 i4:=by kernel_rfl
 i5:=by kernel_rfl
 i9:=by kernel_rfl
 i21:=by kernel_rfl
 i31:=by kernel_rfl
 i40:=by kernel_rfl
 i46:=by kernel_rfl
 i49:=by kernel_rfl
 i51:=by kernel_rfl
 i141:=by kernel_rfl
 i152:=by kernel_rfl
 i154:=by kernel_rfl
 i193:=by kernel_rfl
 i194:=by kernel_rfl
 i196:=by kernel_rfl
 i198:=by kernel_rfl
 i201:=by kernel_rfl
 i226:=by kernel_rfl
 i227:=by kernel_rfl
 m0:=by kernel_rfl
 m6:=by kernel_rfl}
def Tryz.layGrow_ren:Go.Shelf.Ren:=⟨fun|4=>202|n=>n,fun|22=>22|25=>9|3=>3|4=>4|9=>9|20=>20|0=>0|n=>n,fun|n=>n⟩
theorem Tryz.layGrow:Go.Proofs.Lays8.n4 Tryz.prog Tryz.layGrow_ren:= {
 mixed:=by kernel_rfl
 f4:=⟨Tryz.f202.name,by decide,Tryz.func202.trans (congrArg some (by kernel_rfl))⟩
 t0:=Tryz.underlying0
 a0:=Tryz.isAgg0
 z0:=Tryz.sizeOf0
 v0:=Tryz.zeroValue0
 t3:=Tryz.underlying3
 a3:=Tryz.isAgg3
 z3:=Tryz.sizeOf3
 v3:=Tryz.zeroValue3
 t4:=Tryz.underlying4
 a4:=Tryz.isAgg4
 z4:=Tryz.sizeOf4
 v4:=Tryz.zeroValue4
 t9:=Tryz.underlying9
 a9:=Tryz.isAgg9
 z9:=Tryz.sizeOf9
 v9:=Tryz.zeroValue9
 t20:=Tryz.underlying20
 a20:=Tryz.isAgg20
 z20:=Tryz.sizeOf20
 v20:=Tryz.zeroValue20
 t22:=Tryz.underlying22
 a22:=Tryz.isAgg22
 z22:=Tryz.sizeOf22
 v22:=Tryz.zeroValue22}
def Tryz.laySort_ren:Go.Shelf.Ren:=⟨fun|6=>160|15=>177|14=>176|28=>200|29=>201|20=>192|21=>193|22=>194|23=>195|24=>196|25=>197|26=>198|27=>199|46=>208|47=>209|48=>210|49=>211|50=>212|57=>214|n=>n,fun|22=>44|24=>50|25=>108|3=>3|39=>106|0=>0|53=>190|55=>192|4=>4|46=>184|45=>183|50=>123|5=>5|9=>9|66=>200|70=>204|76=>211|77=>212|n=>n,fun|n=>n⟩
theorem Tryz.laySort:Go.Proofs.SlLaysF0.n6 Tryz.prog Tryz.laySort_ren:= {
 mixed:=by kernel_rfl
 f6:=⟨Tryz.f160.name,by decide,Tryz.func160.trans (congrArg some (by kernel_rfl))⟩
 f14:=⟨Tryz.f176.name,by decide,Tryz.func176.trans (congrArg some (by kernel_rfl))⟩
 f15:=Tryz.func177.trans (congrArg some (by kernel_rfl))
 f20:=⟨Tryz.f192.name,by decide,Tryz.func192.trans (congrArg some (by kernel_rfl))⟩
 f21:=⟨Tryz.f193.name,by decide,Tryz.func193.trans (congrArg some (by kernel_rfl))⟩
 f22:=⟨Tryz.f194.name,by decide,Tryz.func194.trans (congrArg some (by kernel_rfl))⟩
 f23:=⟨Tryz.f195.name,by decide,Tryz.func195.trans (congrArg some (by kernel_rfl))⟩
 f24:=⟨Tryz.f196.name,by decide,Tryz.func196.trans (congrArg some (by kernel_rfl))⟩
 f25:=⟨Tryz.f197.name,by decide,Tryz.func197.trans (congrArg some (by kernel_rfl))⟩
 f26:=⟨Tryz.f198.name,by decide,Tryz.func198.trans (congrArg some (by kernel_rfl))⟩
 f27:=⟨Tryz.f199.name,by decide,Tryz.func199.trans (congrArg some (by kernel_rfl))⟩
 f28:=Tryz.func200.trans (congrArg some (by kernel_rfl))
 f29:=Tryz.func201.trans (congrArg some (by kernel_rfl))
 f46:=⟨Tryz.f208.name,by decide,Tryz.func208.trans (congrArg some (by kernel_rfl))⟩
 f47:=Tryz.func209.trans (congrArg some (by kernel_rfl))
 f48:=Tryz.func210.trans (congrArg some (by kernel_rfl))
 f49:=⟨Tryz.f211.name,by decide,Tryz.func211.trans (congrArg some (by kernel_rfl))⟩
 f50:=⟨Tryz.f212.name,by decide,Tryz.func212.trans (congrArg some (by kernel_rfl))⟩
 f57:=⟨Tryz.f214.name,by decide,Tryz.func214.trans (congrArg some (by kernel_rfl))⟩
 t0:=Tryz.underlying0
 a0:=Tryz.isAgg0
 z0:=Tryz.sizeOf0
 v0:=Tryz.zeroValue0
 t3:=Tryz.underlying3
 a3:=Tryz.isAgg3
 z3:=Tryz.sizeOf3
 v3:=Tryz.zeroValue3
 t4:=Tryz.underlying4
 a4:=Tryz.isAgg4
 z4:=Tryz.sizeOf4
 v4:=Tryz.zeroValue4
 t5:=Tryz.underlying5
 a5:=Tryz.isAgg5
 z5:=Tryz.sizeOf5
 v5:=Tryz.zeroValue5
 t9:=Tryz.underlying9
 a9:=Tryz.isAgg9
 z9:=Tryz.sizeOf9
 v9:=Tryz.zeroValue9
 t22:=Tryz.underlying44
 a22:=Tryz.isAgg44
 z22:=Tryz.sizeOf44
 v22:=Tryz.zeroValue44
 t25:=Tryz.underlying108
 a25:=Tryz.isAgg108
 z25:=Tryz.sizeOf108
 v25:=Tryz.zeroValue108
 t39:=Tryz.underlying106
 a39:=Tryz.isAgg106
 z39:=Tryz.sizeOf106
 v39:=Tryz.zeroValue106
 t45:=Tryz.underlying183
 a45:=Tryz.isAgg183
 z45:=Tryz.sizeOf183
 v45:=Tryz.zeroValue183
 t46:=Tryz.underlying184
 a46:=Tryz.isAgg184
 z46:=Tryz.sizeOf184
 v46:=Tryz.zeroValue184
 t50:=Tryz.underlying123
 a50:=Tryz.isAgg123
 z50:=Tryz.sizeOf123
 v50:=Tryz.zeroValue123
 t53:=Tryz.underlying190
 a53:=Tryz.isAgg190
 z53:=Tryz.sizeOf190
 v53:=Tryz.zeroValue190
 t55:=Tryz.underlying192
 a55:=Tryz.isAgg192
 z55:=Tryz.sizeOf192
 v55:=Tryz.zeroValue192
 t66:=Tryz.underlying200
 a66:=Tryz.isAgg200
 z66:=Tryz.sizeOf200
 v66:=Tryz.zeroValue200
 t70:=Tryz.underlying204
 a70:=Tryz.isAgg204
 z70:=Tryz.sizeOf204
 v70:=Tryz.zeroValue204
 t76:=Tryz.underlying211
 a76:=Tryz.isAgg211
 z76:=Tryz.sizeOf211
 v76:=Tryz.zeroValue211
 t77:=Tryz.underlying212
 a77:=Tryz.isAgg212
 z77:=Tryz.sizeOf212
 v77:=Tryz.zeroValue212}
end Go.Proofs
