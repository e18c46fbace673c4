/-
 The codes of the program's functions, in the form that the layer reads, and that they are these. No condition.
-/
import Derived.Shelf.SlGeneric
import Derived.Shelf.LaysM
import Derived.Shelf.Strings.SplitShaped
import Derived.Shelf.Strings.OnBuilder
import Derived.Shelf.Strings.BuilderK
import Derived.Shelf.Spec.SlicesGrow
import Derived.Ground.NamesProg
import Derived.Shelf.SlSortCmp.WholeK
import Derived.Ground.SlsfProg
import Derived.Test.YtkomllaebngbfaaGreatDoorProg
import Derived.Test.YtkomllaebngbfaaGreatDoorSb
import Derived.Test.YtkomllaebngbfaaGreatDoorLg
namespace Go.Proofs.YtkomllaebngbfaaGreatDoor
open Go.Ab Go.Proofs
set_option maxRecDepth 100000
def Xh(f:Nat):Option FnX :=
 (bif Nat.blt f 122 then(bif Nat.blt f 75 then(bif Nat.blt f 41 then(bif Nat.blt f 26 then(bif Nat.blt f 17 then(bif Nat.blt f 11 then(bif Nat.blt f 8 then(bif Nat.beq f 7 then some ⟨C.jd,[.slot 4],32⟩ else none) else(bif Nat.beq f 8 then some ⟨C.jD,[.slot 6],79⟩ else none)) else(bif Nat.blt f 13 then(bif Nat.beq f 11 then some ⟨C.fP,[.slot 6],122⟩ else none) else(bif Nat.beq f 13 then some ⟨C.jE,[.slot 6],86⟩ else none))) else(bif Nat.blt f 20 then(bif Nat.blt f 19 then(bif Nat.beq f 17 then some ⟨C.nH,[.slot 6],23⟩ else none) else(bif Nat.beq f 19 then some ⟨C.fJ,[.slot 0],60⟩ else none)) else(bif Nat.blt f 22 then(bif Nat.beq f 20 then some ⟨C.oC,[.slot 6,.slot 7,.slot 8],62⟩ else none) else(bif Nat.beq f 22 then some ⟨C.lu,[.slot 4],26⟩ else none)))) else(bif Nat.blt f 30 then(bif Nat.blt f 28 then(bif Nat.blt f 27 then(bif Nat.beq f 26 then some ⟨C.mg,[.slot 4,.slot 5],16⟩ else none) else(bif Nat.beq f 27 then some ⟨C.nO,[.slot 4,.slot 5],16⟩ else none)) else(bif Nat.blt f 29 then(bif Nat.beq f 28 then some ⟨C.vF,[.slot 4],27⟩ else none) else(bif Nat.beq f 29 then some ⟨C.pF,[.slot 2],17⟩ else none))) else(bif Nat.blt f 32 then(bif Nat.blt f 31 then(bif Nat.beq f 30 then some ⟨C.kW,[.slot 6,.slot 7],35⟩ else none) else(bif Nat.beq f 31 then some ⟨C.nP,[.slot 6,.slot 7],29⟩ else none)) else(bif Nat.blt f 33 then(bif Nat.beq f 32 then some ⟨C.og,[.slot 6,.slot 7],29⟩ else none) else(bif Nat.blt f 40 then(bif Nat.beq f 33 then some ⟨C.vC,[.slot 6,.slot 7],20⟩ else none) else(bif Nat.beq f 40 then some ⟨C.kR,[.cell 2 6,.slot 3],105⟩ else none)))))) else(bif Nat.blt f 52 then(bif Nat.blt f 45 then(bif Nat.blt f 43 then(bif Nat.blt f 42 then(bif Nat.beq f 41 then some ⟨C.sO,[.slot 4],48⟩ else none) else(bif Nat.beq f 42 then some ⟨C.nZ,[.slot 2],38⟩ else none)) else(bif Nat.blt f 44 then(bif Nat.beq f 43 then some ⟨C.oU,[.cell 4 3,.slot 5],142⟩ else none) else(bif Nat.beq f 44 then some ⟨C.jR,[.cell 4 3,.slot 5],25⟩ else none))) else(bif Nat.blt f 48 then(bif Nat.blt f 46 then(bif Nat.beq f 45 then some ⟨C.vG,[.slot 4],9⟩ else none) else(bif Nat.beq f 46 then some ⟨C.lW,[.cell 2 3],25⟩ else none)) else(bif Nat.blt f 50 then(bif Nat.beq f 48 then some ⟨C.jB,[.slot 6,.slot 7],32⟩ else none) else(bif Nat.blt f 51 then(bif Nat.beq f 50 then some ⟨C.pz,[.slot 4],14⟩ else none) else(bif Nat.beq f 51 then some ⟨C.rF,[.slot 4],14⟩ else none))))) else(bif Nat.blt f 67 then(bif Nat.blt f 65 then(bif Nat.blt f 54 then(bif Nat.beq f 52 then some ⟨C.jA,[.slot 4],14⟩ else none) else(bif Nat.beq f 54 then some ⟨C.qp,[.slot 2],51⟩ else none)) else(bif Nat.blt f 66 then(bif Nat.beq f 65 then some ⟨C.qZ,[.slot 6],20⟩ else none) else(bif Nat.beq f 66 then some ⟨C.nI,[.slot 4],26⟩ else none))) else(bif Nat.blt f 72 then(bif Nat.blt f 68 then(bif Nat.beq f 67 then some ⟨C.uD,[.cell 4 14],95⟩ else none) else(bif Nat.beq f 68 then some ⟨C.mP,[.slot 4],52⟩ else none)) else(bif Nat.blt f 73 then(bif Nat.beq f 72 then some ⟨C.lC,[.cell 0 11],6⟩ else none) else(bif Nat.blt f 74 then(bif Nat.beq f 73 then some ⟨C.jM,[.cell 0 7],3⟩ else none) else(bif Nat.beq f 74 then some ⟨C.D7,[.slot 4],47⟩ else none))))))) else(bif Nat.blt f 95 then(bif Nat.blt f 84 then(bif Nat.blt f 79 then(bif Nat.blt f 77 then(bif Nat.blt f 76 then(bif Nat.beq f 75 then some ⟨C.lY,[.slot 4],39⟩ else none) else(bif Nat.beq f 76 then some ⟨C.nN,[.slot 4],49⟩ else none)) else(bif Nat.blt f 78 then(bif Nat.beq f 77 then some ⟨C.jT,[.slot 4],20⟩ else none) else(bif Nat.beq f 78 then some ⟨C.jl,[.slot 4],22⟩ else none))) else(bif Nat.blt f 81 then(bif Nat.blt f 80 then(bif Nat.beq f 79 then some ⟨C.gI,[.slot 4],26⟩ else none) else(bif Nat.beq f 80 then some ⟨C.qg,[.cell 4 3,.slot 5],118⟩ else none)) else(bif Nat.blt f 82 then(bif Nat.beq f 81 then some ⟨C.qw,[.slot 6],26⟩ else none) else(bif Nat.blt f 83 then(bif Nat.beq f 82 then some ⟨C.rJ,[.slot 4],63⟩ else none) else(bif Nat.beq f 83 then some ⟨C.vw,[.slot 6],39⟩ else none))))) else(bif Nat.blt f 89 then(bif Nat.blt f 86 then(bif Nat.blt f 85 then(bif Nat.beq f 84 then some ⟨C.uF,[.slot 4],25⟩ else none) else(bif Nat.beq f 85 then some ⟨C.lV,[.slot 4],26⟩ else none)) else(bif Nat.blt f 87 then(bif Nat.beq f 86 then some ⟨C.pI,[.slot 4],23⟩ else none) else(bif Nat.beq f 87 then some ⟨C.zO,[.slot 4],40⟩ else none))) else(bif Nat.blt f 92 then(bif Nat.blt f 91 then(bif Nat.beq f 89 then some ⟨C.mQ,[.slot 4],163⟩ else none) else(bif Nat.beq f 91 then some ⟨C.kX,[.slot 2],178⟩ else none)) else(bif Nat.blt f 93 then(bif Nat.beq f 92 then some ⟨C.oQ,[.cell 2 3],10⟩ else none) else(bif Nat.blt f 94 then(bif Nat.beq f 93 then some ⟨C.vH,[.slot 4],20⟩ else none) else(bif Nat.beq f 94 then some ⟨C.nR,[.slot 4],23⟩ else none)))))) else(bif Nat.blt f 108 then(bif Nat.blt f 100 then(bif Nat.blt f 97 then(bif Nat.blt f 96 then(bif Nat.beq f 95 then some ⟨C.eH,[.slot 2],18⟩ else none) else(bif Nat.beq f 96 then some ⟨C.fF,[.slot 4],14⟩ else none)) else(bif Nat.blt f 98 then(bif Nat.beq f 97 then some ⟨C.jP,[.slot 2],28⟩ else none) else(bif Nat.beq f 98 then some ⟨C.jQ,[.cell 2 3],29⟩ else none))) else(bif Nat.blt f 102 then(bif Nat.blt f 101 then(bif Nat.beq f 100 then some ⟨C.gy,[.slot 4],17⟩ else none) else(bif Nat.beq f 101 then some ⟨C.dh,[.slot 4],116⟩ else none)) else(bif Nat.blt f 103 then(bif Nat.beq f 102 then some ⟨C.dW,[.slot 4],181⟩ else none) else(bif Nat.blt f 107 then(bif Nat.beq f 103 then some ⟨C.nK,[.slot 2],16⟩ else none) else(bif Nat.beq f 107 then some ⟨C.uG,[.slot 4],29⟩ else none))))) else(bif Nat.blt f 117 then(bif Nat.blt f 114 then(bif Nat.blt f 112 then(bif Nat.beq f 108 then some ⟨C.sK,[.slot 4],15⟩ else none) else(bif Nat.beq f 112 then some ⟨C.zQ,[.slot 4],34⟩ else none)) else(bif Nat.blt f 115 then(bif Nat.beq f 114 then some ⟨C.aV,[.slot 6,.slot 7],49⟩ else none) else(bif Nat.beq f 115 then some ⟨C.iP,[.slot 4],9⟩ else none))) else(bif Nat.blt f 119 then(bif Nat.blt f 118 then(bif Nat.beq f 117 then some ⟨C.jC,[.slot 4,.slot 5],23⟩ else none) else(bif Nat.beq f 118 then some ⟨C.gG,[.slot 4],9⟩ else none)) else(bif Nat.blt f 120 then(bif Nat.beq f 119 then some ⟨C.rH,[.slot 2],7⟩ else none) else(bif Nat.blt f 121 then(bif Nat.beq f 120 then some ⟨C.kU,[.slot 4],70⟩ else none) else(bif Nat.beq f 121 then some ⟨C.pJ,[.slot 4,.slot 5],16⟩ else none)))))))) else(bif Nat.blt f 160 then(bif Nat.blt f 141 then(bif Nat.blt f 131 then(bif Nat.blt f 126 then(bif Nat.blt f 124 then(bif Nat.blt f 123 then(bif Nat.beq f 122 then some ⟨C.rU,[.slot 4],46⟩ else none) else(bif Nat.beq f 123 then some ⟨C.gq,[.slot 2],8⟩ else none)) else(bif Nat.blt f 125 then(bif Nat.beq f 124 then some ⟨C.nM,[.slot 4],44⟩ else none) else(bif Nat.beq f 125 then some ⟨C.pO,[.slot 4],62⟩ else none))) else(bif Nat.blt f 128 then(bif Nat.blt f 127 then(bif Nat.beq f 126 then some ⟨C.CY,[.slot 4],18⟩ else none) else(bif Nat.beq f 127 then some ⟨C.sN,[],34⟩ else none)) else(bif Nat.blt f 129 then(bif Nat.beq f 128 then some ⟨C.cZ,[.slot 4],9⟩ else none) else(bif Nat.beq f 129 then some ⟨C.oD,[.slot 3],8⟩ else none)))) else(bif Nat.blt f 136 then(bif Nat.blt f 134 then(bif Nat.blt f 133 then(bif Nat.beq f 131 then some ⟨C.kK,[.slot 6],34⟩ else none) else(bif Nat.beq f 133 then some ⟨C.iG,[.slot 2],58⟩ else none)) else(bif Nat.blt f 135 then(bif Nat.beq f 134 then some ⟨C.aT,[.slot 6],15⟩ else none) else(bif Nat.beq f 135 then some ⟨C.lU,[.slot 4],18⟩ else none))) else(bif Nat.blt f 138 then(bif Nat.blt f 137 then(bif Nat.beq f 136 then some ⟨C.uz,[.slot 2],21⟩ else none) else(bif Nat.beq f 137 then some ⟨C.iK,[.slot 4],37⟩ else none)) else(bif Nat.blt f 139 then(bif Nat.beq f 138 then some ⟨C.wz,[.slot 4],276⟩ else none) else(bif Nat.blt f 140 then(bif Nat.beq f 139 then some ⟨C.mO,[.slot 2],43⟩ else none) else(bif Nat.beq f 140 then some ⟨C.CZ,[.slot 4],18⟩ else none)))))) else(bif Nat.blt f 150 then(bif Nat.blt f 145 then(bif Nat.blt f 143 then(bif Nat.blt f 142 then(bif Nat.beq f 141 then some ⟨C.fU,[.cell 2 6,.slot 3],112⟩ else none) else(bif Nat.beq f 142 then some ⟨C.iO,[.slot 2],23⟩ else none)) else(bif Nat.blt f 144 then(bif Nat.beq f 143 then some ⟨C.gW,[.slot 4],32⟩ else none) else(bif Nat.beq f 144 then some ⟨C.jU,[.slot 2],18⟩ else none))) else(bif Nat.blt f 147 then(bif Nat.blt f 146 then(bif Nat.beq f 145 then some ⟨C.pR,[.slot 2],18⟩ else none) else(bif Nat.beq f 146 then some ⟨C.cmp_Compare_int,[.slot 4],20⟩ else none)) else(bif Nat.blt f 148 then(bif Nat.beq f 147 then some ⟨C.ig,[.slot 4],36⟩ else none) else(bif Nat.blt f 149 then(bif Nat.beq f 148 then some ⟨C.fZ,[.slot 2],157⟩ else none) else(bif Nat.beq f 149 then some ⟨C.dX,[.slot 2],46⟩ else none))))) else(bif Nat.blt f 154 then(bif Nat.blt f 152 then(bif Nat.blt f 151 then(bif Nat.beq f 150 then some ⟨C.dK,[.slot 4],38⟩ else none) else(bif Nat.beq f 151 then some ⟨C.bI,[.slot 2],15⟩ else none)) else(bif Nat.blt f 153 then(bif Nat.beq f 152 then some ⟨C.bM,[.slot 4],7⟩ else none) else(bif Nat.beq f 153 then some ⟨C.jF,[.slot 4],39⟩ else none))) else(bif Nat.blt f 156 then(bif Nat.blt f 155 then(bif Nat.beq f 154 then some ⟨C.iI,[.slot 4],30⟩ else none) else(bif Nat.beq f 155 then some ⟨C.zi,[.slot 4],18⟩ else none)) else(bif Nat.blt f 158 then(bif Nat.beq f 156 then some ⟨C.xA,[.slot 4],34⟩ else none) else(bif Nat.blt f 159 then(bif Nat.beq f 158 then some ⟨C.jy,[.slot 4],19⟩ else none) else(bif Nat.beq f 159 then some ⟨C.iU,[.slot 4],19⟩ else none))))))) else(bif Nat.blt f 179 then(bif Nat.blt f 170 then(bif Nat.blt f 164 then(bif Nat.blt f 162 then(bif Nat.blt f 161 then(bif Nat.beq f 160 then some ⟨C.bC,[],14⟩ else none) else(bif Nat.beq f 161 then some ⟨C.bG,[.slot 4],66⟩ else none)) else(bif Nat.blt f 163 then(bif Nat.beq f 162 then some ⟨C.kV,[.slot 4],9⟩ else none) else(bif Nat.beq f 163 then some ⟨C.jG,[.slot 4],15⟩ else none))) else(bif Nat.blt f 167 then(bif Nat.blt f 166 then(bif Nat.beq f 164 then some ⟨C.dF,[.slot 4],19⟩ else none) else(bif Nat.beq f 166 then some ⟨C.mM,[.slot 0],2⟩ else none)) else(bif Nat.blt f 168 then(bif Nat.beq f 167 then some ⟨C.pX,[.slot 4],136⟩ else none) else(bif Nat.blt f 169 then(bif Nat.beq f 168 then some ⟨C.gV,[.slot 4],19⟩ else none) else(bif Nat.beq f 169 then some ⟨C.cmp_isNaN_int,[.slot 2],6⟩ else none))))) else(bif Nat.blt f 174 then(bif Nat.blt f 172 then(bif Nat.blt f 171 then(bif Nat.beq f 170 then some ⟨C.kE,[.slot 2],32⟩ else none) else(bif Nat.beq f 171 then some ⟨C.iw,[.slot 2],21⟩ else none)) else(bif Nat.blt f 173 then(bif Nat.beq f 172 then some ⟨C.gX,[.slot 4],188⟩ else none) else(bif Nat.beq f 173 then some ⟨C.fQ,[.slot 2],33⟩ else none))) else(bif Nat.blt f 176 then(bif Nat.blt f 175 then(bif Nat.beq f 174 then some ⟨C.eU,[.slot 2],6⟩ else none) else(bif Nat.beq f 175 then some ⟨C.bQ,[.slot 4],13⟩ else none)) else(bif Nat.blt f 177 then(bif Nat.beq f 176 then some ⟨C.dG,[],148⟩ else none) else(bif Nat.blt f 178 then(bif Nat.beq f 177 then some ⟨C.oW,[.slot 2],8⟩ else none) else(bif Nat.beq f 178 then some ⟨C.kY,[.slot 2],6⟩ else none)))))) else(bif Nat.blt f 188 then(bif Nat.blt f 183 then(bif Nat.blt f 181 then(bif Nat.blt f 180 then(bif Nat.beq f 179 then some ⟨C.iL,[.slot 4],24⟩ else none) else(bif Nat.beq f 180 then some ⟨C.eF,[.slot 2],36⟩ else none)) else(bif Nat.blt f 182 then(bif Nat.beq f 181 then some ⟨C.dU,[.slot 4],9⟩ else none) else(bif Nat.beq f 182 then some ⟨C.fK,[.slot 2],9⟩ else none))) else(bif Nat.blt f 185 then(bif Nat.blt f 184 then(bif Nat.beq f 183 then some ⟨C.cu,[.slot 4],9⟩ else none) else(bif Nat.beq f 184 then some ⟨C.iW,[.slot 3],9⟩ else none)) else(bif Nat.blt f 186 then(bif Nat.beq f 185 then some ⟨C.lG,[.slot 4],17⟩ else none) else(bif Nat.blt f 187 then(bif Nat.beq f 186 then some ⟨C.jg,[.slot 4],105⟩ else none) else(bif Nat.beq f 187 then some ⟨C.jJ,[.slot 4],44⟩ else none))))) else(bif Nat.blt f 200 then(bif Nat.blt f 190 then(bif Nat.blt f 189 then(bif Nat.beq f 188 then some ⟨C.eG,[.slot 4],15⟩ else none) else(bif Nat.beq f 189 then some ⟨C.gY,[.slot 4],25⟩ else none)) else(bif Nat.blt f 192 then(bif Nat.beq f 190 then some ⟨C.bD,[.slot 4],9⟩ else none) else(bif Nat.beq f 192 then some ⟨C.bW,[],53⟩ else none))) else(bif Nat.blt f 203 then(bif Nat.blt f 201 then(bif Nat.beq f 200 then some ⟨C.pq,[.slot 2],19⟩ else none) else(bif Nat.beq f 201 then some ⟨C.mX,[.slot 2],25⟩ else none)) else(bif Nat.blt f 204 then(bif Nat.beq f 203 then some ⟨C.fC,[.slot 4],19⟩ else none) else(bif Nat.blt f 205 then(bif Nat.beq f 204 then some ⟨C.dB,[.slot 4],19⟩ else none) else(bif Nat.beq f 205 then some ⟨C.bK,[.slot 4],19⟩ else none)))))))))
theorem E8:acp Tryz.prog Xh:=fun _ _ h=>TabAt.use (.node (.node (.node (.node (.node (.node (.node (.leaf Bd.jd) (.leaf Bd.jD)) (.node (.leaf Bd.fP) (.leaf Bd.jE))) (.node (.node (.leaf Bd.nH) (.leaf Bd.fJ)) (.node (.leaf Bd.oC) (.leaf Bd.lu)))) (.node (.node (.node (.leaf Bd.mg) (.leaf Bd.nO)) (.node (.leaf Bd.vF) (.leaf Bd.pF))) (.node (.node (.leaf Bd.kW) (.leaf Bd.nP)) (.node (.leaf Bd.og) (.node (.leaf Bd.vC) (.leaf Bd.kR)))))) (.node (.node (.node (.node (.leaf Bd.sO) (.leaf Bd.nZ)) (.node (.leaf Bd.oU) (.leaf Bd.jR))) (.node (.node (.leaf Bd.vG) (.leaf Bd.lW)) (.node (.leaf Bd.jB) (.node (.leaf Bd.pz) (.leaf Bd.rF))))) (.node (.node (.node (.leaf Bd.jA) (.leaf Bd.qp)) (.node (.leaf Bd.qZ) (.leaf Bd.nI))) (.node (.node (.leaf Bd.uD) (.leaf Bd.mP)) (.node (.leaf Bd.lC) (.node (.leaf Bd.jM) (.leaf Bd.D7))))))) (.node (.node (.node (.node (.node (.leaf Bd.lY) (.leaf Bd.nN)) (.node (.leaf Bd.jT) (.leaf Bd.jl))) (.node (.node (.leaf Bd.gI) (.leaf Bd.qg)) (.node (.leaf Bd.qw) (.node (.leaf Bd.rJ) (.leaf Bd.vw))))) (.node (.node (.node (.leaf Bd.uF) (.leaf Bd.lV)) (.node (.leaf Bd.pI) (.leaf Bd.zO))) (.node (.node (.leaf Bd.mQ) (.leaf Bd.kX)) (.node (.leaf Bd.oQ) (.node (.leaf Bd.vH) (.leaf Bd.nR)))))) (.node (.node (.node (.node (.leaf Bd.eH) (.leaf Bd.fF)) (.node (.leaf Bd.jP) (.leaf Bd.jQ))) (.node (.node (.leaf Bd.gy) (.leaf Bd.dh)) (.node (.leaf Bd.dW) (.node (.leaf Bd.nK) (.leaf Bd.uG))))) (.node (.node (.node (.leaf Bd.sK) (.leaf Bd.zQ)) (.node (.leaf Bd.aV) (.leaf Bd.iP))) (.node (.node (.leaf Bd.jC) (.leaf Bd.gG)) (.node (.leaf Bd.rH) (.node (.leaf Bd.kU) (.leaf Bd.pJ)))))))) (.node (.node (.node (.node (.node (.node (.leaf Bd.rU) (.leaf Bd.gq)) (.node (.leaf Bd.nM) (.leaf Bd.pO))) (.node (.node (.leaf Bd.CY) (.leaf Bd.sN)) (.node (.leaf Bd.cZ) (.leaf Bd.oD)))) (.node (.node (.node (.leaf Bd.kK) (.leaf Bd.iG)) (.node (.leaf Bd.aT) (.leaf Bd.lU))) (.node (.node (.leaf Bd.uz) (.leaf Bd.iK)) (.node (.leaf Bd.wz) (.node (.leaf Bd.mO) (.leaf Bd.CZ)))))) (.node (.node (.node (.node (.leaf Bd.fU) (.leaf Bd.iO)) (.node (.leaf Bd.gW) (.leaf Bd.jU))) (.node (.node (.leaf Bd.pR) (.leaf Bd.cmp_Compare_int)) (.node (.leaf Bd.ig) (.node (.leaf Bd.fZ) (.leaf Bd.dX))))) (.node (.node (.node (.leaf Bd.dK) (.leaf Bd.bI)) (.node (.leaf Bd.bM) (.leaf Bd.jF))) (.node (.node (.leaf Bd.iI) (.leaf Bd.zi)) (.node (.leaf Bd.xA) (.node (.leaf Bd.jy) (.leaf Bd.iU))))))) (.node (.node (.node (.node (.node (.leaf Bd.bC) (.leaf Bd.bG)) (.node (.leaf Bd.kV) (.leaf Bd.jG))) (.node (.node (.leaf Bd.dF) (.leaf Bd.mM)) (.node (.leaf Bd.pX) (.node (.leaf Bd.gV) (.leaf Bd.cmp_isNaN_int))))) (.node (.node (.node (.leaf Bd.kE) (.leaf Bd.iw)) (.node (.leaf Bd.gX) (.leaf Bd.fQ))) (.node (.node (.leaf Bd.eU) (.leaf Bd.bQ)) (.node (.leaf Bd.dG) (.node (.leaf Bd.oW) (.leaf Bd.kY)))))) (.node (.node (.node (.node (.leaf Bd.iL) (.leaf Bd.eF)) (.node (.leaf Bd.dU) (.leaf Bd.fK))) (.node (.node (.leaf Bd.cu) (.leaf Bd.iW)) (.node (.leaf Bd.lG) (.node (.leaf Bd.jg) (.leaf Bd.jJ))))) (.node (.node (.node (.leaf Bd.eG) (.leaf Bd.gY)) (.node (.leaf Bd.bD) (.leaf Bd.bW))) (.node (.node (.leaf Bd.pq) (.leaf Bd.mX)) (.node (.leaf Bd.fC) (.node (.leaf Bd.dB) (.leaf Bd.bK))))))))) h
end Go.Proofs.YtkomllaebngbfaaGreatDoor
namespace Go.Proofs
open Go.Shelf
def Tryz.laysM157_ren:Go.Shelf.Ren:=⟨fun|157=>191|229=>206|199=>207|261=>213|311=>215|312=>216|n=>n,fun|9=>9|31=>22|3=>3|5=>5|4=>4|119=>197|0=>0|40=>199|152=>206|21=>21|154=>208|51=>190|141=>210|196=>217|193=>214|198=>220|49=>218|194=>215|201=>223|226=>225|46=>106|227=>226|n=>n,fun|0=>0|6=>1|n=>n⟩
theorem Tryz.laysM157:Go.Proofs.LaysM.n157 Tryz.prog Tryz.laysM157_ren:= {
 mixed:=by kernel_rfl
 f157:=Tryz.func191.trans (congrArg some (by kernel_rfl))
 f199:=Tryz.func207.trans (congrArg some (by kernel_rfl))
 f229:=Tryz.func206.trans (congrArg some (by kernel_rfl))
 f261:=Tryz.func213.trans (congrArg some (by kernel_rfl))
 f311:=Tryz.func215.trans (congrArg some (by kernel_rfl))
 f312:=Tryz.func216.trans (congrArg some (by kernel_rfl))
 t0:=Tryz.underlying0
 a0:=Tryz.isAgg0
 z0:=Tryz.sizeOf0
 v0:=Tryz.zeroValue0
 t3:=Tryz.underlying3
 a3:=Tryz.isAgg3
 z3:=Tryz.sizeOf3
 v3:=Tryz.zeroValue3
 t4:=Tryz.underlying4
 a4:=Tryz.isAgg4
 z4:=Tryz.sizeOf4
 v4:=Tryz.zeroValue4
 t5:=Tryz.underlying5
 a5:=Tryz.isAgg5
 z5:=Tryz.sizeOf5
 v5:=Tryz.zeroValue5
 t9:=Tryz.underlying9
 a9:=Tryz.isAgg9
 z9:=Tryz.sizeOf9
 v9:=Tryz.zeroValue9
 t21:=Tryz.underlying21
 a21:=Tryz.isAgg21
 z21:=Tryz.sizeOf21
 v21:=Tryz.zeroValue21
 t31:=Tryz.underlying22
 a31:=Tryz.isAgg22
 z31:=Tryz.sizeOf22
 v31:=Tryz.zeroValue22
 t40:=Tryz.underlying199
 a40:=Tryz.isAgg199
 z40:=Tryz.sizeOf199
 v40:=Tryz.zeroValue199
 t46:=Tryz.underlying106
 a46:=Tryz.isAgg106
 z46:=Tryz.sizeOf106
 v46:=Tryz.zeroValue106
 t49:=Tryz.underlying218
 a49:=Tryz.isAgg218
 z49:=Tryz.sizeOf218
 v49:=Tryz.zeroValue218
 t51:=Tryz.underlying190
 a51:=Tryz.isAgg190
 z51:=Tryz.sizeOf190
 v51:=Tryz.zeroValue190
 t119:=Tryz.underlying197
 a119:=Tryz.isAgg197
 z119:=Tryz.sizeOf197
 t141:=Tryz.underlying210
 a141:=Tryz.isAgg210
 z141:=Tryz.sizeOf210
 v141:=Tryz.zeroValue210
 t152:=Tryz.underlying206
 a152:=Tryz.isAgg206
 z152:=Tryz.sizeOf206
 v152:=Tryz.zeroValue206
 t154:=Tryz.underlying208
 a154:=Tryz.isAgg208
 z154:=Tryz.sizeOf208
 v154:=Tryz.zeroValue208
 t193:=Tryz.underlying214
 a193:=Tryz.isAgg214
 z193:=Tryz.sizeOf214
 v193:=Tryz.zeroValue214
 t194:=Tryz.underlying215
 a194:=Tryz.isAgg215
 z194:=Tryz.sizeOf215
 v194:=Tryz.zeroValue215
 t196:=Tryz.underlying217
 a196:=Tryz.isAgg217
 z196:=Tryz.sizeOf217
 v196:=Tryz.zeroValue217
 t198:=Tryz.underlying220
 a198:=Tryz.isAgg220
 z198:=Tryz.sizeOf220
 v198:=Tryz.zeroValue220
 t201:=Tryz.underlying223
 a201:=Tryz.isAgg223
 z201:=Tryz.sizeOf223
 v201:=Tryz.zeroValue223
 t226:=Tryz.underlying225
 a226:=Tryz.isAgg225
 z226:=Tryz.sizeOf225
 v226:=Tryz.zeroValue225
 t227:=Tryz.underlying226
 a227:=Tryz.isAgg226
 z227:=Tryz.sizeOf226
 v227:=Tryz.zeroValue226
 g0:=by kernel_rfl
 g6:=by kernel_rfl
 i0:=by kernel_rfl
 i3:=by kernel_rfl
 i4:=by kernel_rfl
 i5:=by kernel_rfl
 i9:=by kernel_rfl
 i21:=by kernel_rfl
 i31:=by kernel_rfl
 i40:=by kernel_rfl
 i46:=by kernel_rfl
 i49:=by kernel_rfl
 i51:=by kernel_rfl
 i141:=by kernel_rfl
 i152:=by kernel_rfl
 i154:=by kernel_rfl
 i193:=by kernel_rfl
 i194:=by kernel_rfl
 i196:=by kernel_rfl
 i198:=by kernel_rfl
 i201:=by kernel_rfl
 i226:=by kernel_rfl
 i227:=by kernel_rfl
 m0:=by kernel_rfl
 m6:=by kernel_rfl}
def Tryz.layGrow_ren:Go.Shelf.Ren:=⟨fun|4=>202|n=>n,fun|22=>22|25=>9|3=>3|4=>4|9=>9|20=>20|0=>0|n=>n,fun|n=>n⟩
theorem Tryz.layGrow:Go.Proofs.Lays8.n4 Tryz.prog Tryz.layGrow_ren:= {
 mixed:=by kernel_rfl
 f4:=⟨Tryz.f202.name,by decide,Tryz.func202.trans (congrArg some (by kernel_rfl))⟩
 t0:=Tryz.underlying0
 a0:=Tryz.isAgg0
 z0:=Tryz.sizeOf0
 v0:=Tryz.zeroValue0
 t3:=Tryz.underlying3
 a3:=Tryz.isAgg3
 z3:=Tryz.sizeOf3
 v3:=Tryz.zeroValue3
 t4:=Tryz.underlying4
 a4:=Tryz.isAgg4
 z4:=Tryz.sizeOf4
 v4:=Tryz.zeroValue4
 t9:=Tryz.underlying9
 a9:=Tryz.isAgg9
 z9:=Tryz.sizeOf9
 v9:=Tryz.zeroValue9
 t20:=Tryz.underlying20
 a20:=Tryz.isAgg20
 z20:=Tryz.sizeOf20
 v20:=Tryz.zeroValue20
 t22:=Tryz.underlying22
 a22:=Tryz.isAgg22
 z22:=Tryz.sizeOf22
 v22:=Tryz.zeroValue22}
def Tryz.laySort_ren:Go.Shelf.Ren:=⟨fun|6=>160|15=>177|14=>176|28=>200|29=>201|20=>192|21=>193|22=>194|23=>195|24=>196|25=>197|26=>198|27=>199|46=>208|47=>209|48=>210|49=>211|50=>212|57=>214|n=>n,fun|22=>44|24=>50|25=>108|3=>3|39=>106|0=>0|53=>190|55=>192|4=>4|46=>184|45=>183|50=>123|5=>5|9=>9|66=>200|70=>204|76=>211|77=>212|n=>n,fun|n=>n⟩
theorem Tryz.laySort:Go.Proofs.SlLaysF0.n6 Tryz.prog Tryz.laySort_ren:= {
 mixed:=by kernel_rfl
 f6:=⟨Tryz.f160.name,by decide,Tryz.func160.trans (congrArg some (by kernel_rfl))⟩
 f14:=⟨Tryz.f176.name,by decide,Tryz.func176.trans (congrArg some (by kernel_rfl))⟩
 f15:=Tryz.func177.trans (congrArg some (by kernel_rfl))
 f20:=⟨Tryz.f192.name,by decide,Tryz.func192.trans (congrArg some (by kernel_rfl))⟩
 f21:=⟨Tryz.f193.name,by decide,Tryz.func193.trans (congrArg some (by kernel_rfl))⟩
 f22:=⟨Tryz.f194.name,by decide,Tryz.func194.trans (congrArg some (by kernel_rfl))⟩
 f23:=⟨Tryz.f195.name,by decide,Tryz.func195.trans (congrArg some (by kernel_rfl))⟩
 f24:=⟨Tryz.f196.name,by decide,Tryz.func196.trans (congrArg some (by kernel_rfl))⟩
 f25:=⟨Tryz.f197.name,by decide,Tryz.func197.trans (congrArg some (by kernel_rfl))⟩
 f26:=⟨Tryz.f198.name,by decide,Tryz.func198.trans (congrArg some (by kernel_rfl))⟩
 f27:=⟨Tryz.f199.name,by decide,Tryz.func199.trans (congrArg some (by kernel_rfl))⟩
 f28:=Tryz.func200.trans (congrArg some (by kernel_rfl))
 f29:=Tryz.func201.trans (congrArg some (by kernel_rfl))
 f46:=⟨Tryz.f208.name,by decide,Tryz.func208.trans (congrArg some (by kernel_rfl))⟩
 f47:=Tryz.func209.trans (congrArg some (by kernel_rfl))
 f48:=Tryz.func210.trans (congrArg some (by kernel_rfl))
 f49:=⟨Tryz.f211.name,by decide,Tryz.func211.trans (congrArg some (by kernel_rfl))⟩
 f50:=⟨Tryz.f212.name,by decide,Tryz.func212.trans (congrArg some (by kernel_rfl))⟩
 f57:=⟨Tryz.f214.name,by decide,Tryz.func214.trans (congrArg some (by kernel_rfl))⟩
 t0:=Tryz.underlying0
 a0:=Tryz.isAgg0
 z0:=Tryz.sizeOf0
 v0:=Tryz.zeroValue0
 t3:=Tryz.underlying3
 a3:=Tryz.isAgg3
 z3:=Tryz.sizeOf3
 v3:=Tryz.zeroValue3
 t4:=Tryz.underlying4
 a4:=Tryz.isAgg4
 z4:=Tryz.sizeOf4
 v4:=Tryz.zeroValue4
 t5:=Tryz.underlying5
 a5:=Tryz.isAgg5
 z5:=Tryz.sizeOf5
 v5:=Tryz.zeroValue5
 t9:=Tryz.underlying9
 a9:=Tryz.isAgg9
 z9:=Tryz.sizeOf9
 v9:=Tryz.zeroValue9
 t22:=Tryz.underlying44
 a22:=Tryz.isAgg44
 z22:=Tryz.sizeOf44
 v22:=Tryz.zeroValue44
 t25:=Tryz.underlying108
 a25:=Tryz.isAgg108
 z25:=Tryz.sizeOf108
 v25:=Tryz.zeroValue108
 t39:=Tryz.underlying106
 a39:=Tryz.isAgg106
 z39:=Tryz.sizeOf106
 v39:=Tryz.zeroValue106
 t45:=Tryz.underlying183
 a45:=Tryz.isAgg183
 z45:=Tryz.sizeOf183
 v45:=Tryz.zeroValue183
 t46:=Tryz.underlying184
 a46:=Tryz.isAgg184
 z46:=Tryz.sizeOf184
 v46:=Tryz.zeroValue184
 t50:=Tryz.underlying123
 a50:=Tryz.isAgg123
 z50:=Tryz.sizeOf123
 v50:=Tryz.zeroValue123
 t53:=Tryz.underlying190
 a53:=Tryz.isAgg190
 z53:=Tryz.sizeOf190
 v53:=Tryz.zeroValue190
 t55:=Tryz.underlying192
 a55:=Tryz.isAgg192
 z55:=Tryz.sizeOf192
 v55:=Tryz.zeroValue192
 t66:=Tryz.underlying200
 a66:=Tryz.isAgg200
 z66:=Tryz.sizeOf200
 v66:=Tryz.zeroValue200
 t70:=Tryz.underlying204
 a70:=Tryz.isAgg204
 z70:=Tryz.sizeOf204
 v70:=Tryz.zeroValue204
 t76:=Tryz.underlying211
 a76:=Tryz.isAgg211
 z76:=Tryz.sizeOf211
 v76:=Tryz.zeroValue211
 t77:=Tryz.underlying212
 a77:=Tryz.isAgg212
 z77:=Tryz.sizeOf212
 v77:=Tryz.zeroValue212}
end Go.Proofs
