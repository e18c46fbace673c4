/-
 The codes of the program's functions, in the form that the layer reads, and that they are these. No condition.
-/
import Derived.Shelf.SlGeneric
import Derived.Shelf.LaysM
import Derived.Shelf.Strings.SplitShaped
import Derived.Shelf.Strings.OnBuilder
import Derived.Shelf.Strings.BuilderK
import Derived.Shelf.Spec.SlicesGrow
import Derived.Ground.NamesProg
import Derived.Shelf.SlSortCmp.WholeK
import Derived.Ground.SlsfProg
import Derived.Test.YtajmbgljnaljiaaGreatDoorProg
import Derived.Test.YtajmbgljnaljiaaGreatDoorSb
import Derived.Test.YtajmbgljnaljiaaGreatDoorLg
namespace Go.Proofs.YtajmbgljnaljiaaGreatDoor
open Go.Ab Go.Proofs
set_option maxRecDepth 100000
def Xr(f:Nat):Option FnX :=
 (bif Nat.blt f 87 then(bif Nat.blt f 51 then(bif Nat.blt f 31 then(bif Nat.blt f 23 then(bif Nat.blt f 14 then(bif Nat.blt f 10 then(bif Nat.blt f 9 then(bif Nat.beq f 3 then some ⟨C.jP,[.slot 4],32⟩ else none) else(bif Nat.beq f 9 then some ⟨C.rU,[.slot 4,.slot 5],27⟩ else none)) else(bif Nat.blt f 11 then(bif Nat.beq f 10 then some ⟨C.vk,[.slot 4,.slot 5],52⟩ else none) else(bif Nat.beq f 11 then some ⟨C.pG,[.slot 0],60⟩ else none))) else(bif Nat.blt f 17 then(bif Nat.blt f 15 then(bif Nat.beq f 14 then some ⟨C.kP,[.slot 4],26⟩ else none) else(bif Nat.beq f 15 then some ⟨C.mX,[.slot 6],23⟩ else none)) else(bif Nat.blt f 22 then(bif Nat.beq f 17 then some ⟨C.nY,[.slot 6,.slot 7,.slot 8],62⟩ else none) else(bif Nat.beq f 22 then some ⟨C.jL,[.slot 6],20⟩ else none)))) else(bif Nat.blt f 27 then(bif Nat.blt f 25 then(bif Nat.blt f 24 then(bif Nat.beq f 23 then some ⟨C.pq,[.slot 4],40⟩ else none) else(bif Nat.beq f 24 then some ⟨C.vg,[.slot 4],45⟩ else none)) else(bif Nat.blt f 26 then(bif Nat.beq f 25 then some ⟨C.uU,[.slot 6],20⟩ else none) else(bif Nat.beq f 26 then some ⟨C.rQ,[.slot 4],54⟩ else none))) else(bif Nat.blt f 29 then(bif Nat.blt f 28 then(bif Nat.beq f 27 then some ⟨C.oJ,[.cell 2 3],10⟩ else none) else(bif Nat.beq f 28 then some ⟨C.lM,[.slot 4],48⟩ else none)) else(bif Nat.blt f 30 then(bif Nat.beq f 29 then some ⟨C.kQ,[.cell 0 11],6⟩ else none) else(bif Nat.beq f 30 then some ⟨C.jG,[.cell 0 7],3⟩ else none))))) else(bif Nat.blt f 42 then(bif Nat.blt f 35 then(bif Nat.blt f 33 then(bif Nat.blt f 32 then(bif Nat.beq f 31 then some ⟨C.Bz,[.slot 6,.slot 7],29⟩ else none) else(bif Nat.beq f 32 then some ⟨C.ES,[.slot 4],27⟩ else none)) else(bif Nat.blt f 34 then(bif Nat.beq f 33 then some ⟨C.mY,[.slot 4],26⟩ else none) else(bif Nat.beq f 34 then some ⟨C.uF,[.cell 4 14],95⟩ else none))) else(bif Nat.blt f 40 then(bif Nat.blt f 38 then(bif Nat.beq f 35 then some ⟨C.lX,[.slot 4],163⟩ else none) else(bif Nat.beq f 38 then some ⟨C.lY,[.slot 4],52⟩ else none)) else(bif Nat.blt f 41 then(bif Nat.beq f 40 then some ⟨C.DU,[.slot 4],47⟩ else none) else(bif Nat.beq f 41 then some ⟨C.o7,[.slot 4],14⟩ else none)))) else(bif Nat.blt f 46 then(bif Nat.blt f 44 then(bif Nat.blt f 43 then(bif Nat.beq f 42 then some ⟨C.mM,[],34⟩ else none) else(bif Nat.beq f 43 then some ⟨C.aV,[.slot 4],9⟩ else none)) else(bif Nat.blt f 45 then(bif Nat.beq f 44 then some ⟨C.kY,[.slot 3],8⟩ else none) else(bif Nat.beq f 45 then some ⟨C.fZ,[.slot 4],17⟩ else none))) else(bif Nat.blt f 48 then(bif Nat.blt f 47 then(bif Nat.beq f 46 then some ⟨C.jF,[.slot 4],25⟩ else none) else(bif Nat.beq f 47 then some ⟨C.lK,[.slot 4],39⟩ else none)) else(bif Nat.blt f 49 then(bif Nat.beq f 48 then some ⟨C.rG,[.slot 4],63⟩ else none) else(bif Nat.blt f 50 then(bif Nat.beq f 49 then some ⟨C.pW,[.slot 2],7⟩ else none) else(bif Nat.beq f 50 then some ⟨C.rD,[.slot 4],14⟩ else none))))))) else(bif Nat.blt f 70 then(bif Nat.blt f 59 then(bif Nat.blt f 55 then(bif Nat.blt f 53 then(bif Nat.blt f 52 then(bif Nat.beq f 51 then some ⟨C.sU,[.slot 4],49⟩ else none) else(bif Nat.beq f 52 then some ⟨C.pF,[.slot 4],16⟩ else none)) else(bif Nat.blt f 54 then(bif Nat.beq f 53 then some ⟨C.pJ,[.slot 4],62⟩ else none) else(bif Nat.beq f 54 then some ⟨C.uY,[.slot 6],39⟩ else none))) else(bif Nat.blt f 57 then(bif Nat.blt f 56 then(bif Nat.beq f 55 then some ⟨C.qX,[.slot 4],22⟩ else none) else(bif Nat.beq f 56 then some ⟨C.oW,[.slot 4],26⟩ else none)) else(bif Nat.blt f 58 then(bif Nat.beq f 57 then some ⟨C.lH,[.slot 4],20⟩ else none) else(bif Nat.beq f 58 then some ⟨C.rF,[.cell 4 3,.slot 5],118⟩ else none)))) else(bif Nat.blt f 63 then(bif Nat.blt f 61 then(bif Nat.blt f 60 then(bif Nat.beq f 59 then some ⟨C.aX,[.slot 6,.slot 7],49⟩ else none) else(bif Nat.beq f 60 then some ⟨C.jZ,[.slot 6],34⟩ else none)) else(bif Nat.blt f 62 then(bif Nat.beq f 61 then some ⟨C.uG,[.slot 4],29⟩ else none) else(bif Nat.beq f 62 then some ⟨C.sO,[.slot 4],15⟩ else none))) else(bif Nat.blt f 68 then(bif Nat.blt f 66 then(bif Nat.beq f 63 then some ⟨C.zx,[.slot 4],34⟩ else none) else(bif Nat.beq f 66 then some ⟨C.iJ,[.slot 4],9⟩ else none)) else(bif Nat.blt f 69 then(bif Nat.beq f 68 then some ⟨C.dw,[.slot 4],116⟩ else none) else(bif Nat.beq f 69 then some ⟨C.iV,[.slot 2],18⟩ else none))))) else(bif Nat.blt f 78 then(bif Nat.blt f 74 then(bif Nat.blt f 72 then(bif Nat.blt f 71 then(bif Nat.beq f 70 then some ⟨C.bF,[.slot 4],19⟩ else none) else(bif Nat.beq f 71 then some ⟨C.pK,[.slot 2],18⟩ else none)) else(bif Nat.blt f 73 then(bif Nat.beq f 72 then some ⟨C.cmp_Compare_int,[.slot 4],20⟩ else none) else(bif Nat.beq f 73 then some ⟨C.gX,[.slot 4],36⟩ else none))) else(bif Nat.blt f 76 then(bif Nat.blt f 75 then(bif Nat.beq f 74 then some ⟨C.gu,[.slot 4],9⟩ else none) else(bif Nat.beq f 75 then some ⟨C.jv,[.slot 4,.slot 5],23⟩ else none)) else(bif Nat.blt f 77 then(bif Nat.beq f 76 then some ⟨C.kF,[.slot 4],70⟩ else none) else(bif Nat.beq f 77 then some ⟨C.kT,[.cell 2 3],29⟩ else none)))) else(bif Nat.blt f 82 then(bif Nat.blt f 80 then(bif Nat.blt f 79 then(bif Nat.beq f 78 then some ⟨C.aS,[],14⟩ else none) else(bif Nat.beq f 79 then some ⟨C.bg,[.slot 4],66⟩ else none)) else(bif Nat.blt f 81 then(bif Nat.beq f 80 then some ⟨C.kG,[.slot 4],9⟩ else none) else(bif Nat.beq f 81 then some ⟨C.dX,[.slot 4],181⟩ else none))) else(bif Nat.blt f 84 then(bif Nat.blt f 83 then(bif Nat.beq f 82 then some ⟨C.o8,[.slot 2],16⟩ else none) else(bif Nat.beq f 83 then some ⟨C.pz,[.slot 4,.slot 5],16⟩ else none)) else(bif Nat.blt f 85 then(bif Nat.beq f 84 then some ⟨C.rO,[.slot 2],38⟩ else none) else(bif Nat.blt f 86 then(bif Nat.beq f 85 then some ⟨C.nI,[.slot 4],23⟩ else none) else(bif Nat.beq f 86 then some ⟨C.rJ,[.slot 2],51⟩ else none)))))))) else(bif Nat.blt f 123 then(bif Nat.blt f 106 then(bif Nat.blt f 97 then(bif Nat.blt f 91 then(bif Nat.blt f 89 then(bif Nat.blt f 88 then(bif Nat.beq f 87 then some ⟨C.uZ,[.cell 4 3,.slot 5],142⟩ else none) else(bif Nat.beq f 88 then some ⟨C.o9,[.cell 2 3],25⟩ else none)) else(bif Nat.blt f 90 then(bif Nat.beq f 89 then some ⟨C.lZ,[.slot 4],14⟩ else none) else(bif Nat.beq f 90 then some ⟨C.lF,[.slot 2],28⟩ else none))) else(bif Nat.blt f 93 then(bif Nat.blt f 92 then(bif Nat.beq f 91 then some ⟨C.rX,[.slot 4],46⟩ else none) else(bif Nat.beq f 92 then some ⟨C.fQ,[.slot 2],8⟩ else none)) else(bif Nat.blt f 94 then(bif Nat.beq f 93 then some ⟨C.nH,[.slot 4],44⟩ else none) else(bif Nat.beq f 94 then some ⟨C.wU,[.slot 4],34⟩ else none)))) else(bif Nat.blt f 102 then(bif Nat.blt f 100 then(bif Nat.blt f 99 then(bif Nat.beq f 97 then some ⟨C.jr,[.slot 4],19⟩ else none) else(bif Nat.beq f 99 then some ⟨C.fM,[.slot 2],157⟩ else none)) else(bif Nat.blt f 101 then(bif Nat.beq f 100 then some ⟨C.dY,[.slot 2],46⟩ else none) else(bif Nat.beq f 101 then some ⟨C.dJ,[.slot 4],38⟩ else none))) else(bif Nat.blt f 104 then(bif Nat.blt f 103 then(bif Nat.beq f 102 then some ⟨C.bM,[.slot 2],15⟩ else none) else(bif Nat.beq f 103 then some ⟨C.bU,[.slot 4],7⟩ else none)) else(bif Nat.blt f 105 then(bif Nat.beq f 104 then some ⟨C.jy,[.slot 4],39⟩ else none) else(bif Nat.beq f 105 then some ⟨C.iE,[.slot 4],30⟩ else none))))) else(bif Nat.blt f 114 then(bif Nat.blt f 110 then(bif Nat.blt f 108 then(bif Nat.blt f 107 then(bif Nat.beq f 106 then some ⟨C.iC,[.cell 2 6,.slot 3],112⟩ else none) else(bif Nat.beq f 107 then some ⟨C.cmp_isNaN_int,[.slot 2],6⟩ else none)) else(bif Nat.blt f 109 then(bif Nat.beq f 108 then some ⟨C.iR,[.slot 4],19⟩ else none) else(bif Nat.beq f 109 then some ⟨C.cu,[],148⟩ else none))) else(bif Nat.blt f 112 then(bif Nat.blt f 111 then(bif Nat.beq f 110 then some ⟨C.oN,[.slot 2],8⟩ else none) else(bif Nat.beq f 111 then some ⟨C.kJ,[.slot 2],178⟩ else none)) else(bif Nat.blt f 113 then(bif Nat.beq f 112 then some ⟨C.iw,[.slot 2],58⟩ else none) else(bif Nat.beq f 113 then some ⟨C.iG,[.slot 4],37⟩ else none)))) else(bif Nat.blt f 118 then(bif Nat.blt f 116 then(bif Nat.blt f 115 then(bif Nat.beq f 114 then some ⟨C.yQ,[.slot 4],18⟩ else none) else(bif Nat.beq f 115 then some ⟨C.aU,[.slot 6],15⟩ else none)) else(bif Nat.blt f 117 then(bif Nat.beq f 116 then some ⟨C.lJ,[.cell 2 6,.slot 3],105⟩ else none) else(bif Nat.beq f 117 then some ⟨C.jA,[.slot 4],15⟩ else none))) else(bif Nat.blt f 120 then(bif Nat.blt f 119 then(bif Nat.beq f 118 then some ⟨C.Cm,[.slot 4],18⟩ else none) else(bif Nat.beq f 119 then some ⟨C.vw,[.slot 4],20⟩ else none)) else(bif Nat.blt f 121 then(bif Nat.beq f 120 then some ⟨C.nK,[.slot 4],23⟩ else none) else(bif Nat.blt f 122 then(bif Nat.beq f 121 then some ⟨C.mZ,[.slot 2],23⟩ else none) else(bif Nat.beq f 122 then some ⟨C.mg,[.slot 4],32⟩ else none))))))) else(bif Nat.blt f 148 then(bif Nat.blt f 139 then(bif Nat.blt f 128 then(bif Nat.blt f 126 then(bif Nat.blt f 125 then(bif Nat.beq f 123 then some ⟨C.kU,[.slot 2],18⟩ else none) else(bif Nat.beq f 125 then some ⟨C.jU,[.slot 2],32⟩ else none)) else(bif Nat.blt f 127 then(bif Nat.beq f 126 then some ⟨C.gZ,[.slot 2],21⟩ else none) else(bif Nat.beq f 127 then some ⟨C.gK,[.slot 4],188⟩ else none))) else(bif Nat.blt f 130 then(bif Nat.blt f 129 then(bif Nat.beq f 128 then some ⟨C.fK,[.slot 2],33⟩ else none) else(bif Nat.beq f 129 then some ⟨C.eX,[.slot 2],6⟩ else none)) else(bif Nat.blt f 131 then(bif Nat.beq f 130 then some ⟨C.bV,[.slot 4],13⟩ else none) else(bif Nat.beq f 131 then some ⟨C.bH,[],53⟩ else none)))) else(bif Nat.blt f 143 then(bif Nat.blt f 141 then(bif Nat.blt f 140 then(bif Nat.beq f 139 then some ⟨C.oZ,[.slot 2],19⟩ else none) else(bif Nat.beq f 140 then some ⟨C.mG,[.slot 2],25⟩ else none)) else(bif Nat.blt f 142 then(bif Nat.beq f 141 then some ⟨C.lI,[.slot 4],18⟩ else none) else(bif Nat.beq f 142 then some ⟨C.uD,[.slot 2],21⟩ else none))) else(bif Nat.blt f 145 then(bif Nat.blt f 144 then(bif Nat.beq f 143 then some ⟨C.vX,[.slot 4],276⟩ else none) else(bif Nat.beq f 144 then some ⟨C.lW,[.slot 2],43⟩ else none)) else(bif Nat.blt f 146 then(bif Nat.beq f 145 then some ⟨C.lV,[.slot 0],2⟩ else none) else(bif Nat.blt f 147 then(bif Nat.beq f 146 then some ⟨C.kK,[.slot 2],6⟩ else none) else(bif Nat.beq f 147 then some ⟨C.CJ,[.slot 4],18⟩ else none)))))) else(bif Nat.blt f 156 then(bif Nat.blt f 152 then(bif Nat.blt f 150 then(bif Nat.blt f 149 then(bif Nat.beq f 148 then some ⟨C.eH,[.slot 2],36⟩ else none) else(bif Nat.beq f 149 then some ⟨C.dW,[.slot 4],9⟩ else none)) else(bif Nat.blt f 151 then(bif Nat.beq f 150 then some ⟨C.fF,[.slot 2],9⟩ else none) else(bif Nat.beq f 151 then some ⟨C.cZ,[.slot 4],9⟩ else none))) else(bif Nat.blt f 154 then(bif Nat.blt f 153 then(bif Nat.beq f 152 then some ⟨C.iU,[.slot 3],9⟩ else none) else(bif Nat.beq f 153 then some ⟨C.kW,[.slot 4],17⟩ else none)) else(bif Nat.blt f 155 then(bif Nat.beq f 154 then some ⟨C.jd,[.slot 4],105⟩ else none) else(bif Nat.beq f 155 then some ⟨C.jD,[.slot 4],44⟩ else none)))) else(bif Nat.blt f 166 then(bif Nat.blt f 158 then(bif Nat.blt f 157 then(bif Nat.beq f 156 then some ⟨C.eP,[.slot 4],15⟩ else none) else(bif Nat.beq f 157 then some ⟨C.gQ,[.slot 4],25⟩ else none)) else(bif Nat.blt f 165 then(bif Nat.beq f 158 then some ⟨C.bI,[.slot 4],9⟩ else none) else(bif Nat.beq f 165 then some ⟨C.pV,[.slot 4],136⟩ else none))) else(bif Nat.blt f 169 then(bif Nat.blt f 168 then(bif Nat.beq f 166 then some ⟨C.gJ,[.slot 4],19⟩ else none) else(bif Nat.beq f 168 then some ⟨C.fD,[.slot 4],19⟩ else none)) else(bif Nat.blt f 170 then(bif Nat.beq f 169 then some ⟨C.dF,[.slot 4],19⟩ else none) else(bif Nat.blt f 174 then(bif Nat.beq f 170 then some ⟨C.bT,[.slot 4],19⟩ else none) else(bif Nat.beq f 174 then some ⟨C.iH,[.slot 4],24⟩ else none)))))))))
theorem EO:ac6 Tryz.prog Xr:=fun _ _ h=>TabAt.use (.node (.node (.node (.node (.node (.node (.node (.leaf Bd.jP) (.leaf Bd.rU)) (.node (.leaf Bd.vk) (.leaf Bd.pG))) (.node (.node (.leaf Bd.kP) (.leaf Bd.mX)) (.node (.leaf Bd.nY) (.leaf Bd.jL)))) (.node (.node (.node (.leaf Bd.pq) (.leaf Bd.vg)) (.node (.leaf Bd.uU) (.leaf Bd.rQ))) (.node (.node (.leaf Bd.oJ) (.leaf Bd.lM)) (.node (.leaf Bd.kQ) (.leaf Bd.jG))))) (.node (.node (.node (.node (.leaf Bd.Bz) (.leaf Bd.ES)) (.node (.leaf Bd.mY) (.leaf Bd.uF))) (.node (.node (.leaf Bd.lX) (.leaf Bd.lY)) (.node (.leaf Bd.DU) (.leaf Bd.o7)))) (.node (.node (.node (.leaf Bd.mM) (.leaf Bd.aV)) (.node (.leaf Bd.kY) (.leaf Bd.fZ))) (.node (.node (.leaf Bd.jF) (.leaf Bd.lK)) (.node (.leaf Bd.rG) (.node (.leaf Bd.pW) (.leaf Bd.rD))))))) (.node (.node (.node (.node (.node (.leaf Bd.sU) (.leaf Bd.pF)) (.node (.leaf Bd.pJ) (.leaf Bd.uY))) (.node (.node (.leaf Bd.qX) (.leaf Bd.oW)) (.node (.leaf Bd.lH) (.leaf Bd.rF)))) (.node (.node (.node (.leaf Bd.aX) (.leaf Bd.jZ)) (.node (.leaf Bd.uG) (.leaf Bd.sO))) (.node (.node (.leaf Bd.zx) (.leaf Bd.iJ)) (.node (.leaf Bd.dw) (.leaf Bd.iV))))) (.node (.node (.node (.node (.leaf Bd.bF) (.leaf Bd.pK)) (.node (.leaf Bd.cmp_Compare_int) (.leaf Bd.gX))) (.node (.node (.leaf Bd.gu) (.leaf Bd.jv)) (.node (.leaf Bd.kF) (.leaf Bd.kT)))) (.node (.node (.node (.leaf Bd.aS) (.leaf Bd.bg)) (.node (.leaf Bd.kG) (.leaf Bd.dX))) (.node (.node (.leaf Bd.o8) (.leaf Bd.pz)) (.node (.leaf Bd.rO) (.node (.leaf Bd.nI) (.leaf Bd.rJ)))))))) (.node (.node (.node (.node (.node (.node (.leaf Bd.uZ) (.leaf Bd.o9)) (.node (.leaf Bd.lZ) (.leaf Bd.lF))) (.node (.node (.leaf Bd.rX) (.leaf Bd.fQ)) (.node (.leaf Bd.nH) (.leaf Bd.wU)))) (.node (.node (.node (.leaf Bd.jr) (.leaf Bd.fM)) (.node (.leaf Bd.dY) (.leaf Bd.dJ))) (.node (.node (.leaf Bd.bM) (.leaf Bd.bU)) (.node (.leaf Bd.jy) (.leaf Bd.iE))))) (.node (.node (.node (.node (.leaf Bd.iC) (.leaf Bd.cmp_isNaN_int)) (.node (.leaf Bd.iR) (.leaf Bd.cu))) (.node (.node (.leaf Bd.oN) (.leaf Bd.kJ)) (.node (.leaf Bd.iw) (.leaf Bd.iG)))) (.node (.node (.node (.leaf Bd.yQ) (.leaf Bd.aU)) (.node (.leaf Bd.lJ) (.leaf Bd.jA))) (.node (.node (.leaf Bd.Cm) (.leaf Bd.vw)) (.node (.leaf Bd.nK) (.node (.leaf Bd.mZ) (.leaf Bd.mg))))))) (.node (.node (.node (.node (.node (.leaf Bd.kU) (.leaf Bd.jU)) (.node (.leaf Bd.gZ) (.leaf Bd.gK))) (.node (.node (.leaf Bd.fK) (.leaf Bd.eX)) (.node (.leaf Bd.bV) (.leaf Bd.bH)))) (.node (.node (.node (.leaf Bd.oZ) (.leaf Bd.mG)) (.node (.leaf Bd.lI) (.leaf Bd.uD))) (.node (.node (.leaf Bd.vX) (.leaf Bd.lW)) (.node (.leaf Bd.lV) (.node (.leaf Bd.kK) (.leaf Bd.CJ)))))) (.node (.node (.node (.node (.leaf Bd.eH) (.leaf Bd.dW)) (.node (.leaf Bd.fF) (.leaf Bd.cZ))) (.node (.node (.leaf Bd.iU) (.leaf Bd.kW)) (.node (.leaf Bd.jd) (.leaf Bd.jD)))) (.node (.node (.node (.leaf Bd.eP) (.leaf Bd.gQ)) (.node (.leaf Bd.bI) (.leaf Bd.pV))) (.node (.node (.leaf Bd.gJ) (.leaf Bd.fD)) (.node (.leaf Bd.dF) (.node (.leaf Bd.bT) (.leaf Bd.iH))))))))) h
end Go.Proofs.YtajmbgljnaljiaaGreatDoor
namespace Go.Proofs
open Go.Shelf
def Tryz.laysM157_ren:Go.Shelf.Ren:=⟨fun|157=>159|229=>171|199=>172|261=>175|311=>176|312=>177|n=>n,fun|9=>9|31=>22|3=>3|5=>5|4=>4|119=>179|0=>0|40=>181|152=>186|21=>21|154=>188|51=>154|141=>190|196=>194|193=>191|198=>197|49=>195|194=>192|201=>200|226=>202|46=>77|227=>203|n=>n,fun|0=>0|6=>1|n=>n⟩
theorem Tryz.laysM157:Go.Proofs.LaysM.n157 Tryz.prog Tryz.laysM157_ren:= {
 mixed:=by kernel_rfl
 f157:=Tryz.func159.trans (congrArg some (by kernel_rfl))
 f199:=Tryz.func172.trans (congrArg some (by kernel_rfl))
 f229:=Tryz.func171.trans (congrArg some (by kernel_rfl))
 f261:=Tryz.func175.trans (congrArg some (by kernel_rfl))
 f311:=Tryz.func176.trans (congrArg some (by kernel_rfl))
 f312:=Tryz.func177.trans (congrArg some (by kernel_rfl))
 t0:=Tryz.underlying0
 a0:=Tryz.isAgg0
 z0:=Tryz.sizeOf0
 v0:=Tryz.zeroValue0
 t3:=Tryz.underlying3
 a3:=Tryz.isAgg3
 z3:=Tryz.sizeOf3
 v3:=Tryz.zeroValue3
 t4:=Tryz.underlying4
 a4:=Tryz.isAgg4
 z4:=Tryz.sizeOf4
 v4:=Tryz.zeroValue4
 t5:=Tryz.underlying5
 a5:=Tryz.isAgg5
 z5:=Tryz.sizeOf5
 v5:=Tryz.zeroValue5
 t9:=Tryz.underlying9
 a9:=Tryz.isAgg9
 z9:=Tryz.sizeOf9
 v9:=Tryz.zeroValue9
 t21:=Tryz.underlying21
 a21:=Tryz.isAgg21
 z21:=Tryz.sizeOf21
 v21:=Tryz.zeroValue21
 t31:=Tryz.underlying22
 a31:=Tryz.isAgg22
 z31:=Tryz.sizeOf22
 v31:=Tryz.zeroValue22
 t40:=Tryz.underlying181
 a40:=Tryz.isAgg181
 z40:=Tryz.sizeOf181
 v40:=Tryz.zeroValue181
 t46:=Tryz.underlying77
 a46:=Tryz.isAgg77
 z46:=Tryz.sizeOf77
 v46:=Tryz.zeroValue77
 t49:=Tryz.underlying195
 a49:=Tryz.isAgg195
 z49:=Tryz.sizeOf195
 v49:=Tryz.zeroValue195
 t51:=Tryz.underlying154
 a51:=Tryz.isAgg154
 z51:=Tryz.sizeOf154
 v51:=Tryz.zeroValue154
 t119:=Tryz.underlying179
 a119:=Tryz.isAgg179
 z119:=Tryz.sizeOf179
 t141:=Tryz.underlying190
 a141:=Tryz.isAgg190
 z141:=Tryz.sizeOf190
 v141:=Tryz.zeroValue190
 t152:=Tryz.underlying186
 a152:=Tryz.isAgg186
 z152:=Tryz.sizeOf186
 v152:=Tryz.zeroValue186
 t154:=Tryz.underlying188
 a154:=Tryz.isAgg188
 z154:=Tryz.sizeOf188
 v154:=Tryz.zeroValue188
 t193:=Tryz.underlying191
 a193:=Tryz.isAgg191
 z193:=Tryz.sizeOf191
 v193:=Tryz.zeroValue191
 t194:=Tryz.underlying192
 a194:=Tryz.isAgg192
 z194:=Tryz.sizeOf192
 v194:=Tryz.zeroValue192
 t196:=Tryz.underlying194
 a196:=Tryz.isAgg194
 z196:=Tryz.sizeOf194
 v196:=Tryz.zeroValue194
 t198:=Tryz.underlying197
 a198:=Tryz.isAgg197
 z198:=Tryz.sizeOf197
 v198:=Tryz.zeroValue197
 t201:=Tryz.underlying200
 a201:=Tryz.isAgg200
 z201:=Tryz.sizeOf200
 v201:=Tryz.zeroValue200
 t226:=Tryz.underlying202
 a226:=Tryz.isAgg202
 z226:=Tryz.sizeOf202
 v226:=Tryz.zeroValue202
 t227:=Tryz.underlying203
 a227:=Tryz.isAgg203
 z227:=Tryz.sizeOf203
 v227:=Tryz.zeroValue203
 g0:=by kernel_rfl
 g6:=by kernel_rfl
 i0:=by kernel_rfl
 i3:=by kernel_rfl
 i4:=by kernel_rfl
 i5:=by kernel_rfl
 i9:=by kernel_rfl
 i21:=by kernel_rfl
 i31:=by kernel_rfl
 i40:=by kernel_rfl
 i46:=by kernel_rfl
 i49:=by kernel_rfl
 i51:=by kernel_rfl
 i141:=by kernel_rfl
 i152:=by kernel_rfl
 i154:=by kernel_rfl
 i193:=by kernel_rfl
 i194:=by kernel_rfl
 i196:=by kernel_rfl
 i198:=by kernel_rfl
 i201:=by kernel_rfl
 i226:=by kernel_rfl
 i227:=by kernel_rfl
 m0:=by kernel_rfl
 m6:=by kernel_rfl}
def Tryz.layGrow_ren:Go.Shelf.Ren:=⟨fun|4=>167|n=>n,fun|22=>22|25=>9|3=>3|4=>4|9=>9|20=>20|0=>0|n=>n,fun|n=>n⟩
theorem Tryz.layGrow:Go.Proofs.Lays8.n4 Tryz.prog Tryz.layGrow_ren:= {
 mixed:=by kernel_rfl
 f4:=⟨Tryz.f167.name,by decide,Tryz.func167.trans (congrArg some (by kernel_rfl))⟩
 t0:=Tryz.underlying0
 a0:=Tryz.isAgg0
 z0:=Tryz.sizeOf0
 v0:=Tryz.zeroValue0
 t3:=Tryz.underlying3
 a3:=Tryz.isAgg3
 z3:=Tryz.sizeOf3
 v3:=Tryz.zeroValue3
 t4:=Tryz.underlying4
 a4:=Tryz.isAgg4
 z4:=Tryz.sizeOf4
 v4:=Tryz.zeroValue4
 t9:=Tryz.underlying9
 a9:=Tryz.isAgg9
 z9:=Tryz.sizeOf9
 v9:=Tryz.zeroValue9
 t20:=Tryz.underlying20
 a20:=Tryz.isAgg20
 z20:=Tryz.sizeOf20
 v20:=Tryz.zeroValue20
 t22:=Tryz.underlying22
 a22:=Tryz.isAgg22
 z22:=Tryz.sizeOf22
 v22:=Tryz.zeroValue22}
def Tryz.laySort_ren:Go.Shelf.Ren:=⟨fun|6=>78|15=>110|14=>109|28=>139|29=>140|20=>131|21=>132|22=>133|23=>134|24=>135|25=>136|26=>137|27=>138|46=>160|47=>161|48=>162|49=>163|50=>164|57=>173|n=>n,fun|22=>51|24=>54|25=>80|3=>3|39=>77|0=>0|53=>154|55=>156|4=>4|46=>148|45=>147|50=>96|5=>5|9=>9|66=>167|70=>171|76=>182|77=>183|n=>n,fun|n=>n⟩
theorem Tryz.laySort:Go.Proofs.SlLaysF0.n6 Tryz.prog Tryz.laySort_ren:= {
 mixed:=by kernel_rfl
 f6:=⟨Tryz.f78.name,by decide,Tryz.func78.trans (congrArg some (by kernel_rfl))⟩
 f14:=⟨Tryz.f109.name,by decide,Tryz.func109.trans (congrArg some (by kernel_rfl))⟩
 f15:=Tryz.func110.trans (congrArg some (by kernel_rfl))
 f20:=⟨Tryz.f131.name,by decide,Tryz.func131.trans (congrArg some (by kernel_rfl))⟩
 f21:=⟨Tryz.f132.name,by decide,Tryz.func132.trans (congrArg some (by kernel_rfl))⟩
 f22:=⟨Tryz.f133.name,by decide,Tryz.func133.trans (congrArg some (by kernel_rfl))⟩
 f23:=⟨Tryz.f134.name,by decide,Tryz.func134.trans (congrArg some (by kernel_rfl))⟩
 f24:=⟨Tryz.f135.name,by decide,Tryz.func135.trans (congrArg some (by kernel_rfl))⟩
 f25:=⟨Tryz.f136.name,by decide,Tryz.func136.trans (congrArg some (by kernel_rfl))⟩
 f26:=⟨Tryz.f137.name,by decide,Tryz.func137.trans (congrArg some (by kernel_rfl))⟩
 f27:=⟨Tryz.f138.name,by decide,Tryz.func138.trans (congrArg some (by kernel_rfl))⟩
 f28:=Tryz.func139.trans (congrArg some (by kernel_rfl))
 f29:=Tryz.func140.trans (congrArg some (by kernel_rfl))
 f46:=⟨Tryz.f160.name,by decide,Tryz.func160.trans (congrArg some (by kernel_rfl))⟩
 f47:=Tryz.func161.trans (congrArg some (by kernel_rfl))
 f48:=Tryz.func162.trans (congrArg some (by kernel_rfl))
 f49:=⟨Tryz.f163.name,by decide,Tryz.func163.trans (congrArg some (by kernel_rfl))⟩
 f50:=⟨Tryz.f164.name,by decide,Tryz.func164.trans (congrArg some (by kernel_rfl))⟩
 f57:=⟨Tryz.f173.name,by decide,Tryz.func173.trans (congrArg some (by kernel_rfl))⟩
 t0:=Tryz.underlying0
 a0:=Tryz.isAgg0
 z0:=Tryz.sizeOf0
 v0:=Tryz.zeroValue0
 t3:=Tryz.underlying3
 a3:=Tryz.isAgg3
 z3:=Tryz.sizeOf3
 v3:=Tryz.zeroValue3
 t4:=Tryz.underlying4
 a4:=Tryz.isAgg4
 z4:=Tryz.sizeOf4
 v4:=Tryz.zeroValue4
 t5:=Tryz.underlying5
 a5:=Tryz.isAgg5
 z5:=Tryz.sizeOf5
 v5:=Tryz.zeroValue5
 t9:=Tryz.underlying9
 a9:=Tryz.isAgg9
 z9:=Tryz.sizeOf9
 v9:=Tryz.zeroValue9
 t22:=Tryz.underlying51
 a22:=Tryz.isAgg51
 z22:=Tryz.sizeOf51
 v22:=Tryz.zeroValue51
 t25:=Tryz.underlying80
 a25:=Tryz.isAgg80
 z25:=Tryz.sizeOf80
 v25:=Tryz.zeroValue80
 t39:=Tryz.underlying77
 a39:=Tryz.isAgg77
 z39:=Tryz.sizeOf77
 v39:=Tryz.zeroValue77
 t45:=Tryz.underlying147
 a45:=Tryz.isAgg147
 z45:=Tryz.sizeOf147
 v45:=Tryz.zeroValue147
 t46:=Tryz.underlying148
 a46:=Tryz.isAgg148
 z46:=Tryz.sizeOf148
 v46:=Tryz.zeroValue148
 t50:=Tryz.underlying96
 a50:=Tryz.isAgg96
 z50:=Tryz.sizeOf96
 v50:=Tryz.zeroValue96
 t53:=Tryz.underlying154
 a53:=Tryz.isAgg154
 z53:=Tryz.sizeOf154
 v53:=Tryz.zeroValue154
 t55:=Tryz.underlying156
 a55:=Tryz.isAgg156
 z55:=Tryz.sizeOf156
 v55:=Tryz.zeroValue156
 t66:=Tryz.underlying167
 a66:=Tryz.isAgg167
 z66:=Tryz.sizeOf167
 v66:=Tryz.zeroValue167
 t70:=Tryz.underlying171
 a70:=Tryz.isAgg171
 z70:=Tryz.sizeOf171
 v70:=Tryz.zeroValue171
 t76:=Tryz.underlying182
 a76:=Tryz.isAgg182
 z76:=Tryz.sizeOf182
 v76:=Tryz.zeroValue182
 t77:=Tryz.underlying183
 a77:=Tryz.isAgg183
 z77:=Tryz.sizeOf183
 v77:=Tryz.zeroValue183}
end Go.Proofs
