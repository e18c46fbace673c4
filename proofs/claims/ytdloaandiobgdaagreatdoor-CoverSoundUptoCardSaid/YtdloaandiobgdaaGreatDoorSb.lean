/-
 The codes of the program's functions, in the form that the layer reads, and that they are these. No condition.
-/
import Derived.Test.YtdloaandiobgdaaGreatDoorSa
namespace Go.Proofs.YtdloaandiobgdaaGreatDoor
open Go.Ab Go.Proofs
set_option maxRecDepth 100000
set_option maxHeartbeats 40000000
def X.nM:Xc Tryz.f77.body:=⟨_,by conv=>lhs; reduce; try dsimp only[iG,jz1,Nk]⟩
def C.nM:aC:=X.nM.1
theorem Bd.nM:Body Tryz.prog 77 C.nM [.slot 2] 32:=.of Tryz.func77 (by kernel_rfl) Tryz.call77
def X.jq:Xc Tryz.f78.body:=⟨_,by conv=>lhs; reduce; try dsimp only[iG,jz1]⟩
def C.jq:aC:=X.jq.1
theorem Bd.jq:Body Tryz.prog 78 C.jq [.slot 2] 21:=.of Tryz.func78 (by kernel_rfl) Tryz.call78
def X.jh:Xc Tryz.f79.body:=⟨_,by conv=>lhs; reduce; try dsimp only[iG,jz1,Nk,XW,Qs,jz6]⟩
def C.jh:aC:=X.jh.1
theorem Bd.jh:Body Tryz.prog 79 C.jh [.slot 4] 188:=.of Tryz.func79 (by kernel_rfl) Tryz.call79
def X.iI:Xc Tryz.f80.body:=⟨_,by conv=>lhs; reduce; try dsimp only[iG,jz1]⟩
def C.iI:aC:=X.iI.1
theorem Bd.iI:Body Tryz.prog 80 C.iI [.slot 2] 33:=.of Tryz.func80 (by kernel_rfl) Tryz.call80
def X.iH:Xc Tryz.f81.body:=⟨_,by conv=>lhs; reduce; try dsimp only[iG,jz1]⟩
def C.iH:aC:=X.iH.1
theorem Bd.iH:Body Tryz.prog 81 C.iH [.slot 2] 6:=.of Tryz.func81 (by kernel_rfl) Tryz.call81
def X.dA:Xc Tryz.f82.body:=⟨_,by conv=>lhs; reduce; try dsimp only[iG,jz1,jz5]⟩
def C.dA:aC:=X.dA.1
theorem Bd.dA:Body Tryz.prog 82 C.dA [.slot 4] 13:=.of Tryz.func82 (by kernel_rfl) Tryz.call82
def X.eU:Xc Tryz.f83.body:=⟨_,by conv=>lhs; reduce; try dsimp only[iG,jz1,Nk,an7]⟩
def C.eU:aC:=X.eU.1
theorem Bd.eU:Body Tryz.prog 83 C.eU [] 63:=.of Tryz.func83 (by kernel_rfl) Tryz.call83
def X.bC:Xc Tryz.f84.body:=⟨_,by conv=>lhs; reduce; try dsimp only[iG,jz1]⟩
def C.bC:aC:=X.bC.1
theorem Bd.bC:Body Tryz.prog 84 C.bC [] 14:=.of Tryz.func84 (by kernel_rfl) Tryz.call84
def X.bT:Xc Tryz.f85.body:=⟨_,by conv=>lhs; reduce; try dsimp only[iG,jz1,Nk]⟩
def C.bT:aC:=X.bT.1
theorem Bd.bT:Body Tryz.prog 85 C.bT [.slot 4] 66:=.of Tryz.func85 (by kernel_rfl) Tryz.call85
def X.mO:Xc Tryz.f86.body:=⟨_,by conv=>lhs; reduce; try dsimp only[iG,jz1]⟩
def C.mO:aC:=X.mO.1
theorem Bd.mO:Body Tryz.prog 86 C.mO [.slot 4] 9:=.of Tryz.func86 (by kernel_rfl) Tryz.call86
def X.je:Xc Tryz.f87.body:=⟨_,by conv=>lhs; reduce; try dsimp only[iG,jz1]⟩
def C.je:aC:=X.je.1
theorem Bd.je:Body Tryz.prog 87 C.je [.slot 6] 56:=.of Tryz.func87 (by kernel_rfl) Tryz.call87
def X.jf:Xc Tryz.f88.body:=⟨_,by conv=>lhs; reduce; try dsimp only[iG,jz1,Nk,XW]⟩
def C.jf:aC:=X.jf.1
theorem Bd.jf:Body Tryz.prog 88 C.jf [.slot 4,.slot 5] 79:=.of Tryz.func88 (by kernel_rfl) Tryz.call88
def X.kK:Xc Tryz.f89.body:=⟨_,by conv=>lhs; reduce; try dsimp only[iG,jz1]⟩
def C.kK:aC:=X.kK.1
theorem Bd.kK:Body Tryz.prog 89 C.kK [.slot 2] 33:=.of Tryz.func89 (by kernel_rfl) Tryz.call89
def X.pX:Xc Tryz.f90.body:=⟨_,by conv=>lhs; reduce; try dsimp only[iG,jz1]⟩
def C.pX:aC:=X.pX.1
theorem Bd.pX:Body Tryz.prog 90 C.pX [.slot 4] 18:=.of Tryz.func90 (by kernel_rfl) Tryz.call90
def X.yS:Xc Tryz.f91.body:=⟨_,by conv=>lhs; reduce; try dsimp only[ajI,iG,jz1,FT]⟩
def C.yS:aC:=X.yS.1
theorem Bd.yS:Body Tryz.prog 91 C.yS [.slot 2] 21:=.of Tryz.func91 (by kernel_rfl) Tryz.call91
def X.Ag:Xc Tryz.f92.body:=⟨_,by conv=>lhs; reduce; try dsimp only[U3,iG,jz1,Nk,XW,Qs,jz5,jz6,FT]⟩
def C.Ag:aC:=X.Ag.1
theorem Bd.Ag:Body Tryz.prog 92 C.Ag [.slot 4] 276:=.of Tryz.func92 (by kernel_rfl) Tryz.call92
def X.qH:Xc Tryz.f93.body:=⟨_,by conv=>lhs; reduce; try dsimp only[iG,jz1]⟩
def C.qH:aC:=X.qH.1
theorem Bd.qH:Body Tryz.prog 93 C.qH [.slot 2] 43:=.of Tryz.func93 (by kernel_rfl) Tryz.call93
def X.qG:Xc Tryz.f94.body:=⟨_,by conv=>lhs; reduce; try dsimp only[iG,jz1]⟩
def C.qG:aC:=X.qG.1
theorem Bd.qG:Body Tryz.prog 94 C.qG [.slot 0] 2:=.of Tryz.func94 (by kernel_rfl) Tryz.call94
def X.uK:Xc Tryz.f95.body:=⟨_,by conv=>lhs; reduce; try dsimp only[iG,jz1]⟩
def C.uK:aC:=X.uK.1
theorem Bd.uK:Body Tryz.prog 95 C.uK [.slot 2] 18:=.of Tryz.func95 (by kernel_rfl) Tryz.call95
def X.cmp_Compare_int:Xc Tryz.f96.body:=⟨_,by conv=>lhs; reduce; try dsimp only[U3,iG,jz1]⟩
def C.cmp_Compare_int:aC:=X.cmp_Compare_int.1
theorem Bd.cmp_Compare_int:Body Tryz.prog 96 C.cmp_Compare_int [.slot 4] 20:=.of Tryz.func96 (by kernel_rfl) Tryz.call96
def X.jm:Xc Tryz.f97.body:=⟨_,by conv=>lhs; reduce; try dsimp only[U3,iG,jz1]⟩
def C.jm:aC:=X.jm.1
theorem Bd.jm:Body Tryz.prog 97 C.jm [.slot 4] 36:=.of Tryz.func97 (by kernel_rfl) Tryz.call97
def X.nG:Xc Tryz.f99.body:=⟨_,by conv=>lhs; reduce; try dsimp only[iG,jz1,XW]⟩
def C.nG:aC:=X.nG.1
theorem Bd.nG:Body Tryz.prog 99 C.nG [.slot 4] 15:=.of Tryz.func99 (by kernel_rfl) Tryz.call99
def X.nJ:Xc Tryz.f101.body:=⟨_,by conv=>lhs; reduce; try dsimp only[iG,jz1]⟩
def C.nJ:aC:=X.nJ.1
theorem Bd.nJ:Body Tryz.prog 101 C.nJ [.slot 2] 48:=.of Tryz.func101 (by kernel_rfl) Tryz.call101
def X.lV:Xc Tryz.f102.body:=⟨_,by conv=>lhs; reduce; try dsimp only[iG,jz1]⟩
def C.lV:aC:=X.lV.1
theorem Bd.lV:Body Tryz.prog 102 C.lV [.slot 4] 18:=.of Tryz.func102 (by kernel_rfl) Tryz.call102
def X.sG:Xc Tryz.f103.body:=⟨_,by conv=>lhs; reduce; try dsimp only[U3,iG,jz1,Nk,XW,Qs]⟩
def C.sG:aC:=X.sG.1
theorem Bd.sG:Body Tryz.prog 103 C.sG [.cell 6 4,.slot 7] 118:=.of Tryz.func103 (by kernel_rfl) Tryz.call103
def X.jU:Xc Tryz.f104.body:=⟨_,by conv=>lhs; reduce; try dsimp only[U3,iG,jz1]⟩
def C.jU:aC:=X.jU.1
theorem Bd.jU:Body Tryz.prog 104 C.jU [] 44:=.of Tryz.func104 (by kernel_rfl) Tryz.call104
def X.kP:Xc Tryz.f105.body:=⟨_,by conv=>lhs; reduce; try dsimp only[U3,iG,jz1,Nk,Qs,jz5]⟩
def C.kP:aC:=X.kP.1
theorem Bd.kP:Body Tryz.prog 105 C.kP [.slot 6] 177:=.of Tryz.func105 (by kernel_rfl) Tryz.call105
def X.fU:Xc Tryz.f106.body:=⟨_,by conv=>lhs; reduce; try dsimp only[iG,jz1]⟩
def C.fU:aC:=X.fU.1
theorem Bd.fU:Body Tryz.prog 106 C.fU [.slot 2] 36:=.of Tryz.func106 (by kernel_rfl) Tryz.call106
def X.fJ:Xc Tryz.f107.body:=⟨_,by conv=>lhs; reduce; try dsimp only[iG,jz1]⟩
def C.fJ:aC:=X.fJ.1
theorem Bd.fJ:Body Tryz.prog 107 C.fJ [.slot 4] 9:=.of Tryz.func107 (by kernel_rfl) Tryz.call107
def X.ig:Xc Tryz.f108.body:=⟨_,by conv=>lhs; reduce; try dsimp only[ajI,iG,jz1,FT]⟩
def C.ig:aC:=X.ig.1
theorem Bd.ig:Body Tryz.prog 108 C.ig [.slot 2] 9:=.of Tryz.func108 (by kernel_rfl) Tryz.call108
def X.dG:Xc Tryz.f109.body:=⟨_,by conv=>lhs; reduce; try dsimp only[iG,jz1]⟩
def C.dG:aC:=X.dG.1
theorem Bd.dG:Body Tryz.prog 109 C.dG [.slot 4] 9:=.of Tryz.func109 (by kernel_rfl) Tryz.call109
def X.jV:Xc Tryz.f110.body:=⟨_,by conv=>lhs; reduce; try dsimp only[iG,jz1]⟩
def C.jV:aC:=X.jV.1
theorem Bd.jV:Body Tryz.prog 110 C.jV [.slot 3] 9:=.of Tryz.func110 (by kernel_rfl) Tryz.call110
def X.oN:Xc Tryz.f111.body:=⟨_,by conv=>lhs; reduce; try dsimp only[iG,jz1,Nk,XW,Qs,jz5]⟩
def C.oN:aC:=X.oN.1
theorem Bd.oN:Body Tryz.prog 111 C.oN [.slot 4] 17:=.of Tryz.func111 (by kernel_rfl) Tryz.call111
def X.kE:Xc Tryz.f112.body:=⟨_,by conv=>lhs; reduce; try dsimp only[U3,iG,jz1,Nk,XW,Qs,jz5]⟩
def C.kE:aC:=X.kE.1
theorem Bd.kE:Body Tryz.prog 112 C.kE [.slot 4] 105:=.of Tryz.func112 (by kernel_rfl) Tryz.call112
def X.lK:Xc Tryz.f113.body:=⟨_,by conv=>lhs; reduce; try dsimp only[iG,jz1,Nk,Qs,FT]⟩
def C.lK:aC:=X.lK.1
theorem Bd.lK:Body Tryz.prog 113 C.lK [.slot 4] 44:=.of Tryz.func113 (by kernel_rfl) Tryz.call113
def X.fV:Xc Tryz.f114.body:=⟨_,by conv=>lhs; reduce; try dsimp only[U3,iG,jz1,jz5]⟩
def C.fV:aC:=X.fV.1
theorem Bd.fV:Body Tryz.prog 114 C.fV [.slot 4] 15:=.of Tryz.func114 (by kernel_rfl) Tryz.call114
def X.jk:Xc Tryz.f115.body:=⟨_,by conv=>lhs; reduce; try dsimp only[iG,jz1]⟩
def C.jk:aC:=X.jk.1
theorem Bd.jk:Body Tryz.prog 115 C.jk [.slot 4] 25:=.of Tryz.func115 (by kernel_rfl) Tryz.call115
def X.bM:Xc Tryz.f116.body:=⟨_,by conv=>lhs; reduce; try dsimp only[iG,jz1]⟩
def C.bM:aC:=X.bM.1
theorem Bd.bM:Body Tryz.prog 116 C.bM [.slot 4] 9:=.of Tryz.func116 (by kernel_rfl) Tryz.call116
def X.bH:Xc Tryz.f118.body:=⟨_,by conv=>lhs; reduce; try dsimp only[iG,jz1]⟩
def C.bH:aC:=X.bH.1
theorem Bd.bH:Body Tryz.prog 118 C.bH [] 53:=.of Tryz.func118 (by kernel_rfl) Tryz.call118
def X.bJ:Xc Tryz.f119.body:=⟨_,by conv=>lhs; reduce; try dsimp only[iG,jz1]⟩
def C.bJ:aC:=X.bJ.1
theorem Bd.bJ:Body Tryz.prog 119 C.bJ [] 220:=.of Tryz.func119 (by kernel_rfl) Tryz.call119
def X.dV:Xc Tryz.f120.body:=⟨_,by conv=>lhs; reduce; try dsimp only[iG,jz1,Nk,jz8,alr]⟩
def C.dV:aC:=X.dV.1
theorem Bd.dV:Body Tryz.prog 120 C.dV [] 148:=.of Tryz.func120 (by kernel_rfl) Tryz.call120
def X.tZ:Xc Tryz.f121.body:=⟨_,by conv=>lhs; reduce; try dsimp only[iG,jz1]⟩
def C.tZ:aC:=X.tZ.1
theorem Bd.tZ:Body Tryz.prog 121 C.tZ [.slot 2] 8:=.of Tryz.func121 (by kernel_rfl) Tryz.call121
def X.kX:Xc Tryz.f122.body:=⟨_,by conv=>lhs; reduce; try dsimp only[iG,jz1]⟩
def C.kX:aC:=X.kX.1
theorem Bd.kX:Body Tryz.prog 122 C.kX [.slot 4] 35:=.of Tryz.func122 (by kernel_rfl) Tryz.call122
def X.oK:Xc Tryz.f123.body:=⟨_,by conv=>lhs; reduce; try dsimp only[iG,jz1,FT]⟩
def C.oK:aC:=X.oK.1
theorem Bd.oK:Body Tryz.prog 123 C.oK [.slot 4,.slot 5] 126:=.of Tryz.func123 (by kernel_rfl) Tryz.call123
def X.jZ:Xc Tryz.f124.body:=⟨_,by conv=>lhs; reduce; try dsimp only[iG,jz1]⟩
def C.jZ:aC:=X.jZ.1
theorem Bd.jZ:Body Tryz.prog 124 C.jZ [.slot 4] 16:=.of Tryz.func124 (by kernel_rfl) Tryz.call124
def X.bK:Xc Tryz.f125.body:=⟨_,by conv=>lhs; reduce; try dsimp only[iG,jz1]⟩
def C.bK:aC:=X.bK.1
theorem Bd.bK:Body Tryz.prog 125 C.bK [.slot 4] 9:=.of Tryz.func125 (by kernel_rfl) Tryz.call125
def X.jF:Xc Tryz.f126.body:=⟨_,by conv=>lhs; reduce; try dsimp only[iG,jz1]⟩
def C.jF:aC:=X.jF.1
theorem Bd.jF:Body Tryz.prog 126 C.jF [.cell 2 3] 11:=.of Tryz.func126 (by kernel_rfl) Tryz.call126
def X.uZ:Xc Tryz.f127.body:=⟨_,by conv=>lhs; reduce; try dsimp only[U3,iG,jz1,Nk,XW,Qs,jz5]⟩
def C.uZ:aC:=X.uZ.1
theorem Bd.uZ:Body Tryz.prog 127 C.uZ [.slot 4] 136:=.of Tryz.func127 (by kernel_rfl) Tryz.call127
def X.jg:Xc Tryz.f128.body:=⟨_,by conv=>lhs; reduce; try dsimp only[U3,iG,jz1]⟩
def C.jg:aC:=X.jg.1
theorem Bd.jg:Body Tryz.prog 128 C.jg [.slot 4] 19:=.of Tryz.func128 (by kernel_rfl) Tryz.call128
def X.cmp_isNaN_int:Xc Tryz.f129.body:=⟨_,by conv=>lhs; reduce; try dsimp only[iG,jz1]⟩
def C.cmp_isNaN_int:aC:=X.cmp_isNaN_int.1
theorem Bd.cmp_isNaN_int:Body Tryz.prog 129 C.cmp_isNaN_int [.slot 2] 6:=.of Tryz.func129 (by kernel_rfl) Tryz.call129
def X.uX:Xc Tryz.f132.body:=⟨_,by conv=>lhs; reduce; try dsimp only[iG,jz1]⟩
def C.uX:aC:=X.uX.1
theorem Bd.uX:Body Tryz.prog 132 C.uX [.slot 2] 31:=.of Tryz.func132 (by kernel_rfl) Tryz.call132
def X.kC:Xc Tryz.f133.body:=⟨_,by conv=>lhs; reduce; try dsimp only[iG,jz1]⟩
def C.kC:aC:=X.kC.1
theorem Bd.kC:Body Tryz.prog 133 C.kC [.cell 4 7] 24:=.of Tryz.func133 (by kernel_rfl) Tryz.call133
def X.oD:Xc Tryz.f134.body:=⟨_,by conv=>lhs; reduce; try dsimp only[U3,iG,jz1]⟩
def C.oD:aC:=X.oD.1
theorem Bd.oD:Body Tryz.prog 134 C.oD [.slot 2] 18:=.of Tryz.func134 (by kernel_rfl) Tryz.call134
def X.lS:Xc Tryz.f137.body:=⟨_,by conv=>lhs; reduce; try dsimp only[iG,jz1]⟩
def C.lS:aC:=X.lS.1
theorem Bd.lS:Body Tryz.prog 137 C.lS [.slot 6] 37:=.of Tryz.func137 (by kernel_rfl) Tryz.call137
def X.lU:Xc Tryz.f138.body:=⟨_,by conv=>lhs; reduce; try dsimp only[iG,jz1]⟩
def C.lU:aC:=X.lU.1
theorem Bd.lU:Body Tryz.prog 138 C.lU [.slot 6] 52:=.of Tryz.func138 (by kernel_rfl) Tryz.call138
def X.gQ:Xc Tryz.f142.body:=⟨_,by conv=>lhs; reduce; try dsimp only[U3,iG,jz1]⟩
def C.gQ:aC:=X.gQ.1
theorem Bd.gQ:Body Tryz.prog 142 C.gQ [.slot 4] 19:=.of Tryz.func142 (by kernel_rfl) Tryz.call142
def X.dN:Xc Tryz.f143.body:=⟨_,by conv=>lhs; reduce; try dsimp only[U3,iG,jz1]⟩
def C.dN:aC:=X.dN.1
theorem Bd.dN:Body Tryz.prog 143 C.dN [.slot 4] 19:=.of Tryz.func143 (by kernel_rfl) Tryz.call143
def C.fZ:=sq [qB 3 174 7 1,qz' 4 0] (.seq (sq [qm 6 0,qn 7 6,qz' 8 0] (.blk 0 (.loop (sq [qb .lss 9 8 7] (.seq (.cond (.t 9) .skip (.exit 0)) (.seq (.blk 1 (sq [qm 10 8,qm 5 10] (.seq (.reg true [ql 11 7 3,qm 12 0,qm 13 5,qi 14 7 12 13,ql 15 7 14,o 16 (.eqs false 6 (.t 11) (.t 15))]) (.cond (.t 16) (sq [qm 17 5,qm 4 17] .ret) .skip)))) (.reg false [qk .add 18 8 1,qm 8 18]))))))) (sq [qz' 4 (-1)] .ret))
theorem Bd.fZ:Body Tryz.prog 144 C.fZ [.slot 4] 19:=.of Tryz.func144 (by kernel_rfl) Tryz.call144
def X.eP:Xc Tryz.f147.body:=⟨_,by conv=>lhs; reduce; try dsimp only[iG,jz1]⟩
def C.eP:aC:=X.eP.1
theorem Bd.eP:Body Tryz.prog 147 C.eP [] 58:=.of Tryz.func147 (by kernel_rfl) Tryz.call147
def X.qK:Xc Tryz.f156.body:=⟨_,by conv=>lhs; reduce; try dsimp only[iG,jz1,jz8,am3,an8,am8,ai7,U4]⟩
def C.qK:aC:=X.qK.1
theorem Bd.qK:Body Tryz.prog 156 C.qK [.slot 2] 25:=.of Tryz.func156 (by kernel_rfl) Tryz.call156
def X.mJ:Xc Tryz.f157.body:=⟨_,by conv=>lhs; reduce; try dsimp only[iG,jz1]⟩
def C.mJ:aC:=X.mJ.1
theorem Bd.mJ:Body Tryz.prog 157 C.mJ [.slot 4] 41:=.of Tryz.func157 (by kernel_rfl) Tryz.call157
def X.mD:Xc Tryz.f158.body:=⟨_,by conv=>lhs; reduce; try dsimp only[iG,jz1,FT]⟩
def C.mD:aC:=X.mD.1
theorem Bd.mD:Body Tryz.prog 158 C.mD [.slot 4,.slot 5] 58:=.of Tryz.func158 (by kernel_rfl) Tryz.call158
def X.bZ:Xc Tryz.f159.body:=⟨_,by conv=>lhs; reduce; try dsimp only[U3,iG,jz1]⟩
def C.bZ:aC:=X.bZ.1
theorem Bd.bZ:Body Tryz.prog 159 C.bZ [.slot 4] 19:=.of Tryz.func159 (by kernel_rfl) Tryz.call159
def C.oH:=sq [qB 2 174 7 0,qB 3 174 7 1,qv 4 false] (sq [qf 5 0 0 2,ql 6 0 5,qf 7 0 0 3,ql 8 0 7,qb .eql 9 6 8,qm 10 9,(qf 11 1 0 2).w 10,(ql 12 0 11).w 10,(qf 13 1 0 3).w 10,(ql 14 0 13).w 10,(qb .eql 15 12 14).w 10,qa 16 10 15,qm 17 16,(qf 18 2 5 2).w 17,(ql 19 5 18).w 17,(qf 20 2 5 3).w 17,(ql 21 5 20).w 17,(o 22 (.eqs false 4 (.t 19) (.t 21))).w 17,qa 23 17 22,qm 4 23] .ret)
theorem Bd.oH:Body Tryz.prog 160 C.oH [.slot 4] 24:=.of Tryz.func160 (by kernel_rfl) Tryz.call160
def X.qU:Xc Tryz.f164.body:=⟨_,by conv=>lhs; reduce; try dsimp only[iG,jz1,jz8,am3]⟩
def C.qU:aC:=X.qU.1
theorem Bd.qU:Body Tryz.prog 164 C.qU [] 29:=.of Tryz.func164 (by kernel_rfl) Tryz.call164
def X.kQ:Xc Tryz.f165.body:=⟨_,by conv=>lhs; reduce; try dsimp only[iG,jz1]⟩
def C.kQ:aC:=X.kQ.1
theorem Bd.kQ:Body Tryz.prog 165 C.kQ [] 11:=.of Tryz.func165 (by kernel_rfl) Tryz.call165
def X.dM:Xc Tryz.f169.body:=⟨_,by conv=>lhs; reduce; try dsimp only[iG,jz1]⟩
def C.dM:aC:=X.dM.1
theorem Bd.dM:Body Tryz.prog 169 C.dM [] 38:=.of Tryz.func169 (by kernel_rfl) Tryz.call169
end Go.Proofs.YtdloaandiobgdaaGreatDoor
