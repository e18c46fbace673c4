/-
 The codes of the program's functions, in the form that the layer reads, and that they are these. No condition.
-/
import Derived.Test.YtdloaandiobgdaaGreatDoorProg
import Derived.KernelRfl
import Derived.Test.YtdloaandiobgdaaGreatDoorLg
import Derived.Test.YtdloaandiobgdaaGreatDoorLh
namespace Go.Proofs.YtdloaandiobgdaaGreatDoor
open Go.Ab Go.Proofs
set_option maxRecDepth 100000
set_option maxHeartbeats 40000000
theorem ajI:Int.negSucc 99=(-100:Int):=rfl
theorem U3:Int.negSucc 0=(-1:Int):=rfl
theorem iG:Int.ofNat 0=(0:Int):=rfl
theorem jz1:Int.ofNat 1=(1:Int):=rfl
theorem Nk:Int.ofNat 2=(2:Int):=rfl
theorem XW:Int.ofNat 3=(3:Int):=rfl
theorem Qs:Int.ofNat 4=(4:Int):=rfl
theorem jz5:Int.ofNat 5=(5:Int):=rfl
theorem jz6:Int.ofNat 6=(6:Int):=rfl
theorem jz7:Int.ofNat 7=(7:Int):=rfl
theorem jz8:Int.ofNat 8=(8:Int):=rfl
theorem jz9:Int.ofNat 9=(9:Int):=rfl
theorem alr:Int.ofNat 12=(12:Int):=rfl
theorem am3:Int.ofNat 16=(16:Int):=rfl
theorem an7:Int.ofNat 20=(20:Int):=rfl
theorem an8:Int.ofNat 32=(32:Int):=rfl
theorem am4:Int.ofNat 48=(48:Int):=rfl
theorem am5:Int.ofNat 57=(57:Int):=rfl
theorem an9:Int.ofNat 60=(60:Int):=rfl
theorem am6:Int.ofNat 95=(95:Int):=rfl
theorem am7:Int.ofNat 97=(97:Int):=rfl
theorem FT:Int.ofNat 100=(100:Int):=rfl
theorem ajJ:Int.ofNat 122=(122:Int):=rfl
theorem am8:Int.ofNat 256=(256:Int):=rfl
theorem am9:Int.ofNat 300=(300:Int):=rfl
theorem agA:Int.ofNat 4000=(4000:Int):=rfl
theorem ai7:Int.ofNat 65536=(65536:Int):=rfl
theorem LW:Int.ofNat 1048576=(1048576:Int):=rfl
theorem U4:Int.ofNat 4294967296=(4294967296:Int):=rfl
abbrev Xc(b:Option Code):= {c // comp Tryz.prog (b.getD .skip)=some c}
def X.jW:Xc Tryz.f3.body:=⟨_,by conv=>lhs; reduce; try dsimp only[iG,jz1,Qs]⟩
def C.jW:aC:=X.jW.1
theorem Bd.jW:Body Tryz.prog 3 C.jW [.slot 6] 44:=.of Tryz.func3 (by kernel_rfl) Tryz.call3
def X.uH:Xc Tryz.f4.body:=⟨_,by conv=>lhs; reduce; try dsimp only[iG,jz1,jz8,an9]⟩
def C.uH:aC:=X.uH.1
theorem Bd.uH:Body Tryz.prog 4 C.uH [.slot 2] 20:=.of Tryz.func4 (by kernel_rfl) Tryz.call4
def X.jl:Xc Tryz.f5.body:=⟨_,by conv=>lhs; reduce; try dsimp only[iG,jz1,FT]⟩
def C.jl:aC:=X.jl.1
theorem Bd.jl:Body Tryz.prog 5 C.jl [.slot 6] 64:=.of Tryz.func5 (by kernel_rfl) Tryz.call5
def X.lX:Xc Tryz.f6.body:=⟨_,by conv=>lhs; reduce; try dsimp only[iG,jz1,am9]⟩
def C.lX:aC:=X.lX.1
theorem Bd.lX:Body Tryz.prog 6 C.lX [.slot 6] 31:=.of Tryz.func6 (by kernel_rfl) Tryz.call6
def X.Aa:Xc Tryz.f7.body:=⟨_,by conv=>lhs; reduce; try dsimp only[iG,jz1,Nk,Qs,jz9]⟩
def C.Aa:aC:=X.Aa.1
theorem Bd.Aa:Body Tryz.prog 7 C.Aa [.slot 0] 43:=.of Tryz.func7 (by kernel_rfl) Tryz.call7
def X.qQ:Xc Tryz.f8.body:=⟨_,by conv=>lhs; reduce; try dsimp only[iG,jz1]⟩
def C.qQ:aC:=X.qQ.1
theorem Bd.qQ:Body Tryz.prog 8 C.qQ [.cell 6 4,.cell 7 8,.slot 8,.slot 9] 52:=.of Tryz.func8 (by kernel_rfl) Tryz.call8
def X.og:Xc Tryz.f9.body:=⟨_,by conv=>lhs; reduce; try dsimp only[iG,jz1,jz7]⟩
def C.og:aC:=X.og.1
theorem Bd.og:Body Tryz.prog 9 C.og [.slot 4] 27:=.of Tryz.func9 (by kernel_rfl) Tryz.call9
def X.gZ:Xc Tryz.f10.body:=⟨_,by conv=>lhs; reduce; try dsimp only[iG,jz1]⟩
def C.gZ:aC:=X.gZ.1
theorem Bd.gZ:Body Tryz.prog 10 C.gZ [.slot 4] 32:=.of Tryz.func10 (by kernel_rfl) Tryz.call10
def X.mM:Xc Tryz.f11.body:=⟨_,by conv=>lhs; reduce; try dsimp only[iG,jz1]⟩
def C.mM:aC:=X.mM.1
theorem Bd.mM:Body Tryz.prog 11 C.mM [.slot 6] 37:=.of Tryz.func11 (by kernel_rfl) Tryz.call11
def X.iL:Xc Tryz.f12.body:=⟨_,by conv=>lhs; reduce; try dsimp only[iG,jz1,XW]⟩
def C.iL:aC:=X.iL.1
theorem Bd.iL:Body Tryz.prog 12 C.iL [.slot 4] 58:=.of Tryz.func12 (by kernel_rfl) Tryz.call12
def X.jE:Xc Tryz.f13.body:=⟨_,by conv=>lhs; reduce; try dsimp only[iG,jz1]⟩
def C.jE:aC:=X.jE.1
theorem Bd.jE:Body Tryz.prog 13 C.jE [.slot 4] 17:=.of Tryz.func13 (by kernel_rfl) Tryz.call13
def X.lJ:Xc Tryz.f14.body:=⟨_,by conv=>lhs; reduce; try dsimp only[iG,jz1]⟩
def C.lJ:aC:=X.lJ.1
theorem Bd.lJ:Body Tryz.prog 14 C.lJ [.slot 8] 55:=.of Tryz.func14 (by kernel_rfl) Tryz.call14
def X.uJ:Xc Tryz.f15.body:=⟨_,by conv=>lhs; reduce; try dsimp only[iG,jz1]⟩
def C.uJ:aC:=X.uJ.1
theorem Bd.uJ:Body Tryz.prog 15 C.uJ [.slot 4,.slot 5] 16:=.of Tryz.func15 (by kernel_rfl) Tryz.call15
def X.rZ:Xc Tryz.f16.body:=⟨_,by conv=>lhs; reduce; try dsimp only[iG,jz1,Nk,FT]⟩
def C.rZ:aC:=X.rZ.1
theorem Bd.rZ:Body Tryz.prog 16 C.rZ [.cell 6 5,.slot 7] 75:=.of Tryz.func16 (by kernel_rfl) Tryz.call16
def X.jT:Xc Tryz.f17.body:=⟨_,by conv=>lhs; reduce; try dsimp only[U3,iG,jz1,Nk]⟩
def C.jT:aC:=X.jT.1
theorem Bd.jT:Body Tryz.prog 17 C.jT [.cell 0 11] 9:=.of Tryz.func17 (by kernel_rfl) Tryz.call17
def X.iF:Xc Tryz.f18.body:=⟨_,by conv=>lhs; reduce; try dsimp only[iG,jz1,Nk]⟩
def C.iF:aC:=X.iF.1
theorem Bd.iF:Body Tryz.prog 18 C.iF [.cell 0 7] 5:=.of Tryz.func18 (by kernel_rfl) Tryz.call18
def X.zA:Xc Tryz.f19.body:=⟨_,by conv=>lhs; reduce; try dsimp only[iG,jz1]⟩
def C.zA:aC:=X.zA.1
theorem Bd.zA:Body Tryz.prog 19 C.zA [.slot 4] 27:=.of Tryz.func19 (by kernel_rfl) Tryz.call19
def X.kD:Xc Tryz.f20.body:=⟨_,by conv=>lhs; reduce; try dsimp only[iG,jz1,jz7,jz8]⟩
def C.kD:aC:=X.kD.1
theorem Bd.kD:Body Tryz.prog 20 C.kD [.slot 8] 22:=.of Tryz.func20 (by kernel_rfl) Tryz.call20
def X.qF:Xc Tryz.f21.body:=⟨_,by conv=>lhs; reduce; try dsimp only[iG,jz1]⟩
def C.qF:aC:=X.qF.1
theorem Bd.qF:Body Tryz.prog 21 C.qF [.slot 4] 24:=.of Tryz.func21 (by kernel_rfl) Tryz.call21
def X.qP:Xc Tryz.f22.body:=⟨_,by conv=>lhs; reduce; try dsimp only[iG,jz1,Qs,agA]⟩
def C.qP:aC:=X.qP.1
theorem Bd.qP:Body Tryz.prog 22 C.qP [.cell 6 8,.slot 7,.slot 8] 74:=.of Tryz.func22 (by kernel_rfl) Tryz.call22
def X.dn:Xc Tryz.f23.body:=⟨_,by conv=>lhs; reduce; try dsimp only[iG,jz1,Nk,XW,Qs,jz5]⟩
def C.dn:aC:=X.dn.1
theorem Bd.dn:Body Tryz.prog 23 C.dn [.slot 4] 116:=.of Tryz.func23 (by kernel_rfl) Tryz.call23
def X.iK:Xc Tryz.f24.body:=⟨_,by conv=>lhs; reduce; try dsimp only[iG,jz1,Nk,XW,Qs]⟩
def C.iK:aC:=X.iK.1
theorem Bd.iK:Body Tryz.prog 24 C.iK [.cell 2 6,.slot 3] 112:=.of Tryz.func24 (by kernel_rfl) Tryz.call24
def X.kG:Xc Tryz.f25.body:=⟨_,by conv=>lhs; reduce; try dsimp only[iG,jz1,LW]⟩
def C.kG:aC:=X.kG.1
theorem Bd.kG:Body Tryz.prog 25 C.kG [.slot 2] 18:=.of Tryz.func25 (by kernel_rfl) Tryz.call25
def X.jJ:Xc Tryz.f26.body:=⟨_,by conv=>lhs; reduce; try dsimp only[iG,jz1]⟩
def C.jJ:aC:=X.jJ.1
theorem Bd.jJ:Body Tryz.prog 26 C.jJ [.slot 4,.slot 5] 23:=.of Tryz.func26 (by kernel_rfl) Tryz.call26
def X.iR:Xc Tryz.f27.body:=⟨_,by conv=>lhs; reduce; try dsimp only[iG,jz1]⟩
def C.iR:aC:=X.iR.1
theorem Bd.iR:Body Tryz.prog 27 C.iR [.slot 4] 9:=.of Tryz.func27 (by kernel_rfl) Tryz.call27
def X.lG:Xc Tryz.f28.body:=⟨_,by conv=>lhs; reduce; try dsimp only[iG,jz1]⟩
def C.lG:aC:=X.lG.1
theorem Bd.lG:Body Tryz.prog 28 C.lG [.slot 4] 36:=.of Tryz.func28 (by kernel_rfl) Tryz.call28
def X.qJ:Xc Tryz.f29.body:=⟨_,by conv=>lhs; reduce; try dsimp only[iG,jz1]⟩
def C.qJ:aC:=X.qJ.1
theorem Bd.qJ:Body Tryz.prog 29 C.qJ [.slot 2] 25:=.of Tryz.func29 (by kernel_rfl) Tryz.call29
def X.vw:Xc Tryz.f30.body:=⟨_,by conv=>lhs; reduce; try dsimp only[iG,jz1]⟩
def C.vw:aC:=X.vw.1
theorem Bd.vw:Body Tryz.prog 30 C.vw [.slot 4] 37:=.of Tryz.func30 (by kernel_rfl) Tryz.call30
def X.oL:Xc Tryz.f31.body:=⟨_,by conv=>lhs; reduce; try dsimp only[iG,jz1,jz6]⟩
def C.oL:aC:=X.oL.1
theorem Bd.oL:Body Tryz.prog 31 C.oL [.slot 6,.slot 7] 40:=.of Tryz.func31 (by kernel_rfl) Tryz.call31
def X.gX:Xc Tryz.f32.body:=⟨_,by conv=>lhs; reduce; try dsimp only[iG,jz1,Nk,XW,Qs,jz5,jz6]⟩
def C.gX:aC:=X.gX.1
theorem Bd.gX:Body Tryz.prog 32 C.gX [.slot 4] 181:=.of Tryz.func32 (by kernel_rfl) Tryz.call32
def X.lF:Xc Tryz.f33.body:=⟨_,by conv=>lhs; reduce; try dsimp only[iG,jz1]⟩
def C.lF:aC:=X.lF.1
theorem Bd.lF:Body Tryz.prog 33 C.lF [.slot 4] 15:=.of Tryz.func33 (by kernel_rfl) Tryz.call33
def X.nD:Xc Tryz.f34.body:=⟨_,by conv=>lhs; reduce; try dsimp only[iG,jz1,Qs,FT]⟩
def C.nD:aC:=X.nD.1
theorem Bd.nD:Body Tryz.prog 34 C.nD [.slot 6,.slot 7,.slot 8,.slot 9] 62:=.of Tryz.func34 (by kernel_rfl) Tryz.call34
def X.oh:Xc Tryz.f35.body:=⟨_,by conv=>lhs; reduce; try dsimp only[iG,jz1,jz6]⟩
def C.oh:aC:=X.oh.1
theorem Bd.oh:Body Tryz.prog 35 C.oh [.slot 2] 28:=.of Tryz.func35 (by kernel_rfl) Tryz.call35
def X.rO:Xc Tryz.f36.body:=⟨_,by conv=>lhs; reduce; try dsimp only[U3,iG,jz1]⟩
def C.rO:aC:=X.rO.1
theorem Bd.rO:Body Tryz.prog 36 C.rO [.slot 4] 20:=.of Tryz.func36 (by kernel_rfl) Tryz.call36
def X.nK:Xc Tryz.f37.body:=⟨_,by conv=>lhs; reduce; try dsimp only[iG,jz1,jz8]⟩
def C.nK:aC:=X.nK.1
theorem Bd.nK:Body Tryz.prog 37 C.nK [.slot 4,.slot 5] 44:=.of Tryz.func37 (by kernel_rfl) Tryz.call37
def X.oG:Xc Tryz.f38.body:=⟨_,by conv=>lhs; reduce; try dsimp only[U3,iG,jz1]⟩
def C.oG:aC:=X.oG.1
theorem Bd.oG:Body Tryz.prog 38 C.oG [.slot 8,.slot 9] 43:=.of Tryz.func38 (by kernel_rfl) Tryz.call38
def X.uY:Xc Tryz.f39.body:=⟨_,by conv=>lhs; reduce; try dsimp only[iG,jz1]⟩
def C.uY:aC:=X.uY.1
theorem Bd.uY:Body Tryz.prog 39 C.uY [.slot 6] 53:=.of Tryz.func39 (by kernel_rfl) Tryz.call39
def C.Dp:aC:=(sq [qB 2 91 0 0,qB 3 3 0 1,o 4 (.al 43 0 (.int 0))] (.seq (.reg true [ql 9 0 2,o 10 (.nc (.t 9)),qf 11 0 11 10,ql 12 11 11,ql 13 0 2,o 14 (.nc (.t 13)),qf 15 10 4 14,ql 16 4 15,ql 17 0 2,o 18 (.nc (.t 17)),qf 19 15 0 18,ql 20 0 19,ql 21 0 3,qi 22 11 20 21,qf 23 0 7 22,ql 24 7 23,⟨some 25,.call 74 [(.t 12),(.t 16),(.t 24)],none,true,[],false,true⟩,o 5 (.al 131 23 (.agg [(.lit (.string (bs []))),(.int 0),.nil,.nil,.nil,(.int 0),.nil,.nil,.nil,.nil,(.int 0),(.int 0),(.int 0),.nil,.nil,(.int 0),.nil,.nil,(.int 0),.nil,.nil,.nil])),qs 23 5 25]) (sq [ql 26 23 5,qC 27 75 [26]] .skip)))
def C.uo:aC:=(.reg false [o 6 (.al 100 4 (.agg [(.int 0),(.int 0),(.int 0)])),qs 4 6 28])
def C.uq:aC:=(.blk 1 (sq [ql 30 23 5,ql 31 4 6,qC 32 76 [30,31],qm 29 32,qe 33 29 0,qe 34 29 1,o 7 (.al 39 7 (.agg [.nil,.nil,(.int 0),.nil,.nil,(.int 0)])),qs 7 7 33,qm 8 34] (.seq (sq [qm 35 8,qk .neq 36 35 0] (.cond (.t 36) (sq [qm 37 8,qs 0 4 37] .ret) .skip)) (.reg false [ql 38 0 2,ql 39 7 7,ql 40 0 3,ql 41 4 6,o 42 (.mk [.nil,.nil,(.int 0),.nil,.nil,(.int 0),(.int 0),(.int 0),(.int 0),(.int 0)] [(0,6,(.t 39)),(6,1,(.t 40)),(7,3,(.t 41))]),qC 43 70 [38,42]]))))
def C.Dq:aC:=(.seq .skip (sq [ov (.st 0 (.t 4) (.c (.int 0)))] .ret))
theorem Bd.Ey:aaw Tryz.prog 41 C.Dp 27 [28] C.uo C.uq C.Dq [.cell 4 0] 44:=.of Tryz.func41 (by kernel_rfl) Tryz.call41
def X.gJ:Xc Tryz.f42.body:=⟨_,by conv=>lhs; reduce; try dsimp only[iG,jz1,Nk,XW,Qs,jz6,jz8]⟩
def C.gJ:aC:=X.gJ.1
theorem Bd.gJ:Body Tryz.prog 42 C.gJ [.slot 2] 157:=.of Tryz.func42 (by kernel_rfl) Tryz.call42
def X.fP:Xc Tryz.f43.body:=⟨_,by conv=>lhs; reduce; try dsimp only[iG,jz1,alr,am4,am5,am6,am7,ajJ]⟩
def C.fP:aC:=X.fP.1
theorem Bd.fP:Body Tryz.prog 43 C.fP [.slot 2] 46:=.of Tryz.func43 (by kernel_rfl) Tryz.call43
def X.eH:Xc Tryz.f44.body:=⟨_,by conv=>lhs; reduce; try dsimp only[iG,jz1,jz5]⟩
def C.eH:aC:=X.eH.1
theorem Bd.eH:Body Tryz.prog 44 C.eH [.slot 4] 38:=.of Tryz.func44 (by kernel_rfl) Tryz.call44
def X.bW:Xc Tryz.f45.body:=⟨_,by conv=>lhs; reduce; try dsimp only[iG,jz1]⟩
def C.bW:aC:=X.bW.1
theorem Bd.bW:Body Tryz.prog 45 C.bW [.slot 2] 15:=.of Tryz.func45 (by kernel_rfl) Tryz.call45
def X.cZ:Xc Tryz.f46.body:=⟨_,by conv=>lhs; reduce; try dsimp only[iG,jz1]⟩
def C.cZ:aC:=X.cZ.1
theorem Bd.cZ:Body Tryz.prog 46 C.cZ [.slot 4] 7:=.of Tryz.func46 (by kernel_rfl) Tryz.call46
def X.lC:Xc Tryz.f47.body:=⟨_,by conv=>lhs; reduce; try dsimp only[iG,jz1,XW]⟩
def C.lC:aC:=X.lC.1
theorem Bd.lC:Body Tryz.prog 47 C.lC [.slot 4] 39:=.of Tryz.func47 (by kernel_rfl) Tryz.call47
def X.jC:Xc Tryz.f48.body:=⟨_,by conv=>lhs; reduce; try dsimp only[iG,jz1,Nk,jz6]⟩
def C.jC:aC:=X.jC.1
theorem Bd.jC:Body Tryz.prog 48 C.jC [.slot 4] 30:=.of Tryz.func48 (by kernel_rfl) Tryz.call48
def X.jQ:Xc Tryz.f49.body:=⟨_,by conv=>lhs; reduce; try dsimp only[iG,jz1]⟩
def C.jQ:aC:=X.jQ.1
theorem Bd.jQ:Body Tryz.prog 49 C.jQ [.slot 2] 8:=.of Tryz.func49 (by kernel_rfl) Tryz.call49
def X.jO:Xc Tryz.f50.body:=⟨_,by conv=>lhs; reduce; try dsimp only[U3,iG,jz1]⟩
def C.jO:aC:=X.jO.1
theorem Bd.jO:Body Tryz.prog 50 C.jO [.slot 4] 19:=.of Tryz.func50 (by kernel_rfl) Tryz.call50
def X.bF:Xc Tryz.f51.body:=⟨_,by conv=>lhs; reduce; try dsimp only[iG,jz1]⟩
def C.bF:aC:=X.bF.1
theorem Bd.bF:Body Tryz.prog 51 C.bF [] 9:=.of Tryz.func51 (by kernel_rfl) Tryz.call51
def X.mW:Xc Tryz.f52.body:=⟨_,by conv=>lhs; reduce; try dsimp only[iG,jz1]⟩
def C.mW:aC:=X.mW.1
theorem Bd.mW:Body Tryz.prog 52 C.mW [.slot 4] 10:=.of Tryz.func52 (by kernel_rfl) Tryz.call52
def X.rH:Xc Tryz.f53.body:=⟨_,by conv=>lhs; reduce; try dsimp only[iG,jz1]⟩
def C.rH:aC:=X.rH.1
theorem Bd.rH:Body Tryz.prog 53 C.rH [.slot 2] 7:=.of Tryz.func53 (by kernel_rfl) Tryz.call53
def X.ku:Xc Tryz.f54.body:=⟨_,by conv=>lhs; reduce; try dsimp only[iG,jz1,jz7]⟩
def C.ku:aC:=X.ku.1
theorem Bd.ku:Body Tryz.prog 54 C.ku [.slot 2] 18:=.of Tryz.func54 (by kernel_rfl) Tryz.call54
def X.ou:Xc Tryz.f55.body:=⟨_,by conv=>lhs; reduce; try dsimp only[iG,jz1,Qs,FT]⟩
def C.ou:aC:=X.ou.1
theorem Bd.ou:Body Tryz.prog 55 C.ou [.slot 6,.slot 7] 67:=.of Tryz.func55 (by kernel_rfl) Tryz.call55
def X.qg:Xc Tryz.f56.body:=⟨_,by conv=>lhs; reduce; try dsimp only[iG,jz1,Nk,XW,Qs,jz6,jz8]⟩
def C.qg:aC:=X.qg.1
theorem Bd.qg:Body Tryz.prog 56 C.qg [.slot 2] 178:=.of Tryz.func56 (by kernel_rfl) Tryz.call56
def X.jy:Xc Tryz.f57.body:=⟨_,by conv=>lhs; reduce; try dsimp only[iG,jz1,alr,am4,am5,am6,am7,ajJ]⟩
def C.jy:aC:=X.jy.1
theorem Bd.jy:Body Tryz.prog 57 C.jy [.slot 2] 58:=.of Tryz.func57 (by kernel_rfl) Tryz.call57
def X.jD:Xc Tryz.f58.body:=⟨_,by conv=>lhs; reduce; try dsimp only[iG,jz1,jz5]⟩
def C.jD:aC:=X.jD.1
theorem Bd.jD:Body Tryz.prog 58 C.jD [.slot 4] 37:=.of Tryz.func58 (by kernel_rfl) Tryz.call58
def X.Dx:Xc Tryz.f59.body:=⟨_,by conv=>lhs; reduce; try dsimp only[iG,jz1]⟩
def C.Dx:aC:=X.Dx.1
theorem Bd.Dx:Body Tryz.prog 59 C.Dx [.slot 4] 18:=.of Tryz.func59 (by kernel_rfl) Tryz.call59
def X.aZ:Xc Tryz.f60.body:=⟨_,by conv=>lhs; reduce; try dsimp only[iG,jz1]⟩
def C.aZ:aC:=X.aZ.1
theorem Bd.aZ:Body Tryz.prog 60 C.aZ [.slot 6] 15:=.of Tryz.func60 (by kernel_rfl) Tryz.call60
def X.nZ:Xc Tryz.f61.body:=⟨_,by conv=>lhs; reduce; try dsimp only[iG,jz1]⟩
def C.nZ:aC:=X.nZ.1
theorem Bd.nZ:Body Tryz.prog 61 C.nZ [.slot 2] 6:=.of Tryz.func61 (by kernel_rfl) Tryz.call61
def X.dJ:Xc Tryz.f62.body:=⟨_,by conv=>lhs; reduce; try dsimp only[iG,jz1]⟩
def C.dJ:aC:=X.dJ.1
theorem Bd.dJ:Body Tryz.prog 62 C.dJ [.slot 2] 8:=.of Tryz.func62 (by kernel_rfl) Tryz.call62
def X.vN:Xc Tryz.f63.body:=⟨_,by conv=>lhs; reduce; try dsimp only[iG,jz1,Qs,FT]⟩
def C.vN:aC:=X.vN.1
theorem Bd.vN:Body Tryz.prog 63 C.vN [.slot 4,.slot 5] 39:=.of Tryz.func63 (by kernel_rfl) Tryz.call63
def X.n64:Xc Tryz.f64.body:=⟨_,by conv=>lhs; reduce; try dsimp only[iG,jz1]⟩
def C.n64:aC:=X.n64.1
theorem Bd.n64:Body Tryz.prog 64 C.n64 [.slot 6] 32:=.of Tryz.func64 (by kernel_rfl) Tryz.call64
def X.oz:Xc Tryz.f65.body:=⟨_,by conv=>lhs; reduce; try dsimp only[iG,jz1]⟩
def C.oz:aC:=X.oz.1
theorem Bd.oz:Body Tryz.prog 65 C.oz [.slot 4] 9:=.of Tryz.func65 (by kernel_rfl) Tryz.call65
def X.iT:Xc Tryz.f66.body:=⟨_,by conv=>lhs; reduce; try dsimp only[iG,jz1]⟩
def C.iT:aC:=X.iT.1
theorem Bd.iT:Body Tryz.prog 66 C.iT [.slot 4] 17:=.of Tryz.func66 (by kernel_rfl) Tryz.call66
def X.wW:Xc Tryz.f67.body:=⟨_,by conv=>lhs; reduce; try dsimp only[U3,iG,jz1]⟩
def C.wW:aC:=X.wW.1
theorem Bd.wW:Body Tryz.prog 67 C.wW [.slot 4] 46:=.of Tryz.func67 (by kernel_rfl) Tryz.call67
def X.wM:Xc Tryz.f68.body:=⟨_,by conv=>lhs; reduce; try dsimp only[iG,jz1,Nk,Qs,LW]⟩
def C.wM:aC:=X.wM.1
theorem Bd.wM:Body Tryz.prog 68 C.wM [.slot 4] 86:=.of Tryz.func68 (by kernel_rfl) Tryz.call68
def X.kR:Xc Tryz.f69.body:=⟨_,by conv=>lhs; reduce; try dsimp only[iG,jz1,Qs,agA]⟩
def C.kR:aC:=X.kR.1
theorem Bd.kR:Body Tryz.prog 69 C.kR [.slot 6,.slot 7] 126:=.of Tryz.func69 (by kernel_rfl) Tryz.call69
def X.jI:Xc Tryz.f70.body:=⟨_,by conv=>lhs; reduce; try dsimp only[iG,jz1]⟩
def C.jI:aC:=X.jI.1
theorem Bd.jI:Body Tryz.prog 70 C.jI [.slot 4] 45:=.of Tryz.func70 (by kernel_rfl) Tryz.call70
def X.oM:Xc Tryz.f71.body:=⟨_,by conv=>lhs; reduce; try dsimp only[iG,jz1]⟩
def C.oM:aC:=X.oM.1
theorem Bd.oM:Body Tryz.prog 71 C.oM [.slot 4] 30:=.of Tryz.func71 (by kernel_rfl) Tryz.call71
def X.qE:Xc Tryz.f73.body:=⟨_,by conv=>lhs; reduce; try dsimp only[iG,jz1]⟩
def C.qE:aC:=X.qE.1
theorem Bd.qE:Body Tryz.prog 73 C.qE [.cell 2 7] 20:=.of Tryz.func73 (by kernel_rfl) Tryz.call73
def X.uV:Xc Tryz.f74.body:=⟨_,by conv=>lhs; reduce; try dsimp only[iG,jz1]⟩
def C.uV:aC:=X.uV.1
theorem Bd.uV:Body Tryz.prog 74 C.uV [.cell 6 23] 25:=.of Tryz.func74 (by kernel_rfl) Tryz.call74
def X.nI:Xc Tryz.f75.body:=⟨_,by conv=>lhs; reduce; try dsimp only[iG,jz1]⟩
def C.nI:aC:=X.nI.1
theorem Bd.nI:Body Tryz.prog 75 C.nI [.slot 2] 4:=.of Tryz.func75 (by kernel_rfl) Tryz.call75
def X.nH:Xc Tryz.f76.body:=⟨_,by conv=>lhs; reduce; try dsimp only[iG,jz1,Nk,XW,Qs,jz5,LW]⟩
def C.nH:aC:=X.nH.1
theorem Bd.nH:Body Tryz.prog 76 C.nH [.cell 4 7,.slot 5] 103:=.of Tryz.func76 (by kernel_rfl) Tryz.call76
end Go.Proofs.YtdloaandiobgdaaGreatDoor
