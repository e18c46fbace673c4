/-
 A part of the proof. No condition.
-/
import Derived.Test.YtbfhebmdcpmfaaaGreatDoorId
import Derived.Test.YtbfhebmdcpmfaaaGreatDoorBd
namespace Go.Proofs.YtbfhebmdcpmfaaaGreatDoor
open Go.Ab Go.Proofs
set_option maxRecDepth 100000
theorem aP.Nv{P:Program}{f:FuncId}{ts ts':List T}{h h2:Hz}{n:Nat}{K:T->Hp->Prop}(Z:Nat->Prop)(W:ES Z h h2)(hs:T.cu Z h.aj ts ts')(H:aP P f ts h2.aj n K):aP P f ts' h.aj n K:=by
 obtain⟨hex,hcl,hcall⟩:=H
 refine⟨hex,hcl,fun F M E vs hk he hts hid hm hn=>?_⟩
 have hget: ∀ i ob,h2.aj i=some ob-> ∃ ob',E.h (id i)=some ob'/\ ¬ Z (id i)/\ob'.ty=ob.ty/\ob'.k=ob.k/\T.cu Z E.h ob.l ob'.l/\ob.l.map T.kd=ob'.l.map T.kd/\ob.l.map fD=ob'.l.map fD:=fun i ob hi=>by
  simp only[Hz.aj,Option.map_eq_some_iff] at hi
  obtain⟨o,e1,rfl⟩:=hi
  obtain⟨o',a1,a2,a3,a4,a5,a6,a7⟩:=ET W e1
  exact⟨o'.aC,by rw[he]; exact aK a1,a2,a3,a4,by rw[he]; exact a5,a6,a7⟩
 have hob: ∀ i ob,h2.aj i=some ob-> ∃ ob',E.h (id i)=some ob'/\ ¬ Z (id i)/\Ic Z E.h id ob ob':=fun i ob hi=>by
  obtain⟨ob',a1,a2,a3,a4,a5,a6,a7⟩:=hget i ob hi
  refine⟨ob',a1,a2,a3,a4,by rw[Js]; exact a5,?_⟩
  rcases(hk.obs _ _ a1).1.kinds with ⟨k1,k2⟩|⟨k1,k2⟩
  ·exact .inl ⟨by rw[<- a4]; exact k1,KH a7 k2⟩
  ·exact .inr ⟨by rw[<- a4]; exact k1,by rw[<- a4]; exact Ie a6 k2⟩
 have hl: ∀ i,(h2.aj i).isSome=true->((E.shut Z).h (id i)).isSome=true:=fun i hi=>by
  obtain⟨ob,hi'⟩:=Option.isSome_iff_exists.1 hi
  obtain⟨ob',a1,a2,_⟩:=hob i ob hi'
  rw[wI a2,a1]; rfl
 have abZ:T.aO M ts:=qJ _ _ hs hid
 have hvs:bF ((E.shut Z).ren id h2.aj) ts vs:=by
  refine vg hl _ _ ?_
  rw[Js]
  exact nY hk _ _ (by rw[he]; exact hs) _ hts
 refine(hcall F M ((E.shut Z).ren id h2.aj) vs (hk.ren hob fun _ _ _ _ e=>e) rfl hvs abZ (fun i ob hi=>?_) hn).mono ?_
 ·obtain⟨ob',a1,_,_,_,a5,_⟩:=hget i ob hi
  rw[he] at a1
  exact⟨(hm i ob' a1).1,qJ _ _ a5 (hm i ob' a1).2⟩
 ·rintro e w' ⟨v,t',E',rfl,rfl,hp,hv,hk',hext,hS,h7,h8⟩
  refine⟨v,t',E',rfl,rfl,hp,hv,hk',⟨fun g hg=>hext.s g (.inl hg),fun g hg=>hext.w g (hg.imp .inl id),hext.size,hext.os,hext.tape,hext.output,hext.dr⟩,fun i hi hi2=>?_,h7,h8⟩
  obtain⟨a,b,c⟩:=hS i hi hi2
  exact⟨(xO (hl i a)).1,b,c⟩
theorem ah.Nv{P:Program}{f:FuncId}{args args':List V}{h h2:Hz}{n:Nat}{K:V->Hz->Prop}{KW:Nat->V->Hz->Prop}(Z:Nat->Prop)(W:ES Z h h2)(hs:T.cu Z h.aj (V.aT args') (V.aT args))
  (H:aP P f (V.aT args') h2.aj n fun t hp=> ∃ v h',t=v.aG/\hp=h'.aj/\(false=true->h'=h2/\t.free=true)/\K v h'):ah P false none f args h n K KW :=
 ⟨.inl (aP.mono (aP.Nv Z W hs H) fun _ _ ⟨v,h',a,b,_,d⟩=>⟨v,h',a,b,(fun e=>by cases e),d⟩)⟩
def xP:V:=.row 0 true .nil
def Pm(name:Str)(fr tt rd wr:Int):V:=.agg [.str name,.int 1,.int fr,.int tt,.int 0,.int 0,xP,xP,xP,xP,.int rd,.int wr,xP,.int 0,xP,xP,xP,.int 0]
def TK:V:=.agg [.str iK.name,.int 1,.row 0 false (.strs iK.states),xP,.row 0 false (.strs iK.values),.int 0,xP,.row 0 false (.ints [0]),xP,.pR 19 false [Pm [97,115,107] 0 1 (-1) (-1),Pm [116,97,107,101] 1 2 0 1,Pm [108,101,97,118,101] 2 0 1 0]]
theorem dX{Z:Nat->Prop}{h:Hp}{k:Nat}{l:List T}:T.sub Z h (.sl k false l) (.sl k true l):=⟨.inl rfl,.inl rfl,fun h=>by cases h⟩
theorem dP{Z:Nat->Prop}{h:Hp}{k:Nat}:T.sub Z h (.sl k false []) T.nil:=⟨.inl rfl,.inr rfl,fun h=>by cases h⟩
theorem au.weak{P:Program}{f:FuncId}{args:List V}{a b:V}(S:au P f args a)(hs:T.sub (fun _=>True) no b.aG a.aG)(hb:b.free=true):au P f args b :=
 uZ.shut S (fun _=>hs) (V.lg b hb)
theorem EU{Z:Nat->Prop}{h:Hp}{name:Str}{fr tt rd wr:Int}:T.sub Z h (EW (CQ name fr tt rd wr)) (Pm name fr tt rd wr).aG:=by
 refine⟨ak _,ak _,ak _,ak _,ak _,ak _,dP,dP,dP,dP,ak _,ak _,dP,ak _,dP,dP,dP,ak _,trivial⟩
theorem Qs:T.sub (fun _=>True) no (TL iK) TK.aG:=by
 refine⟨ak _,ak _,ak _,dP,ak _,ak _,dP,ak _,dP,⟨.inr ⟨⟨EU,EU,EU,trivial⟩,fun t ht=>?_⟩,.inl rfl,fun h=>h⟩,trivial⟩
 obtain⟨x,_,rfl⟩:=List.mem_map.1 ht; rfl
theorem nO{Z:Nat->Prop}{h:Hp}{k i ty:Nat}{l:List T}(hz:Z i)(hf:T.dD l=true)(hk:k≠fE)(q:h i=some ⟨ty,k,l⟩):T.sub Z h (.sl k false l) (.own i):=⟨rfl,hz,hf,hk,ty,q⟩
theorem S.Ny:au Tryz.prog 22 [] (.dat (.dw iK)):=by
 refine au.weak (a:=TK) ?_ Qs rfl
 refine au.of Bd.lN (by simp) rfl rfl ?_
 conv=>whnf
 refine⟨⟨ak _,ak _,dX,ak _,dX,ak _,ak _,dX,ak _,nO trivial rfl (by decide) rfl,trivial⟩⟩
def aaT:V:=.agg [.str zH.name,.int 1,xP,.pR 3 false [.agg [.row 0 true (.ints [2]),.int 2]],xP,xP]
theorem S.EX:au Tryz.prog 23 [] (.dat (.prop zH)):=by
 refine au.weak (a:=aaT) ?_ ?_ rfl
 ·refine au.of Bd.jH (by simp) rfl rfl ?_
  conv=>whnf
  exact⟨⟨ak _,ak _,ak _,nO trivial rfl (by decide) rfl,ak _,ak _,trivial⟩⟩
 ·refine⟨ak _,ak _,dP,⟨.inr ⟨⟨⟨dX,ak _,trivial⟩,trivial⟩,fun t ht=>?_⟩,.inl rfl,fun h=>h⟩,dP,dP,trivial⟩
  obtain⟨x,_,rfl⟩:=List.mem_map.1 ht; rfl
theorem WI:EY iK 1 [zy] []=0:=by kernel_rfl
theorem TM:DX iK (iK.rules.getD 1 default) [zy] []=(0,⟨0,[0,1,1]⟩):=by kernel_rfl
theorem WJ:Y1 iK zH [zy,sQ] []=true:=by kernel_rfl
theorem Y2:Y1 iK zH [zy] []=false:=by kernel_rfl
theorem KI:SmallK [zy]:=by
 refine⟨by decide,fun i=>?_⟩
 match i with
 |0=>exact Ig
 |i+1=>constructor<;>first|(exact(by decide:(0:Nat)<2^30))|(intro i; exact(by decide:(0:Nat)<2^30))
theorem TN:SmallK [zy,sQ]:=by
 refine⟨by decide,fun i=>?_⟩
 match i with
 |0=>exact Ig
 |1=>exact EZ
 |i+2=>constructor<;>first|(exact(by decide:(0:Nat)<2^30))|(intro i; exact(by decide:(0:Nat)<2^30))
theorem xQ:SmallK []:=by
 refine⟨by decide,fun i=>?_⟩
 constructor<;>first|(exact(by decide:(0:Nat)<2^30))|(intro i; exact(by decide:(0:Nat)<2^30))
theorem ah.aaU{P:Program}{f:FuncId}{args args2:List V}{res:V}{h:Hz}{n:Nat}{K:V->Hz->Prop}{KW:Nat->V->Hz->Prop}(Z:Nat->Prop)(h2 h3:Hz)(j:Nat)(S:au P f args2 res)(W:ES Z h h2)(W2:ES (fun _=>False) h2 h3)(hs2:T.cu (fun i=>i=j) h3.aj (V.aT args2) (V.aT args))(_hr:res.free=true)(hK:K res ((j,none)::h3)):ah P false none f args h n K KW:=by
 refine ah.Nv Z W (bC _) (aP.Nv (fun _=>False) W2 (bC _) ?_)
 refine uZ.aaV S (fun i=>i=j) hs2 fun h0 h1 h4=>⟨res,(j,none)::h3,rfl,?_,(fun e=>by cases e),hK⟩
 show nG h0 n none=_
 funext i
 rw[bD]
 show h0 i=if i=j then none else h3.aj i
 by_cases hi:i=j
 ·rw[if_pos hi,h1 i hi]
 ·rw[if_neg hi,h4 i hi]
def r2V:V:=.row 0 true (.ints [2])
def WL:V:=.agg [.pR 0 false [r2V,r2V],xP,xP]
def TP:V:=.agg [.pR 0 false [r2V],.row 0 true (.ints [0]),xP]
theorem Pn{Z:Nat->Prop}{h:Hp}:T.sub Z h (iD zy) WL.aG:=by
 refine⟨⟨.inr ⟨⟨dX,dX,trivial⟩,fun t ht=>?_⟩,.inl rfl,fun h=>h⟩,dP,dP,trivial⟩
 obtain⟨x,_,rfl⟩:=List.mem_map.1 ht; rfl
theorem TQ{Z:Nat->Prop}{h:Hp}:T.sub Z h (iD sQ) TP.aG:=by
 refine⟨⟨.inr ⟨⟨dX,trivial⟩,fun t ht=>?_⟩,.inl rfl,fun h=>h⟩,dX,dP,trivial⟩
 obtain⟨x,_,rfl⟩:=List.mem_map.1 ht; rfl
theorem KJ{Z:Nat->Prop}{h:Hp}{i:Nat}(hz:Z i)(q:h i=some ⟨24,0,[r2V.aG,r2V.aG]⟩):T.sub Z h WL.aG (.agg [.own i,T.nil,T.nil]):=⟨nO hz rfl (by decide) q,ak _,ak _,trivial⟩
theorem Qu{Z:Nat->Prop}{h:Hp}{i:Nat}(hz:Z i)(q:h i=some ⟨24,0,[r2V.aG]⟩):T.sub Z h TP.aG (.agg [.own i,.sl 0 true [.int 0],T.nil]):=⟨nO hz rfl (by decide) q,ak _,ak _,trivial⟩
def WM(v:V):OV:=.box 36 4 v
def aaW:OV:=.box 27 11 (.dat (.dw iK))
def aaX:OV:=.box 52 7 (.dat (.prop zH))
theorem S.pU:au Tryz.prog 10 [] (.bool true):=by
 have hS:au Tryz.prog 24 [.dat (.dw iK),.int 1,.row 4 false (.clauses [zy]),.row 4 true (.clauses [])] (.fO [.int 0,.dat (.elem ⟨0,[0,1,1]⟩),.int 0]):=by
  have:=S.gI iK 1 [zy] [] false true uo KI xQ
  rw[Nz,WI,show(1:Int).toNat=1 from rfl,TM] at this
  exact this
 refine au.of Bd.pU (by simp) rfl rfl ?_
 conv=>whnf
 refine ah.pure S.Ny rfl ?_
 conv=>whnf
 refine ah.pure S.EX rfl ?_
 conv=>whnf
 refine ah.aaU (fun i=>i=3\/i=8) [(21,some (.row 36 4 .nil [WL])),(5,some (WM WL)),(11,some (WM TP)),(15,some aaW),(16,some aaX)] [(21,some (fP [zy])),(5,some (WM (.dat (.clause zy)))),(11,some (WM (.dat (.clause sQ)))),(15,some aaW),(16,some aaX)] 21 hS ?_ ?_ ?_ rfl ?_
 ·refine⟨⟨_,rfl,(by decide),rfl,rfl,⟨KJ (.inl rfl) rfl,trivial⟩,rfl,rfl⟩,⟨_,rfl,(by decide),rfl,rfl,⟨KJ (.inl rfl) rfl,trivial⟩,rfl,rfl⟩,⟨_,rfl,(by decide),rfl,rfl,⟨Qu (.inr rfl) rfl,trivial⟩,rfl,rfl⟩,⟨_,rfl,(by decide),rfl,rfl,bC _,rfl,rfl⟩,⟨_,rfl,(by decide),rfl,rfl,bC _,rfl,rfl⟩,trivial⟩
 ·refine⟨⟨_,rfl,(fun h=>h),rfl,rfl,⟨Pn,trivial⟩,rfl,rfl⟩,⟨_,rfl,(fun h=>h),rfl,rfl,⟨Pn,trivial⟩,rfl,rfl⟩,⟨_,rfl,(fun h=>h),rfl,rfl,⟨TQ,trivial⟩,rfl,rfl⟩,⟨_,rfl,(fun h=>h),rfl,rfl,bC _,rfl,rfl⟩,⟨_,rfl,(fun h=>h),rfl,rfl,bC _,rfl,rfl⟩,trivial⟩
 ·exact And.intro (ak _) (And.intro (ak _) (And.intro (TR rfl rfl) (And.intro ⟨.inl rfl,.inr rfl,fun h=>h⟩ trivial)))
 conv=>whnf
 refine ah.pure S.NC rfl ?_
 conv=>whnf
 repeat(refine VC.mk (by first|exact id|exact fun h=>⟨h,h⟩) ?_; conv=>whnf)
 have hC:au Tryz.prog 26 [.dat (.elem ⟨0,[0,1,1]⟩),.dat (.elem ⟨0,[0,1,1]⟩)] (.int 0):=S.qK ⟨0,[0,1,1]⟩ ⟨0,[0,1,1]⟩ (by decide) (by decide)
 refine ah.Po (fun _=>hC) (fun _=>And.intro (ak _) (And.intro ⟨ak _,dX,trivial⟩ trivial)) rfl rfl ?_
 conv=>whnf
 repeat(refine VC.mk id ?_; conv=>whnf)
 refine Fork.mk (fun _=>?_) (fun hx=>absurd hx (by decide))
 conv=>whnf
 repeat(refine VC.mk (by decide) ?_; conv=>whnf)
 have hB:au Tryz.prog 27 [.dat (.dw iK),.dat (.prop zH),.row 4 false (.clauses [zy,sQ]),.row 4 true (.clauses [])] (.bool true):=by
  have:=S.eu iK zH [zy,sQ] [] false true uo E5 TN xQ
  rw[WJ] at this; exact this
 refine ah.Po (fun _=>hB) (fun _=>And.intro (ak _) (And.intro (ak _) (And.intro (nO trivial rfl (by decide) rfl) (And.intro ⟨.inl rfl,.inr rfl,fun h=>h⟩ trivial)))) rfl rfl ?_
 conv=>whnf
 refine .mk (by decide) ?_
 conv=>whnf
 refine Fork.mk (fun _=>?_) (fun hx=>absurd hx (by decide))
 conv=>whnf
 repeat(refine VC.mk (by decide) ?_; conv=>whnf)
 have hB1:au Tryz.prog 27 [.dat (.dw iK),.dat (.prop zH),.row 4 false (.clauses [zy]),.row 4 true (.clauses [])] (.bool false):=by
  have:=S.eu iK zH [zy] [] false true uo E5 KI xQ
  rw[Y2] at this; exact this
 refine ah.Po (fun _=>hB1) (fun _=>And.intro (ak _) (And.intro (ak _) (And.intro (nO trivial rfl (by decide) rfl) (And.intro ⟨.inl rfl,.inr rfl,fun h=>h⟩ trivial)))) rfl rfl ?_
 conv=>whnf
 repeat(refine VC.mk (by decide) ?_; conv=>whnf)
 exact aA.bool (by decide)
end Go.Proofs.YtbfhebmdcpmfaaaGreatDoor
