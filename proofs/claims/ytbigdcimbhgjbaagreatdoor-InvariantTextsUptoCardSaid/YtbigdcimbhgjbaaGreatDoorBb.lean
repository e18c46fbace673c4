/-
 A part of the proof. No condition.
-/
import Derived.Test.YtbigdcimbhgjbaaGreatDoorId
import Derived.Test.YtbigdcimbhgjbaaGreatDoorBd
namespace Go.Proofs.YtbigdcimbhgjbaaGreatDoor
open Go.Ab Go.Proofs
set_option maxRecDepth 100000
theorem aP.Rj{P:Program}{f:FuncId}{ts ts':List T}{h h2:Hz}{n:Nat}{K:T->Hp->Prop}(Z:Nat->Prop)(W:Gi Z h h2)(hs:T.dJ Z h.aj ts ts')(H:aP P f ts h2.aj n K):aP P f ts' h.aj n K:=by
 obtain⟨hex,hcl,hcall⟩:=H
 refine⟨hex,hcl,fun F M E vs hk he hts hid hm hn=>?_⟩
 have hget: ∀ i ob,h2.aj i=some ob-> ∃ ob',E.h (id i)=some ob'/\ ¬ Z (id i)/\ob'.ty=ob.ty/\ob'.k=ob.k/\T.dJ Z E.h ob.l ob'.l/\ob.l.map T.kd=ob'.l.map T.kd/\ob.l.map iC=ob'.l.map iC:=fun i ob hi=>by
  simp only[Hz.aj,Option.map_eq_some_iff] at hi
  obtain⟨o,e1,rfl⟩:=hi
  obtain⟨o',a1,a2,a3,a4,a5,a6,a7⟩:=Ci W e1
  exact⟨o'.aF,by rw[he]; exact aH a1,a2,a3,a4,by rw[he]; exact a5,a6,a7⟩
 have hob: ∀ i ob,h2.aj i=some ob-> ∃ ob',E.h (id i)=some ob'/\ ¬ Z (id i)/\Gj Z E.h id ob ob':=fun i ob hi=>by
  obtain⟨ob',a1,a2,a3,a4,a5,a6,a7⟩:=hget i ob hi
  refine⟨ob',a1,a2,a3,a4,by rw[KF]; exact a5,?_⟩
  rcases(hk.obs _ _ a1).1.kinds with ⟨k1,k2⟩|⟨k1,k2⟩
  ·exact .inl ⟨by rw[<- a4]; exact k1,Gl a7 k2⟩
  ·exact .inr ⟨by rw[<- a4]; exact k1,by rw[<- a4]; exact D6 a6 k2⟩
 have hl: ∀ i,(h2.aj i).isSome=true->((E.shut Z).h (id i)).isSome=true:=fun i hi=>by
  obtain⟨ob,hi'⟩:=Option.isSome_iff_exists.1 hi
  obtain⟨ob',a1,a2,_⟩:=hob i ob hi'
  rw[vP a2,a1]; rfl
 have ady:T.aO M ts:=nX _ _ hs hid
 have hvs:bD ((E.shut Z).ren id h2.aj) ts vs:=by
  refine qR hl _ _ ?_
  rw[KF]
  exact nH hk _ _ (by rw[he]; exact hs) _ hts
 refine(hcall F M ((E.shut Z).ren id h2.aj) vs (hk.ren hob fun _ _ _ _ e=>e) rfl hvs ady (fun i ob hi=>?_) hn).mono ?_
 ·obtain⟨ob',a1,_,_,_,a5,_⟩:=hget i ob hi
  rw[he] at a1
  exact⟨(hm i ob' a1).1,nX _ _ a5 (hm i ob' a1).2⟩
 ·rintro e w' ⟨v,t',E',rfl,rfl,hp,hv,hk',hext,hS,h7,h8⟩
  refine⟨v,t',E',rfl,rfl,hp,hv,hk',⟨fun g hg=>hext.s g (.inl hg),fun g hg=>hext.w g (hg.imp .inl id),hext.size,hext.os,hext.tape,hext.output,hext.y⟩,fun i hi hi2=>?_,h7,h8⟩
  obtain⟨a,b,c⟩:=hS i hi hi2
  exact⟨(yO (hl i a)).1,b,c⟩
theorem ah.Rj{P:Program}{f:FuncId}{args args':List V}{h h2:Hz}{n:Nat}{K:V->Hz->Prop}{KW:Nat->V->Hz->Prop}(Z:Nat->Prop)(W:Gi Z h h2)(hs:T.dJ Z h.aj (V.aX args') (V.aX args))
  (H:aP P f (V.aX args') h2.aj n fun t hp=> ∃ v h',t=v.aI/\hp=h'.aj/\(false=true->h'=h2/\t.free=true)/\K v h'):ah P false none f args h n K KW :=
 ⟨.inl (aP.mono (aP.Rj Z W hs H) fun _ _ ⟨v,h',a,b,_,d⟩=>⟨v,h',a,b,(fun e=>by cases e),d⟩)⟩
def yP:V:=.row 0 true .nil
def Rk(name:Str)(fr tt rd wr:Int):V:=.agg [.str name,.int 1,.int fr,.int tt,.int 0,.int 0,yP,yP,yP,yP,.int rd,.int wr,yP,.int 0,yP,yP,yP,.int 0]
def Vy:V:=.agg [.str iQ.name,.int 1,.row 0 false (.strs iQ.states),yP,.row 0 false (.strs iQ.values),.int 0,yP,.row 0 false (.ints [0]),yP,.yQ 19 false [Rk [97,115,107] 0 1 (-1) (-1),Rk [116,97,107,101] 1 2 0 1,Rk [108,101,97,118,101] 2 0 1 0]]
theorem pJ{Z:Nat->Prop}{h:Hp}{k:Nat}{l:List T}:T.sub Z h (.sl k false l) (.sl k true l):=⟨.inl rfl,.inl rfl,fun h=>by cases h⟩
theorem kC{Z:Nat->Prop}{h:Hp}{k:Nat}:T.sub Z h (.sl k false []) T.nil:=⟨.inl rfl,.inr rfl,fun h=>by cases h⟩
theorem ak.weak{P:Program}{f:FuncId}{args:List V}{a b:V}(S:ak P f args a)(hs:T.sub (fun _=>True) no b.aI a.aI)(hb:b.free=true):ak P f args b :=
 wF.shut S (fun _=>hs) (V.lI b hb)
theorem Gm{Z:Nat->Prop}{h:Hp}{name:Str}{fr tt rd wr:Int}:T.sub Z h (Gn (D7 name fr tt rd wr)) (Rk name fr tt rd wr).aI:=by
 refine⟨aB _,aB _,aB _,aB _,aB _,aB _,kC,kC,kC,kC,aB _,aB _,kC,aB _,kC,kC,kC,aB _,trivial⟩
theorem Tn:T.sub (fun _=>True) no (Vz iQ) Vy.aI:=by
 refine⟨aB _,aB _,aB _,kC,aB _,aB _,kC,aB _,kC,⟨.inr ⟨⟨Gm,Gm,Gm,trivial⟩,fun t ht=>?_⟩,.inl rfl,fun h=>h⟩,trivial⟩
 obtain⟨x,_,rfl⟩:=List.mem_map.1 ht; rfl
theorem zM{Z:Nat->Prop}{h:Hp}{k i ty:Nat}{l:List T}(hz:Z i)(hf:T.bZ l=true)(hk:k≠eU)(q:h i=some ⟨ty,k,l⟩):T.sub Z h (.sl k false l) (.own i):=⟨rfl,hz,hf,hk,ty,q⟩
theorem S.Py:ak Tryz.prog 23 [] (.dat (.eu iQ)):=by
 refine ak.weak (a:=Vy) ?_ Tn rfl
 refine ak.of Bd.lX (by simp) rfl rfl ?_
 conv=>whnf
 refine⟨⟨aB _,aB _,pJ,aB _,pJ,aB _,aB _,pJ,aB _,zM trivial rfl (by decide) rfl,trivial⟩⟩
def acn:V:=.agg [.str Aw.name,.int 1,yP,.yQ 3 false [.agg [.row 0 true (.ints [2]),.int 2]],yP,yP]
theorem S.Gp:ak Tryz.prog 24 [] (.dat (.prop Aw)):=by
 refine ak.weak (a:=acn) ?_ ?_ rfl
 ·refine ak.of Bd.jU (by simp) rfl rfl ?_
  conv=>whnf
  exact⟨⟨aB _,aB _,aB _,zM trivial rfl (by decide) rfl,aB _,aB _,trivial⟩⟩
 ·refine⟨aB _,aB _,kC,⟨.inr ⟨⟨⟨pJ,aB _,trivial⟩,trivial⟩,fun t ht=>?_⟩,.inl rfl,fun h=>h⟩,kC,kC,trivial⟩
  obtain⟨x,_,rfl⟩:=List.mem_map.1 ht; rfl
theorem YI:Gq iQ 1 [Aj] []=0:=by kernel_rfl
theorem VA:ES iQ (iQ.rules.getD 1 default) [Aj] []=(0,⟨0,[0,1,1]⟩):=by kernel_rfl
theorem YJ:ccB iQ Aw [Aj,uD] []=true:=by kernel_rfl
theorem aaH:ccB iQ Aw [Aj] []=false:=by kernel_rfl
theorem MO:SmallK [Aj]:=by
 refine⟨by decide,fun i=>?_⟩
 match i with
 |0=>exact Jm
 |i+1=>constructor<;>first|(exact(by decide:(0:Nat)<2^30))|(intro i; exact(by decide:(0:Nat)<2^30))
theorem VB:SmallK [Aj,uD]:=by
 refine⟨by decide,fun i=>?_⟩
 match i with
 |0=>exact Jm
 |1=>exact Gs
 |i+2=>constructor<;>first|(exact(by decide:(0:Nat)<2^30))|(intro i; exact(by decide:(0:Nat)<2^30))
theorem Gt:SmallK []:=by
 refine⟨by decide,fun i=>?_⟩
 constructor<;>first|(exact(by decide:(0:Nat)<2^30))|(intro i; exact(by decide:(0:Nat)<2^30))
theorem ah.aco{P:Program}{f:FuncId}{args args2:List V}{res:V}{h:Hz}{n:Nat}{K:V->Hz->Prop}{KW:Nat->V->Hz->Prop}(Z:Nat->Prop)(h2 h3:Hz)(j:Nat)(S:ak P f args2 res)(W:Gi Z h h2)(W2:Gi (fun _=>False) h2 h3)(hs2:T.dJ (fun i=>i=j) h3.aj (V.aX args2) (V.aX args))(_hr:res.free=true)(hK:K res ((j,none)::h3)):ah P false none f args h n K KW:=by
 refine ah.Rj Z W (cO _) (aP.Rj (fun _=>False) W2 (cO _) ?_)
 refine wF.acp S (fun i=>i=j) hs2 fun h0 h1 h4=>⟨res,(j,none)::h3,rfl,?_,(fun e=>by cases e),hK⟩
 show gu h0 n none=_
 funext i
 rw[aY]
 show h0 i=if i=j then none else h3.aj i
 by_cases hi:i=j
 ·rw[if_pos hi,h1 i hi]
 ·rw[if_neg hi,h4 i hi]
def r2V:V:=.row 0 true (.ints [2])
def YK:V:=.agg [.yQ 0 false [r2V,r2V],yP,yP]
def VD:V:=.agg [.yQ 0 false [r2V],.row 0 true (.ints [0]),yP]
theorem Rl{Z:Nat->Prop}{h:Hp}:T.sub Z h (tu Aj) YK.aI:=by
 refine⟨⟨.inr ⟨⟨pJ,pJ,trivial⟩,fun t ht=>?_⟩,.inl rfl,fun h=>h⟩,kC,kC,trivial⟩
 obtain⟨x,_,rfl⟩:=List.mem_map.1 ht; rfl
theorem VE{Z:Nat->Prop}{h:Hp}:T.sub Z h (tu uD) VD.aI:=by
 refine⟨⟨.inr ⟨⟨pJ,trivial⟩,fun t ht=>?_⟩,.inl rfl,fun h=>h⟩,pJ,kC,trivial⟩
 obtain⟨x,_,rfl⟩:=List.mem_map.1 ht; rfl
theorem MP{Z:Nat->Prop}{h:Hp}{i:Nat}(hz:Z i)(q:h i=some ⟨24,0,[r2V.aI,r2V.aI]⟩):T.sub Z h YK.aI (.agg [.own i,T.nil,T.nil]):=⟨zM hz rfl (by decide) q,aB _,aB _,trivial⟩
theorem Tq{Z:Nat->Prop}{h:Hp}{i:Nat}(hz:Z i)(q:h i=some ⟨24,0,[r2V.aI]⟩):T.sub Z h VD.aI (.agg [.own i,.sl 0 true [.int 0],T.nil]):=⟨zM hz rfl (by decide) q,aB _,aB _,trivial⟩
def YL(v:V):OV:=.box 30 4 v
def acr:OV:=.box 27 11 (.dat (.eu iQ))
def acs:OV:=.box 63 7 (.dat (.prop Aw))
theorem S.lC:ak Tryz.prog 9 [] (.bool true):=by
 have hS:ak Tryz.prog 25 [.dat (.eu iQ),.int 1,.row 4 false (.clauses [Aj]),.row 4 true (.clauses [])] (.fH [.int 0,.dat (.elem ⟨0,[0,1,1]⟩),.int 0]):=by
  have:=S.gV iQ 1 [Aj] [] false true vS MO Gt
  rw[Pz,YI,show(1:Int).toNat=1 from rfl,VA] at this
  exact this
 refine ak.of Bd.lC (by simp) rfl rfl ?_
 conv=>whnf
 refine ah.pure S.Py rfl ?_
 conv=>whnf
 refine ah.pure S.Gp rfl ?_
 conv=>whnf
 refine ah.aco (fun i=>i=3\/i=8) [(21,some (.row 30 4 .nil [YK])),(5,some (YL YK)),(11,some (YL VD)),(15,some acr),(16,some acs)] [(21,some (VF [Aj])),(5,some (YL (.dat (.clause Aj)))),(11,some (YL (.dat (.clause uD)))),(15,some acr),(16,some acs)] 21 hS ?_ ?_ ?_ rfl ?_
 ·refine⟨⟨_,rfl,(by decide),rfl,rfl,⟨MP (.inl rfl) rfl,trivial⟩,rfl,rfl⟩,⟨_,rfl,(by decide),rfl,rfl,⟨MP (.inl rfl) rfl,trivial⟩,rfl,rfl⟩,⟨_,rfl,(by decide),rfl,rfl,⟨Tq (.inr rfl) rfl,trivial⟩,rfl,rfl⟩,⟨_,rfl,(by decide),rfl,rfl,cO _,rfl,rfl⟩,⟨_,rfl,(by decide),rfl,rfl,cO _,rfl,rfl⟩,trivial⟩
 ·refine⟨⟨_,rfl,(fun h=>h),rfl,rfl,⟨Rl,trivial⟩,rfl,rfl⟩,⟨_,rfl,(fun h=>h),rfl,rfl,⟨Rl,trivial⟩,rfl,rfl⟩,⟨_,rfl,(fun h=>h),rfl,rfl,⟨VE,trivial⟩,rfl,rfl⟩,⟨_,rfl,(fun h=>h),rfl,rfl,cO _,rfl,rfl⟩,⟨_,rfl,(fun h=>h),rfl,rfl,cO _,rfl,rfl⟩,trivial⟩
 ·exact And.intro (aB _) (And.intro (aB _) (And.intro (aak rfl rfl) (And.intro ⟨.inl rfl,.inr rfl,fun h=>h⟩ trivial)))
 conv=>whnf
 refine ah.pure S.PD rfl ?_
 conv=>whnf
 repeat(refine VC.mk (by first|exact id|exact fun h=>⟨h,h⟩) ?_; conv=>whnf)
 have hC:ak Tryz.prog 26 [.dat (.elem ⟨0,[0,1,1]⟩),.dat (.elem ⟨0,[0,1,1]⟩)] (.int 0):=S.rV ⟨0,[0,1,1]⟩ ⟨0,[0,1,1]⟩ (by decide) (by decide)
 refine ah.Rn (fun _=>hC) (fun _=>And.intro (aB _) (And.intro ⟨aB _,pJ,trivial⟩ trivial)) rfl rfl ?_
 conv=>whnf
 repeat(refine VC.mk id ?_; conv=>whnf)
 refine Fork.mk (fun _=>?_) (fun hx=>absurd hx (by decide))
 conv=>whnf
 repeat(refine VC.mk (by decide) ?_; conv=>whnf)
 have hB:ak Tryz.prog 27 [.dat (.eu iQ),.dat (.prop Aw),.row 4 false (.clauses [Aj,uD]),.row 4 true (.clauses [])] (.bool true):=by
  have:=S.eX iQ Aw [Aj,uD] [] false true vS Gu VB Gt
  rw[YJ] at this; exact this
 refine ah.Rn (fun _=>hB) (fun _=>And.intro (aB _) (And.intro (aB _) (And.intro (zM trivial rfl (by decide) rfl) (And.intro ⟨.inl rfl,.inr rfl,fun h=>h⟩ trivial)))) rfl rfl ?_
 conv=>whnf
 refine .mk (by decide) ?_
 conv=>whnf
 refine Fork.mk (fun _=>?_) (fun hx=>absurd hx (by decide))
 conv=>whnf
 repeat(refine VC.mk (by decide) ?_; conv=>whnf)
 have hB1:ak Tryz.prog 27 [.dat (.eu iQ),.dat (.prop Aw),.row 4 false (.clauses [Aj]),.row 4 true (.clauses [])] (.bool false):=by
  have:=S.eX iQ Aw [Aj] [] false true vS Gu MO Gt
  rw[aaH] at this; exact this
 refine ah.Rn (fun _=>hB1) (fun _=>And.intro (aB _) (And.intro (aB _) (And.intro (zM trivial rfl (by decide) rfl) (And.intro ⟨.inl rfl,.inr rfl,fun h=>h⟩ trivial)))) rfl rfl ?_
 conv=>whnf
 repeat(refine VC.mk (by decide) ?_; conv=>whnf)
 exact au.bool (by decide)
end Go.Proofs.YtbigdcimbhgjbaaGreatDoor
