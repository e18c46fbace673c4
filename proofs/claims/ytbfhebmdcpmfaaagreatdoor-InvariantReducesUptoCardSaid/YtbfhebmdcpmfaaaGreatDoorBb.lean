/-
 A part of the proof. No condition.
-/
import Derived.Test.YtbfhebmdcpmfaaaGreatDoorId
import Derived.Test.YtbfhebmdcpmfaaaGreatDoorBd
namespace Go.Proofs.YtbfhebmdcpmfaaaGreatDoor
open Go.Ab Go.Proofs
set_option maxRecDepth 100000
theorem aN.OX{P:Program}{f:FuncId}{ts ts':List T}{h h2:Hz}{n:Nat}{K:T->Hp->Prop}(Z:Nat->Prop)(W:Fz Z h h2)(hs:T.dD Z h.aj ts ts')(H:aN P f ts h2.aj n K):aN P f ts' h.aj n K:=by
 obtain⟨hex,hcl,hcall⟩:=H
 refine⟨hex,hcl,fun F M E vs hk he hts hid hm hn=>?_⟩
 have hget: ∀ i ob,h2.aj i=some ob-> ∃ ob',E.h (id i)=some ob'/\ ¬ Z (id i)/\ob'.ty=ob.ty/\ob'.k=ob.k/\T.dD Z E.h ob.l ob'.l/\ob.l.map T.kd=ob'.l.map T.kd/\ob.l.map fQ=ob'.l.map fQ:=fun i ob hi=>by
  simp only[Hz.aj,Option.map_eq_some_iff] at hi
  obtain⟨o,e1,rfl⟩:=hi
  obtain⟨o',a1,a2,a3,a4,a5,a6,a7⟩:=CB W e1
  exact⟨o'.aF,by rw[he]; exact aH a1,a2,a3,a4,by rw[he]; exact a5,a6,a7⟩
 have hob: ∀ i ob,h2.aj i=some ob-> ∃ ob',E.h (id i)=some ob'/\ ¬ Z (id i)/\Gg Z E.h id ob ob':=fun i ob hi=>by
  obtain⟨ob',a1,a2,a3,a4,a5,a6,a7⟩:=hget i ob hi
  refine⟨ob',a1,a2,a3,a4,by rw[KA]; exact a5,?_⟩
  rcases(hk.obs _ _ a1).1.kinds with ⟨k1,k2⟩|⟨k1,k2⟩
  ·exact .inl ⟨by rw[<- a4]; exact k1,Gh a7 k2⟩
  ·exact .inr ⟨by rw[<- a4]; exact k1,by rw[<- a4]; exact D6 a6 k2⟩
 have hl: ∀ i,(h2.aj i).isSome=true->((E.shut Z).h (id i)).isSome=true:=fun i hi=>by
  obtain⟨ob,hi'⟩:=Option.isSome_iff_exists.1 hi
  obtain⟨ob',a1,a2,_⟩:=hob i ob hi'
  rw[uU a2,a1]; rfl
 have ada:T.aO M ts:=nR _ _ hs hid
 have hvs:bC ((E.shut Z).ren id h2.aj) ts vs:=by
  refine tq hl _ _ ?_
  rw[KA]
  exact ny hk _ _ (by rw[he]; exact hs) _ hts
 refine(hcall F M ((E.shut Z).ren id h2.aj) vs (hk.ren hob fun _ _ _ _ e=>e) rfl hvs ada (fun i ob hi=>?_) hn).mono ?_
 ·obtain⟨ob',a1,_,_,_,a5,_⟩:=hget i ob hi
  rw[he] at a1
  exact⟨(hm i ob' a1).1,nR _ _ a5 (hm i ob' a1).2⟩
 ·rintro e w' ⟨v,t',E',rfl,rfl,hp,hv,hk',hext,hS,h7,h8⟩
  refine⟨v,t',E',rfl,rfl,hp,hv,hk',⟨fun g hg=>hext.s g (.inl hg),fun g hg=>hext.w g (hg.imp .inl id),hext.size,hext.os,hext.tape,hext.output,hext.dr⟩,fun i hi hi2=>?_,h7,h8⟩
  obtain⟨a,b,c⟩:=hS i hi hi2
  exact⟨(yO (hl i a)).1,b,c⟩
theorem ah.OX{P:Program}{f:FuncId}{args args':List V}{h h2:Hz}{n:Nat}{K:V->Hz->Prop}{KW:Nat->V->Hz->Prop}(Z:Nat->Prop)(W:Fz Z h h2)(hs:T.dD Z h.aj (V.aT args') (V.aT args))
  (H:aN P f (V.aT args') h2.aj n fun t hp=> ∃ v h',t=v.aG/\hp=h'.aj/\(false=true->h'=h2/\t.free=true)/\K v h'):ah P false none f args h n K KW :=
 ⟨.inl (aN.mono (aN.OX Z W hs H) fun _ _ ⟨v,h',a,b,_,d⟩=>⟨v,h',a,b,(fun e=>by cases e),d⟩)⟩
def yP:V:=.row 0 true .nil
def QK(name:Str)(fr tt rd wr:Int):V:=.agg [.str name,.int 1,.int fr,.int tt,.int 0,.int 0,yP,yP,yP,yP,.int rd,.int wr,yP,.int 0,yP,yP,yP,.int 0]
def Vk:V:=.agg [.str iQ.name,.int 1,.row 0 false (.strs iQ.states),yP,.row 0 false (.strs iQ.values),.int 0,yP,.row 0 false (.ints [0]),yP,.yF 19 false [QK [97,115,107] 0 1 (-1) (-1),QK [116,97,107,101] 1 2 0 1,QK [108,101,97,118,101] 2 0 1 0]]
theorem o8{Z:Nat->Prop}{h:Hp}{k:Nat}{l:List T}:T.sub Z h (.sl k false l) (.sl k true l):=⟨.inl rfl,.inl rfl,fun h=>by cases h⟩
theorem jO{Z:Nat->Prop}{h:Hp}{k:Nat}:T.sub Z h (.sl k false []) T.nil:=⟨.inl rfl,.inr rfl,fun h=>by cases h⟩
theorem ak.weak{P:Program}{f:FuncId}{args:List V}{a b:V}(S:ak P f args a)(hs:T.sub (fun _=>True) no b.aG a.aG)(hb:b.free=true):ak P f args b :=
 vM.shut S (fun _=>hs) (V.mG b hb)
theorem Gi{Z:Nat->Prop}{h:Hp}{name:Str}{fr tt rd wr:Int}:T.sub Z h (Gj (D7 name fr tt rd wr)) (QK name fr tt rd wr).aG:=by
 refine⟨aB _,aB _,aB _,aB _,aB _,aB _,jO,jO,jO,jO,aB _,aB _,jO,aB _,jO,jO,jO,aB _,trivial⟩
theorem Sm:T.sub (fun _=>True) no (Vl iQ) Vk.aG:=by
 refine⟨aB _,aB _,aB _,jO,aB _,aB _,jO,aB _,jO,⟨.inr ⟨⟨Gi,Gi,Gi,trivial⟩,fun t ht=>?_⟩,.inl rfl,fun h=>h⟩,trivial⟩
 obtain⟨x,_,rfl⟩:=List.mem_map.1 ht; rfl
theorem xA{Z:Nat->Prop}{h:Hp}{k i ty:Nat}{l:List T}(hz:Z i)(hf:T.dH l=true)(hk:k≠fF)(q:h i=some ⟨ty,k,l⟩):T.sub Z h (.sl k false l) (.own i):=⟨rfl,hz,hf,hk,ty,q⟩
theorem S.OZ:ak Tryz.prog 22 [] (.dat (.dF iQ)):=by
 refine ak.weak (a:=Vk) ?_ Sm rfl
 refine ak.of Bd.lX (by simp) rfl rfl ?_
 conv=>whnf
 refine⟨⟨aB _,aB _,o8,aB _,o8,aB _,aB _,o8,aB _,xA trivial rfl (by decide) rfl,trivial⟩⟩
def ab5:V:=.agg [.str AB.name,.int 1,yP,.yF 3 false [.agg [.row 0 true (.ints [2]),.int 2]],yP,yP]
theorem S.Gl:ak Tryz.prog 23 [] (.dat (.prop AB)):=by
 refine ak.weak (a:=ab5) ?_ ?_ rfl
 ·refine ak.of Bd.jL (by simp) rfl rfl ?_
  conv=>whnf
  exact⟨⟨aB _,aB _,aB _,xA trivial rfl (by decide) rfl,aB _,aB _,trivial⟩⟩
 ·refine⟨aB _,aB _,jO,⟨.inr ⟨⟨⟨o8,aB _,trivial⟩,trivial⟩,fun t ht=>?_⟩,.inl rfl,fun h=>h⟩,jO,jO,trivial⟩
  obtain⟨x,_,rfl⟩:=List.mem_map.1 ht; rfl
theorem Yh:Gm iQ 1 [Ap] []=0:=by kernel_rfl
theorem Vm:EX iQ (iQ.rules.getD 1 default) [Ap] []=(0,⟨0,[0,1,1]⟩):=by kernel_rfl
theorem Yi:ccB iQ AB [Ap,tY] []=true:=by kernel_rfl
theorem aar:ccB iQ AB [Ap] []=false:=by kernel_rfl
theorem MB:SmallK [Ap]:=by
 refine⟨by decide,fun i=>?_⟩
 match i with
 |0=>exact Jk
 |i+1=>constructor<;>first|(exact(by decide:(0:Nat)<2^30))|(intro i; exact(by decide:(0:Nat)<2^30))
theorem Vo:SmallK [Ap,tY]:=by
 refine⟨by decide,fun i=>?_⟩
 match i with
 |0=>exact Jk
 |1=>exact Gn
 |i+2=>constructor<;>first|(exact(by decide:(0:Nat)<2^30))|(intro i; exact(by decide:(0:Nat)<2^30))
theorem yQ:SmallK []:=by
 refine⟨by decide,fun i=>?_⟩
 constructor<;>first|(exact(by decide:(0:Nat)<2^30))|(intro i; exact(by decide:(0:Nat)<2^30))
theorem ah.ab6{P:Program}{f:FuncId}{args args2:List V}{res:V}{h:Hz}{n:Nat}{K:V->Hz->Prop}{KW:Nat->V->Hz->Prop}(Z:Nat->Prop)(h2 h3:Hz)(j:Nat)(S:ak P f args2 res)(W:Fz Z h h2)(W2:Fz (fun _=>False) h2 h3)(hs2:T.dD (fun i=>i=j) h3.aj (V.aT args2) (V.aT args))(_hr:res.free=true)(hK:K res ((j,none)::h3)):ah P false none f args h n K KW:=by
 refine ah.OX Z W (bZ _) (aN.OX (fun _=>False) W2 (bZ _) ?_)
 refine vM.MC S (fun i=>i=j) hs2 fun h0 h1 h4=>⟨res,(j,none)::h3,rfl,?_,(fun e=>by cases e),hK⟩
 show nN h0 n none=_
 funext i
 rw[bD]
 show h0 i=if i=j then none else h3.aj i
 by_cases hi:i=j
 ·rw[if_pos hi,h1 i hi]
 ·rw[if_neg hi,h4 i hi]
def r2V:V:=.row 0 true (.ints [2])
def Yj:V:=.agg [.yF 0 false [r2V,r2V],yP,yP]
def Vp:V:=.agg [.yF 0 false [r2V],.row 0 true (.ints [0]),yP]
theorem QL{Z:Nat->Prop}{h:Hp}:T.sub Z h (nX Ap) Yj.aG:=by
 refine⟨⟨.inr ⟨⟨o8,o8,trivial⟩,fun t ht=>?_⟩,.inl rfl,fun h=>h⟩,jO,jO,trivial⟩
 obtain⟨x,_,rfl⟩:=List.mem_map.1 ht; rfl
theorem Vq{Z:Nat->Prop}{h:Hp}:T.sub Z h (nX tY) Vp.aG:=by
 refine⟨⟨.inr ⟨⟨o8,trivial⟩,fun t ht=>?_⟩,.inl rfl,fun h=>h⟩,o8,jO,trivial⟩
 obtain⟨x,_,rfl⟩:=List.mem_map.1 ht; rfl
theorem MF{Z:Nat->Prop}{h:Hp}{i:Nat}(hz:Z i)(q:h i=some ⟨24,0,[r2V.aG,r2V.aG]⟩):T.sub Z h Yj.aG (.agg [.own i,T.nil,T.nil]):=⟨xA hz rfl (by decide) q,aB _,aB _,trivial⟩
theorem Sr{Z:Nat->Prop}{h:Hp}{i:Nat}(hz:Z i)(q:h i=some ⟨24,0,[r2V.aG]⟩):T.sub Z h Vp.aG (.agg [.own i,.sl 0 true [.int 0],T.nil]):=⟨xA hz rfl (by decide) q,aB _,aB _,trivial⟩
def Yk(v:V):OV:=.box 36 4 v
def ab7:OV:=.box 27 11 (.dat (.dF iQ))
def ab8:OV:=.box 52 7 (.dat (.prop AB))
theorem S.oh:ak Tryz.prog 10 [] (.bool true):=by
 have hS:ak Tryz.prog 24 [.dat (.dF iQ),.int 1,.row 4 false (.clauses [Ap]),.row 4 true (.clauses [])] (.fK [.int 0,.dat (.elem ⟨0,[0,1,1]⟩),.int 0]):=by
  have:=S.gK iQ 1 [Ap] [] false true uV MB yQ
  rw[O1,Yh,show(1:Int).toNat=1 from rfl,Vm] at this
  exact this
 refine ak.of Bd.oh (by simp) rfl rfl ?_
 conv=>whnf
 refine ah.pure S.OZ rfl ?_
 conv=>whnf
 refine ah.pure S.Gl rfl ?_
 conv=>whnf
 refine ah.ab6 (fun i=>i=3\/i=8) [(21,some (.row 36 4 .nil [Yj])),(5,some (Yk Yj)),(11,some (Yk Vp)),(15,some ab7),(16,some ab8)] [(21,some (Sv [Ap])),(5,some (Yk (.dat (.clause Ap)))),(11,some (Yk (.dat (.clause tY)))),(15,some ab7),(16,some ab8)] 21 hS ?_ ?_ ?_ rfl ?_
 ·refine⟨⟨_,rfl,(by decide),rfl,rfl,⟨MF (.inl rfl) rfl,trivial⟩,rfl,rfl⟩,⟨_,rfl,(by decide),rfl,rfl,⟨MF (.inl rfl) rfl,trivial⟩,rfl,rfl⟩,⟨_,rfl,(by decide),rfl,rfl,⟨Sr (.inr rfl) rfl,trivial⟩,rfl,rfl⟩,⟨_,rfl,(by decide),rfl,rfl,bZ _,rfl,rfl⟩,⟨_,rfl,(by decide),rfl,rfl,bZ _,rfl,rfl⟩,trivial⟩
 ·refine⟨⟨_,rfl,(fun h=>h),rfl,rfl,⟨QL,trivial⟩,rfl,rfl⟩,⟨_,rfl,(fun h=>h),rfl,rfl,⟨QL,trivial⟩,rfl,rfl⟩,⟨_,rfl,(fun h=>h),rfl,rfl,⟨Vq,trivial⟩,rfl,rfl⟩,⟨_,rfl,(fun h=>h),rfl,rfl,bZ _,rfl,rfl⟩,⟨_,rfl,(fun h=>h),rfl,rfl,bZ _,rfl,rfl⟩,trivial⟩
 ·exact And.intro (aB _) (And.intro (aB _) (And.intro (QM rfl rfl) (And.intro ⟨.inl rfl,.inr rfl,fun h=>h⟩ trivial)))
 conv=>whnf
 refine ah.pure S.O4 rfl ?_
 conv=>whnf
 repeat(refine VC.mk (by first|exact id|exact fun h=>⟨h,h⟩) ?_; conv=>whnf)
 have hC:ak Tryz.prog 26 [.dat (.elem ⟨0,[0,1,1]⟩),.dat (.elem ⟨0,[0,1,1]⟩)] (.int 0):=S.rF ⟨0,[0,1,1]⟩ ⟨0,[0,1,1]⟩ (by decide) (by decide)
 refine ah.QN (fun _=>hC) (fun _=>And.intro (aB _) (And.intro ⟨aB _,o8,trivial⟩ trivial)) rfl rfl ?_
 conv=>whnf
 repeat(refine VC.mk id ?_; conv=>whnf)
 refine Fork.mk (fun _=>?_) (fun hx=>absurd hx (by decide))
 conv=>whnf
 repeat(refine VC.mk (by decide) ?_; conv=>whnf)
 have hB:ak Tryz.prog 27 [.dat (.dF iQ),.dat (.prop AB),.row 4 false (.clauses [Ap,tY]),.row 4 true (.clauses [])] (.bool true):=by
  have:=S.eP iQ AB [Ap,tY] [] false true uV Gp Vo yQ
  rw[Yi] at this; exact this
 refine ah.QN (fun _=>hB) (fun _=>And.intro (aB _) (And.intro (aB _) (And.intro (xA trivial rfl (by decide) rfl) (And.intro ⟨.inl rfl,.inr rfl,fun h=>h⟩ trivial)))) rfl rfl ?_
 conv=>whnf
 refine .mk (by decide) ?_
 conv=>whnf
 refine Fork.mk (fun _=>?_) (fun hx=>absurd hx (by decide))
 conv=>whnf
 repeat(refine VC.mk (by decide) ?_; conv=>whnf)
 have hB1:ak Tryz.prog 27 [.dat (.dF iQ),.dat (.prop AB),.row 4 false (.clauses [Ap]),.row 4 true (.clauses [])] (.bool false):=by
  have:=S.eP iQ AB [Ap] [] false true uV Gp MB yQ
  rw[aar] at this; exact this
 refine ah.QN (fun _=>hB1) (fun _=>And.intro (aB _) (And.intro (aB _) (And.intro (xA trivial rfl (by decide) rfl) (And.intro ⟨.inl rfl,.inr rfl,fun h=>h⟩ trivial)))) rfl rfl ?_
 conv=>whnf
 repeat(refine VC.mk (by decide) ?_; conv=>whnf)
 exact au.bool (by decide)
def MG(k:Clause):Bool:=decide ((k.each.length:Int)>6)
def Gq(most:Int)(l:List Clause):Bool:=decide ((l.length:Int)>most)||l.any MG
theorem O5{α:Type}{p:α->Bool}{l:List α}{i:Nat}(d:α)(hi:i<l.length)(h:(l.take i).any p=false):(l.take (i+1)).any p=p (l.getD i d):=by
 rw[List.take_add_one,List.any_append,h,Bool.false_or,List.getElem?_eq_getElem hi]
 simp[hi]
theorem MH{α:Type}{p:α->Bool}{l:List α}{i:Nat}(d:α)(hi:i<l.length)(h:p (l.getD i d)=true):l.any p=true:=by
 rw[List.any_eq_true]
 exact⟨l[i],List.getElem_mem hi,by simpa [hi] using h⟩
theorem Yl{most:Int}{l:List Clause}(h:decide ((l.length:Int)>most)=true):Gq most l=true:=by rw[Gq,h]; rfl
theorem Ym{most:Int}{l:List Clause}(h:l.any MG=true):Gq most l=true:=by rw[Gq,h,Bool.or_true]
theorem S.MI(most:Int)(l:List Clause)(f g:Bool)(hl:l.length<2^30)(hlk: ∀ i,(l.getD i default).each.length<2^30):ak Tryz.prog 11 [.int most,.yF 0 f [.row 4 g (.clauses l)]] (.bool (Gq most l)):=by
 refine ak.of Bd.Bg (by simp) (by cases f<;>cases g<;>rfl) rfl ?_
 conv=>whnf
 refine aJ.times 2 rfl ?_
 conv=>whnf
 refine Fork.mk (fun _=>?_) (fun q=>absurd (q.symm.trans ((rfl:decide ((0:Int)<([V.row 4 g (.clauses l)].length:Int))=true))) Bool.false_ne_true)
 conv=>whnf
 refine .mk (by omega) ?_
 conv=>whnf
 refine⟨fun h1=>?_,fun h1=>?_⟩
 ·replace h1:decide ((l.length:Int)>most)=true:=h1
  conv=>whnf
  exact au.bool (by rw[Yl h1])
 replace h1:decide ((l.length:Int)>most)=false:=h1
 conv=>whnf
 refine aJ.same [0,1,5] (fun i:Nat=>[(6,.int i)]) (fun i=>i<=l.length/\(l.take i).any MG=false) (fun i=>l.length-i) 0 rfl (by decide) rfl (fun _=>rfl) ⟨by omega,by simp⟩ ⟨⟨_,rfl,rfl⟩,trivial⟩ ?_
 conv=>whnf
 refine⟨rfl,?_⟩
 rintro i ⟨hi,hall⟩
 conv=>whnf
 refine .mk (by omega) ?_
 conv=>whnf
 refine⟨fun h2=>?_,fun h2=>?_⟩
 ·have hi':i<l.length:=by simpa using h2
  have hki:=hlk i
  conv=>whnf
  repeat(refine VC.mk (by first|(omega)|(simp only[Rw.rng] at *; omega)) ?_; conv=>whnf)
  refine⟨fun h3=>?_,fun h3=>?_⟩
  ·replace h3:MG (l.getD i default)=true:=h3
   conv=>whnf
   exact au.bool (by rw[Ym (MH default hi' h3)])
  ·replace h3:MG (l.getD i default)=false:=h3
   conv=>whnf
   refine .mk (by simp only[okI] at *; omega) ?_
   conv=>whnf
   refine⟨i+1,⟨by omega,by rw[O5 default hi' hall]; exact h3⟩,by omega,⟨⟨_,rfl,rfl⟩,trivial⟩,?_,rfl⟩
   repeat' (first|exact trivial|exact⟨_,rfl,rfl⟩|constructor)
 have hi':l.length<=i:=by simpa using h2
 rw[List.take_of_length_le hi'] at hall
 have hml:Gq most l=false:=by rw[Gq,h1,hall]; rfl
 conv=>whnf
 refine .mk (by simp only[okI] at *; omega) ?_
 conv=>whnf
 refine Fork.mk (fun q=>absurd (q.symm.trans ((rfl:decide ((1:Int)<([V.row 4 g (.clauses l)].length:Int))=false))).symm Bool.false_ne_true) (fun _=>?_)
 conv=>whnf
 exact au.bool (by rw[hml])
end Go.Proofs.YtbfhebmdcpmfaaaGreatDoor
