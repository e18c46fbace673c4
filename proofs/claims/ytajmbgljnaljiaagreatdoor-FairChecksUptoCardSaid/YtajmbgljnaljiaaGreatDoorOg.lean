/-
 The chapter's examples, by the contracts: sane answers true. No condition.
-/
import Derived.KernelRfl
import Derived.Test.YtajmbgljnaljiaaGreatDoorAf
import Derived.Test.YtajmbgljnaljiaaGreatDoorBc
namespace Go.Proofs.YtajmbgljnaljiaaGreatDoor
open Go.Ab Go.Proofs
set_option maxRecDepth 100000
def zJ:Rule:=⟨[103,111],1,0,1,0,0,[],[],[],[],-1,-1,[],0,[],[],[],0⟩
def jF:aC:=⟨[102,97,108,108],1,[[97],[98]],[],[],0,[],[0],[],[zJ]⟩
def oG:Prop':=⟨[100,111,110,101],2,[],[],[],[1]⟩
def pY:List Elem:=[⟨0,[1,0]⟩,⟨0,[1,1]⟩,⟨0,[1,2]⟩,⟨0,[2,0]⟩,⟨0,[2,1]⟩,⟨0,[2,2]⟩]
theorem Az:dJ jF:=by
 refine⟨by decide,by decide,by decide,by decide,by decide,by decide,by decide,fun i=>?_,by decide⟩
 match i with
 |0=>constructor<;>decide
 |i+1=>constructor<;>exact(by decide:(0:Nat)<2^30)
theorem CY:gG oG:=by
 refine⟨by decide,by decide,by decide,by decide,fun i=>?_⟩
 exact(by decide:(0:Nat)<2^30)
theorem Qg:Bg jF oG 2=0:=by kernel_rfl
theorem LM:nI jF oG=[⟨0,[1,0]⟩,⟨0,[2,0]⟩]:=by kernel_rfl
theorem Zt:(pY.all fun x=>nJ oG x)=true:=by kernel_rfl
theorem ad1:(pY.all fun x=>(gI zJ x).all fun y=> !(nJ oG y)||pY.elem y)=true:=by kernel_rfl
theorem ad2:((gI zJ ⟨0,[2,0]⟩).elem ⟨0,[1,1]⟩&&(gI zJ ⟨0,[2,0]⟩).elem ⟨0,[2,1]⟩&&(gI zJ ⟨0,[2,1]⟩).elem ⟨0,[1,2]⟩&&(gI zJ ⟨0,[2,1]⟩).elem ⟨0,[2,2]⟩)=true:=by kernel_rfl
theorem ad3:SS pY:=by
 unfold SS pY
 decide
theorem EU:bV jF oG=pY:=by
 have hl: ∀ x∈pY,nJ oG x=true:=List.all_eq_true.1 Zt
 have hr:zJ∈jF.rules:=List.mem_singleton.2 rfl
 refine(yU (zV (zX Qg)) ad3 fun x=>⟨fun hx=>?_,fun hx=>?_⟩).symm
 ·have i1:Nq jF oG ⟨0,[1,0]⟩:=.ini (by rw[LM]; simp) (hl _ (by simp[pY]))
  have i2:Nq jF oG ⟨0,[2,0]⟩:=.ini (by rw[LM]; simp) (hl _ (by simp[pY]))
  have hp:=ad2
  simp only[Bool.and_eq_true,List.elem_eq_mem,decide_eq_true_eq] at hp
  have i3:Nq jF oG ⟨0,[1,1]⟩:=.stp i2 hr hp.1.1.1 (hl _ (by simp[pY]))
  have i4:Nq jF oG ⟨0,[2,1]⟩:=.stp i2 hr hp.1.1.2 (hl _ (by simp[pY]))
  have i5:Nq jF oG ⟨0,[1,2]⟩:=.stp i4 hr hp.1.2 (hl _ (by simp[pY]))
  have i6:Nq jF oG ⟨0,[2,2]⟩:=.stp i4 hr hp.2 (hl _ (by simp[pY]))
  simp only[pY,List.mem_cons,List.not_mem_nil,or_false] at hx
  rcases hx with rfl|rfl|rfl|rfl|rfl|rfl<;>assumption
 ·induction hx with
  |ini h _ =>
   rw[LM] at h
   simp only[List.mem_cons,List.not_mem_nil,or_false] at h
   rcases h with rfl|rfl<;>simp[pY]
  |stp _ h1 h2 h3 ih =>
   have h1':=List.mem_singleton.1 h1
   subst h1'
   have:=List.all_eq_true.1 (List.all_eq_true.1 ad1 _ ih) _ h2
   rw[h3,Bool.not_true,Bool.false_or,List.elem_eq_mem,decide_eq_true_eq] at this
   exact this
def TL:List (List Bool):=[[true],[true],[true],[true],[true],[true]]
theorem Qh:pY.map (zY jF)=TL:=by kernel_rfl
theorem ab5{g:Gr}{a i:Nat}(h: ∀ a x,a<g.n->x<g.k->g.Fv a x=false)(ha:a<g.n)(hb:g.Uo a i=true):g.hlp a i=true:=by
 rw[Jd]
 refine Rl.max (G:=fun c=>c<g.n/\g.Uo c i=true) ?_ ⟨ha,hb⟩
 rintro c ⟨h1,h2⟩
 exact⟨h1,h2,fun x hx hn=>by rw[h c x h1 hx] at hn; cases hn⟩
theorem XC:Kt jF oG [1,0]=true:=by
 unfold Kt
 rw[EU,Qh]
 generalize pY.map (xQ pY jF)=dG
 unfold L9
 rw[Bool.and_eq_true]
 refine⟨by kernel_rfl,List.all_eq_true.2 fun r hr=>?_⟩
 unfold Gr.ny at hr
 obtain⟨a,ha,rfl⟩:=List.mem_map.1 hr
 have ha':a<6:=List.mem_range.1 ha
 refine List.any_eq_true.2 ⟨true,List.mem_map.2 ⟨0,List.mem_range.2 (show 0<1 by decide),?_⟩,rfl⟩
 have hk: ∀ c,c<6->((TL.getD c []).getD 0 false&&Fa zJ [1,0])=true:=by decide
 refine ab5 (fun c x _ hx=>?_) ha' (hk a ha')
 have hx0:x=0:=by have:x<1:=hx; omega
 subst hx0
 show(_&& !(Fa zJ [1,0]))=false
 rw[show Fa zJ [1,0]=true by decide]
 simp
theorem XD:Kt jF oG [0,0]=false:=by
 unfold Kt
 rw[EU,Qh]
 generalize pY.map (xQ pY jF)=dG
 unfold L9
 rw[Bool.and_eq_false_iff]
 right
 rw[List.all_eq_false]
 refine⟨_,List.mem_map.2 ⟨0,List.mem_range.2 (show 0<6 by decide),rfl⟩,?_⟩
 intro h
 obtain⟨b,hb,hb2⟩:=List.any_eq_true.1 h
 obtain⟨i,hi,rfl⟩:=List.mem_map.1 hb
 have hi0:i=0:=by have:i<1:=List.mem_range.1 hi; omega
 subst hi0
 have:=(Rl.cl _ (Jd.1 hb2)).2.1
 have h2:((TL.getD 0 []).getD 0 false&&Fa zJ [0,0])=false:=by decide
 rw[show(Hf jF pY TL dG [0,0]).Uo 0 0=((TL.getD 0 []).getD 0 false&&Fa zJ [0,0]) from rfl,h2] at this
 cases this
theorem ad4:Kt jF oG [0,1]=false:=by
 unfold Kt
 rw[EU,Qh]
 exact UZ (a:=0) (i:=0) (by decide) (by decide) (by decide)
theorem ad5:fwV jF oG 1= .fZ [.row 0 false (.ints [1,0]),.bool true,.int 0]:=by
 refine(aaV (o:=some [1,0]) Qg (by decide) ?_).trans rfl
 have e:allM (1:Int).toNat jF.states.length=[[0,0],[0,1],[1,0],[1,1]]:=by kernel_rfl
 rw[e]
 simp only[List.find?,XD,ad4,XC]
theorem ab6:cwB jF oG [1,0]=true:=by
 unfold cwB
 rw[XC,Qg]; decide
theorem ab7:cwB jF oG [0,0]=false:=by
 unfold cwB
 rw[XD,Bool.and_false]
theorem Oz:aah jF 0 ⟨0,[2,0]⟩=[⟨0,[1,1]⟩,⟨0,[2,1]⟩]/\Jz jF 0 ⟨0,[2,0]⟩=0:=⟨by kernel_rfl,by kernel_rfl⟩
def I8:V:=.row 0 true .nil
def aeD(name:Str)(fr tt rd wr:Int):V:=.agg [.str name,.int 1,.int fr,.int tt,.int 0,.int 0,I8,I8,I8,I8,.int rd,.int wr,I8,.int 0,I8,I8,I8,.int 0]
def aeE:V:=.agg [.str jF.name,.int 1,.row 0 false (.strs jF.states),I8,I8,.int 0,I8,.row 0 false (.ints [0]),I8,.I7 19 false [aeD [103,111] 0 1 (-1) (-1)]]
theorem zK{Z:Nat->Prop}{h:Hp}{k:Nat}{l:List T}:T.sub Z h (.sl k false l) (.sl k true l):=⟨.inl rfl,.inl rfl,fun h=>by cases h⟩
theorem jV{Z:Nat->Prop}{h:Hp}{k:Nat}:T.sub Z h (.sl k false []) T.nil:=⟨.inl rfl,.inr rfl,fun h=>by cases h⟩
theorem aj.weak{P:Program}{f:FuncId}{args:List V}{a b:V}(S:aj P f args a)(hs:T.sub (fun _=>True) no b.aI a.aI)(hb:b.free=true):aj P f args b :=
 wC.shut S (fun _=>hs) (V.mJ b hb)
theorem Zu{Z:Nat->Prop}{h:Hp}:T.sub Z h (Lm zJ) (aeD [103,111] 0 1 (-1) (-1)).aI:=by
 refine⟨aG _,aG _,aG _,aG _,aG _,aG _,jV,jV,jV,jV,aG _,aG _,jV,aG _,jV,jV,jV,aG _,trivial⟩
theorem ab8:T.sub (fun _=>True) no (abz jF) aeE.aI:=by
 refine⟨aG _,aG _,aG _,jV,jV,aG _,jV,aG _,jV,⟨.inr ⟨⟨Zu,trivial⟩,fun t ht=>?_⟩,.inl rfl,fun h=>h⟩,trivial⟩
 obtain⟨x,_,rfl⟩:=List.mem_map.1 ht; rfl
theorem ad6{Z:Nat->Prop}{h:Hp}{k i ty:Nat}{l:List T}(hz:Z i)(hf:T.dK l=true)(hk:k≠fQ)(q:h i=some ⟨ty,k,l⟩):T.sub Z h (.sl k false l) (.own i):=⟨rfl,hz,hf,hk,ty,q⟩
theorem S.Zv:aj Tryz.prog 29 [] (.dat (.gW jF)):=by
 refine aj.weak (a:=aeE) ?_ ab8 rfl
 refine aj.of Bd.oH (by simp) rfl rfl ?_
 conv=>whnf
 exact⟨⟨aG _,aG _,zK,aG _,aG _,aG _,aG _,zK,aG _,ad6 trivial rfl (by decide) rfl,trivial⟩⟩
theorem S.TM:aj Tryz.prog 30 [] (.dat (.prop oG)):=by
 refine aj.of Bd.lY (by simp) rfl rfl ?_
 conv=>whnf
 exact⟨⟨aG _,aG _,jV,jV,jV,zK,trivial⟩⟩
theorem ah.weak{P:Program}{dr:Bool}{f:FuncId}{args args':List V}{res:V}{h:Hz}{n:Nat}{K:V->Hz->Prop}{KW:Nat->V->Hz->Prop}(S:aj P f args' res)(hs:T.dP (fun _=>False) h.au (V.aS args') (V.aS args))(hr:res.free=true)(hK:K res h):ah P dr none f args h n K KW :=
 ⟨.inl (wC.use S hs ⟨res,h,rfl,rfl,fun _=>⟨rfl,V.mJ res hr⟩,hK⟩)⟩
theorem ah.on{P:Program}{f:FuncId}{args:List V}{h:Hz}{n:Nat}{K:V->Hz->Prop}{KW':Nat->V->Hz->Prop}(H:ah P false none f args h n K fun _ _ _=>False):ah P false (some true) f args h n K KW':=by
 rcases H.ok with H|⟨_,_,k,⟨_,_,_,_,_,_,hk⟩,_⟩|⟨_,e,_⟩
 ·exact⟨.inl (.inr ⟨rfl,fun _=>aV.mono H fun t hp ⟨v,h',a,b,_,c⟩=>⟨v,h',a,b,c⟩,fun e=>by cases e⟩)⟩
 ·exact hk.elim
 ·cases e
theorem S.WV:aj Tryz.prog 11 [] (.bool true):=by
 refine aj.of Bd.EW (by simp) rfl rfl ?_
 conv=>whnf
 refine ah.pure S.Zv rfl ?_
 conv=>whnf
 refine ah.pure S.TM rfl ?_
 conv=>whnf
 refine ah.pure (S.lq jF oG 1 Az CY) rfl ?_
 rw[ad5]
 conv=>whnf
 refine ah.weak (S.yQ jF 0 ⟨0,[2,0]⟩ Az (by decide)) ⟨aG _,aG _,⟨aG _,zK,trivial⟩,trivial⟩ rfl ?_
 rw[Oz.1,Oz.2]
 conv=>whnf
 repeat(refine VC.mk (by first|exact id|exact fun h=>⟨h,h⟩) ?_; conv=>whnf)
 refine ah.dL (fun _=>S.NH [1,0] false true (by decide)) rfl ?_
 conv=>whnf
 repeat(refine VC.mk (by first|exact id|(intro h; simp[]; done)) ?_; conv=>whnf)
 refine ah.dL (fun _=>S.iL jF oG [1,0] false Az CY (by decide)) rfl ?_
 rw[ab6]
 conv=>whnf
 repeat(refine VC.mk (by first|exact id|(intro h; simp[]; done)) ?_; conv=>whnf)
 refine ah.dL (fun _=>S.iL jF oG [0,0] true Az CY (by decide)) rfl ?_
 rw[ab7]
 conv=>whnf
 repeat(refine VC.mk id ?_; conv=>whnf)
 refine Fork.mk (fun _=>?_) (fun q=>absurd (q.symm.trans (rfl)) Bool.false_ne_true)
 conv=>whnf
 refine VC.mk ⟨rfl,rfl⟩ ?_
 conv=>whnf
 refine VC.mk id ?_
 conv=>whnf
 refine ah.on (ah.adM (h2:=[(59,some (eH [⟨0,[1,1]⟩,⟨0,[2,1]⟩]))]) (fun _=>False) ⟨⟨_,rfl,id,rfl,rfl,⟨⟨aG _,zK,trivial⟩,⟨aG _,zK,trivial⟩,trivial⟩,rfl,rfl⟩,trivial⟩ (S.Yy [⟨0,[1,1]⟩,⟨0,[2,1]⟩] false false (by decide) (fun x hx=>by simp only[List.mem_cons,List.not_mem_nil,or_false] at hx; rcases hx with rfl|rfl<;>exact(by decide:(2:Nat)<2^40))) ⟨aG _,aep trivial rfl,trivial⟩ rfl ?_)
 conv=>whnf
 refine VC.mk id ?_
 conv=>whnf
 exact ak.bool rfl
end Go.Proofs.YtajmbgljnaljiaaGreatDoor
