/-
 The chapter's examples, by the contracts: sane answers true. No condition.
-/
import Derived.KernelRfl
import Derived.Test.YtajmbgljnaljiaaGreatDoorAf
import Derived.Test.YtajmbgljnaljiaaGreatDoorBc
namespace Go.Proofs.YtajmbgljnaljiaaGreatDoor
open Go.Ab Go.Proofs
set_option maxRecDepth 100000
def zO:Rule:=⟨[103,111],1,0,1,0,0,[],[],[],[],-1,-1,[],0,[],[],[],0⟩
def jD:aC:=⟨[102,97,108,108],1,[[97],[98]],[],[],0,[],[0],[],[zO]⟩
def oG:Prop':=⟨[100,111,110,101],2,[],[],[],[1]⟩
def qh:List Elem:=[⟨0,[1,0]⟩,⟨0,[1,1]⟩,⟨0,[1,2]⟩,⟨0,[2,0]⟩,⟨0,[2,1]⟩,⟨0,[2,2]⟩]
theorem AA:dL jD:=by
 refine⟨by decide,by decide,by decide,by decide,by decide,by decide,by decide,fun i=>?_,by decide⟩
 match i with
 |0=>constructor<;>decide
 |i+1=>constructor<;>exact(by decide:(0:Nat)<2^30)
theorem CY:iF oG:=by
 refine⟨by decide,by decide,by decide,by decide,fun i=>?_⟩
 exact(by decide:(0:Nat)<2^30)
theorem Qd:GK jD oG 2=0:=by kernel_rfl
theorem LD:nH jD oG=[⟨0,[1,0]⟩,⟨0,[2,0]⟩]:=by kernel_rfl
theorem Zt:(qh.all fun x=>nI oG x)=true:=by kernel_rfl
theorem ad5:(qh.all fun x=>(gy zO x).all fun y=> !(nI oG y)||qh.elem y)=true:=by kernel_rfl
theorem ad6:((gy zO ⟨0,[2,0]⟩).elem ⟨0,[1,1]⟩&&(gy zO ⟨0,[2,0]⟩).elem ⟨0,[2,1]⟩&&(gy zO ⟨0,[2,1]⟩).elem ⟨0,[1,2]⟩&&(gy zO ⟨0,[2,1]⟩).elem ⟨0,[2,2]⟩)=true:=by kernel_rfl
theorem ad7:SS qh:=by
 unfold SS qh
 decide
theorem ES:dG jD oG=qh:=by
 have hl: ∀ x∈qh,nI oG x=true:=List.all_eq_true.1 Zt
 have hr:zO∈jD.rules:=List.mem_singleton.2 rfl
 refine(yY (uT (G7 Qd)) ad7 fun x=>⟨fun hx=>?_,fun hx=>?_⟩).symm
 ·have i1:Nh jD oG ⟨0,[1,0]⟩:=.ini (by rw[LD]; simp) (hl _ (by simp[qh]))
  have i2:Nh jD oG ⟨0,[2,0]⟩:=.ini (by rw[LD]; simp) (hl _ (by simp[qh]))
  have hp:=ad6
  simp only[Bool.and_eq_true,List.elem_eq_mem,decide_eq_true_eq] at hp
  have i3:Nh jD oG ⟨0,[1,1]⟩:=.stp i2 hr hp.1.1.1 (hl _ (by simp[qh]))
  have i4:Nh jD oG ⟨0,[2,1]⟩:=.stp i2 hr hp.1.1.2 (hl _ (by simp[qh]))
  have i5:Nh jD oG ⟨0,[1,2]⟩:=.stp i4 hr hp.1.2 (hl _ (by simp[qh]))
  have i6:Nh jD oG ⟨0,[2,2]⟩:=.stp i4 hr hp.2 (hl _ (by simp[qh]))
  simp only[qh,List.mem_cons,List.not_mem_nil,or_false] at hx
  rcases hx with rfl|rfl|rfl|rfl|rfl|rfl<;>assumption
 ·induction hx with
  |ini h _ =>
   rw[LD] at h
   simp only[List.mem_cons,List.not_mem_nil,or_false] at h
   rcases h with rfl|rfl<;>simp[qh]
  |stp _ h1 h2 h3 ih =>
   have h1':=List.mem_singleton.1 h1
   subst h1'
   have:=List.all_eq_true.1 (List.all_eq_true.1 ad5 _ ih) _ h2
   rw[h3,Bool.not_true,Bool.false_or,List.elem_eq_mem,decide_eq_true_eq] at this
   exact this
def TN:List (List Bool):=[[true],[true],[true],[true],[true],[true]]
theorem Qe:qh.map (AV jD)=TN:=by kernel_rfl
theorem acd{g:Gr}{a i:Nat}(h: ∀ a x,a<g.n->x<g.k->g.E5 a x=false)(ha:a<g.n)(hb:g.Rj a i=true):g.hlp a i=true:=by
 rw[Dk]
 refine Rk.max (G:=fun c=>c<g.n/\g.Rj c i=true) ?_ ⟨ha,hb⟩
 rintro c ⟨h1,h2⟩
 exact⟨h1,h2,fun x hx hn=>by rw[h c x h1 hx] at hn; cases hn⟩
theorem XE:DW jD oG [1,0]=true:=by
 unfold DW
 rw[ES,Qe]
 generalize qh.map (yx qh jD)=dF
 unfold Fz
 rw[Bool.and_eq_true]
 refine⟨by kernel_rfl,List.all_eq_true.2 fun r hr=>?_⟩
 unfold Gr.pG at hr
 obtain⟨a,ha,rfl⟩:=List.mem_map.1 hr
 have ha':a<6:=List.mem_range.1 ha
 refine List.any_eq_true.2 ⟨true,List.mem_map.2 ⟨0,List.mem_range.2 (show 0<1 by decide),?_⟩,rfl⟩
 have hk: ∀ c,c<6->((TN.getD c []).getD 0 false&&rF zO [1,0])=true:=by decide
 refine acd (fun c x _ hx=>?_) ha' (hk a ha')
 have hx0:x=0:=by have:x<1:=hx; omega
 subst hx0
 show(_&& !(rF zO [1,0]))=false
 rw[show rF zO [1,0]=true by decide]
 simp
theorem XF:DW jD oG [0,0]=false:=by
 unfold DW
 rw[ES,Qe]
 generalize qh.map (yx qh jD)=dF
 unfold Fz
 rw[Bool.and_eq_false_iff]
 right
 rw[List.all_eq_false]
 refine⟨_,List.mem_map.2 ⟨0,List.mem_range.2 (show 0<6 by decide),rfl⟩,?_⟩
 intro h
 obtain⟨b,hb,hb2⟩:=List.any_eq_true.1 h
 obtain⟨i,hi,rfl⟩:=List.mem_map.1 hb
 have hi0:i=0:=by have:i<1:=List.mem_range.1 hi; omega
 subst hi0
 have:=(Rk.cl _ (Dk.1 hb2)).2.1
 have h2:((TN.getD 0 []).getD 0 false&&rF zO [0,0])=false:=by decide
 rw[show(IV jD qh TN dF [0,0]).Rj 0 0=((TN.getD 0 []).getD 0 false&&rF zO [0,0]) from rfl,h2] at this
 cases this
theorem ad8:DW jD oG [0,1]=false:=by
 unfold DW
 rw[ES,Qe]
 exact U5 (a:=0) (i:=0) (by decide) (by decide) (by decide)
theorem ad9:ZG jD oG 1= .gW [.row 0 false (.ints [1,0]),.bool true,.int 0]:=by
 refine(U7 (o:=some [1,0]) Qd (by decide) ?_).trans rfl
 have e:allM (1:Int).toNat jD.states.length=[[0,0],[0,1],[1,0],[1,1]]:=by kernel_rfl
 rw[e]
 simp only[List.find?,XF,ad8,XE]
theorem ace:ZF jD oG [1,0]=true:=by
 unfold ZF
 rw[XE,Qd]; decide
theorem acf:ZF jD oG [0,0]=false:=by
 unfold ZF
 rw[XF,Bool.and_false]
theorem Ov:aaj jD 0 ⟨0,[2,0]⟩=[⟨0,[1,1]⟩,⟨0,[2,1]⟩]/\Ju jD 0 ⟨0,[2,0]⟩=0:=⟨by kernel_rfl,by kernel_rfl⟩
def I4:V:=.row 0 true .nil
def aeI(name:Str)(fr tt rd wr:Int):V:=.agg [.str name,.int 1,.int fr,.int tt,.int 0,.int 0,I4,I4,I4,I4,.int rd,.int wr,I4,.int 0,I4,I4,I4,.int 0]
def aeJ:V:=.agg [.str jD.name,.int 1,.row 0 false (.strs jD.states),I4,I4,.int 0,I4,.row 0 false (.ints [0]),I4,.IZ 19 false [aeI [103,111] 0 1 (-1) (-1)]]
theorem zQ{Z:Nat->Prop}{h:Hp}{k:Nat}{l:List T}:T.sub Z h (.sl k false l) (.sl k true l):=⟨.inl rfl,.inl rfl,fun h=>by cases h⟩
theorem jT{Z:Nat->Prop}{h:Hp}{k:Nat}:T.sub Z h (.sl k false []) T.nil:=⟨.inl rfl,.inr rfl,fun h=>by cases h⟩
theorem aj.weak{P:Program}{f:FuncId}{args:List V}{a b:V}(S:aj P f args a)(hs:T.sub (fun _=>True) no b.aI a.aI)(hb:b.free=true):aj P f args b :=
 wC.shut S (fun _=>hs) (V.mF b hb)
theorem Zu{Z:Nat->Prop}{h:Hp}:T.sub Z h (Ld zO) (aeI [103,111] 0 1 (-1) (-1)).aI:=by
 refine⟨aF _,aF _,aF _,aF _,aF _,aF _,jT,jT,jT,jT,aF _,aF _,jT,aF _,jT,jT,jT,aF _,trivial⟩
theorem acg:T.sub (fun _=>True) no (abE jD) aeJ.aI:=by
 refine⟨aF _,aF _,aF _,jT,jT,aF _,jT,aF _,jT,⟨.inr ⟨⟨Zu,trivial⟩,fun t ht=>?_⟩,.inl rfl,fun h=>h⟩,trivial⟩
 obtain⟨x,_,rfl⟩:=List.mem_map.1 ht; rfl
theorem aea{Z:Nat->Prop}{h:Hp}{k i ty:Nat}{l:List T}(hz:Z i)(hf:T.dJ l=true)(hk:k≠fU)(q:h i=some ⟨ty,k,l⟩):T.sub Z h (.sl k false l) (.own i):=⟨rfl,hz,hf,hk,ty,q⟩
theorem S.Zv:aj Tryz.prog 29 [] (.dat (.iE jD)):=by
 refine aj.weak (a:=aeJ) ?_ acg rfl
 refine aj.of Bd.oH (by simp) rfl rfl ?_
 conv=>whnf
 exact⟨⟨aF _,aF _,zQ,aF _,aF _,aF _,aF _,zQ,aF _,aea trivial rfl (by decide) rfl,trivial⟩⟩
theorem S.TP:aj Tryz.prog 30 [] (.dat (.prop oG)):=by
 refine aj.of Bd.lW (by simp) rfl rfl ?_
 conv=>whnf
 exact⟨⟨aF _,aF _,jT,jT,jT,zQ,trivial⟩⟩
theorem ah.weak{P:Program}{dr:Bool}{f:FuncId}{args args':List V}{res:V}{h:Hz}{n:Nat}{K:V->Hz->Prop}{KW:Nat->V->Hz->Prop}(S:aj P f args' res)(hs:T.dP (fun _=>False) h.au (V.aS args') (V.aS args))(hr:res.free=true)(hK:K res h):ah P dr none f args h n K KW :=
 ⟨.inl (wC.use S hs ⟨res,h,rfl,rfl,fun _=>⟨rfl,V.mF res hr⟩,hK⟩)⟩
theorem ah.on{P:Program}{f:FuncId}{args:List V}{h:Hz}{n:Nat}{K:V->Hz->Prop}{KW':Nat->V->Hz->Prop}(H:ah P false none f args h n K fun _ _ _=>False):ah P false (some true) f args h n K KW':=by
 rcases H.ok with H|⟨_,_,k,⟨_,_,_,_,_,_,hk⟩,_⟩|⟨_,e,_⟩
 ·exact⟨.inl (.inr ⟨rfl,fun _=>aV.mono H fun t hp ⟨v,h',a,b,_,c⟩=>⟨v,h',a,b,c⟩,fun e=>by cases e⟩)⟩
 ·exact hk.elim
 ·cases e
theorem S.RS:aj Tryz.prog 11 [] (.bool true):=by
 refine aj.of Bd.ET (by simp) rfl rfl ?_
 conv=>whnf
 refine ah.pure S.Zv rfl ?_
 conv=>whnf
 refine ah.pure S.TP rfl ?_
 conv=>whnf
 refine ah.pure (S.jF jD oG 1 AA CY) rfl ?_
 rw[ad9]
 conv=>whnf
 refine ah.weak (S.yT jD 0 ⟨0,[2,0]⟩ AA (by decide)) ⟨aF _,aF _,⟨aF _,zQ,trivial⟩,trivial⟩ rfl ?_
 rw[Ov.1,Ov.2]
 conv=>whnf
 repeat(refine VC.mk (by first|exact id|exact fun h=>⟨h,h⟩) ?_; conv=>whnf)
 refine ah.dM (fun _=>S.Nz [1,0] false true (by decide)) rfl ?_
 conv=>whnf
 repeat(refine VC.mk (by first|exact id|(intro h; simp[]; done)) ?_; conv=>whnf)
 refine ah.dM (fun _=>S.fF jD oG [1,0] false AA CY (by decide)) rfl ?_
 rw[ace]
 conv=>whnf
 repeat(refine VC.mk (by first|exact id|(intro h; simp[]; done)) ?_; conv=>whnf)
 refine ah.dM (fun _=>S.fF jD oG [0,0] true AA CY (by decide)) rfl ?_
 rw[acf]
 conv=>whnf
 repeat(refine VC.mk id ?_; conv=>whnf)
 refine Fork.mk (fun _=>?_) (fun q=>absurd (q.symm.trans (rfl)) Bool.false_ne_true)
 conv=>whnf
 refine VC.mk ⟨rfl,rfl⟩ ?_
 conv=>whnf
 refine VC.mk id ?_
 conv=>whnf
 refine ah.on (ah.adQ (h2:=[(59,some (eH [⟨0,[1,1]⟩,⟨0,[2,1]⟩]))]) (fun _=>False) ⟨⟨_,rfl,id,rfl,rfl,⟨⟨aF _,zQ,trivial⟩,⟨aF _,zQ,trivial⟩,trivial⟩,rfl,rfl⟩,trivial⟩ (S.Yy [⟨0,[1,1]⟩,⟨0,[2,1]⟩] false false (by decide) (fun x hx=>by simp only[List.mem_cons,List.not_mem_nil,or_false] at hx; rcases hx with rfl|rfl<;>exact(by decide:(2:Nat)<2^40))) ⟨aF _,aew trivial rfl,trivial⟩ rfl ?_)
 conv=>whnf
 refine VC.mk id ?_
 conv=>whnf
 exact ak.bool rfl
end Go.Proofs.YtajmbgljnaljiaaGreatDoor
