/-
 The chapter's examples, by the contracts: sane answers true. No condition.
-/
import Derived.KernelRfl
import Derived.Test.YtajmbgljnaljiaaGreatDoorAf
import Derived.Test.YtajmbgljnaljiaaGreatDoorBc
namespace Go.Proofs.YtajmbgljnaljiaaGreatDoor
open Go.Ab Go.Proofs
set_option maxRecDepth 100000
def wG:Rule:=⟨[103,111],1,0,1,0,0,[],[],[],[],-1,-1,[],0,[],[],[],0⟩
def iT:aH:=⟨[102,97,108,108],1,[[97],[98]],[],[],0,[],[0],[],[wG]⟩
def lQ:Prop':=⟨[100,111,110,101],2,[],[],[],[1]⟩
def mX:List Elem:=[⟨0,[1,0]⟩,⟨0,[1,1]⟩,⟨0,[1,2]⟩,⟨0,[2,0]⟩,⟨0,[2,1]⟩,⟨0,[2,2]⟩]
theorem xC:gq iT:=by
 refine⟨by decide,by decide,by decide,by decide,by decide,by decide,by decide,fun i=>?_,by decide⟩
 match i with
 |0=>constructor<;>decide
 |i+1=>constructor<;>exact(by decide:(0:Nat)<2^30)
theorem yP:jO lQ:=by
 refine⟨by decide,by decide,by decide,by decide,fun i=>?_⟩
 exact(by decide:(0:Nat)<2^30)
theorem LG:Ew iT lQ 2=0:=by kernel_rfl
theorem Hl:qY iT lQ=[⟨0,[1,0]⟩,⟨0,[2,0]⟩]:=by kernel_rfl
theorem Vb:(mX.all fun x=>mP lQ x)=true:=by kernel_rfl
theorem aas:(mX.all fun x=>(jL wG x).all fun y=> !(mP lQ y)||mX.elem y)=true:=by kernel_rfl
theorem aat:((jL wG ⟨0,[2,0]⟩).elem ⟨0,[1,1]⟩&&(jL wG ⟨0,[2,0]⟩).elem ⟨0,[2,1]⟩&&(jL wG ⟨0,[2,1]⟩).elem ⟨0,[1,2]⟩&&(jL wG ⟨0,[2,1]⟩).elem ⟨0,[2,2]⟩)=true:=by kernel_rfl
theorem aau:SS mX:=by
 unfold SS mX
 decide
theorem AL:dS iT lQ=mX:=by
 have hl: ∀ x∈mX,mP lQ x=true:=List.all_eq_true.1 Vb
 have hr:wG∈iT.rules:=List.mem_singleton.2 rfl
 refine(yT (wL (zX LG)) aau fun x=>⟨fun hx=>?_,fun hx=>?_⟩).symm
 ·have i1:IU iT lQ ⟨0,[1,0]⟩:=.ini (by rw[Hl]; simp) (hl _ (by simp[mX]))
  have i2:IU iT lQ ⟨0,[2,0]⟩:=.ini (by rw[Hl]; simp) (hl _ (by simp[mX]))
  have hp:=aat
  simp only[Bool.and_eq_true,List.elem_eq_mem,decide_eq_true_eq] at hp
  have i3:IU iT lQ ⟨0,[1,1]⟩:=.Yu i2 hr hp.1.1.1 (hl _ (by simp[mX]))
  have i4:IU iT lQ ⟨0,[2,1]⟩:=.Yu i2 hr hp.1.1.2 (hl _ (by simp[mX]))
  have i5:IU iT lQ ⟨0,[1,2]⟩:=.Yu i4 hr hp.1.2 (hl _ (by simp[mX]))
  have i6:IU iT lQ ⟨0,[2,2]⟩:=.Yu i4 hr hp.2 (hl _ (by simp[mX]))
  simp only[mX,List.mem_cons,List.not_mem_nil,or_false] at hx
  rcases hx with rfl|rfl|rfl|rfl|rfl|rfl<;>assumption
 ·induction hx with
  |ini h _ =>
   rw[Hl] at h
   simp only[List.mem_cons,List.not_mem_nil,or_false] at h
   rcases h with rfl|rfl<;>simp[mX]
  |Yu _ h1 h2 h3 ih =>
   have h1':=List.mem_singleton.1 h1
   subst h1'
   have:=List.all_eq_true.1 (List.all_eq_true.1 aas _ ih) _ h2
   rw[h3,Bool.not_true,Bool.false_or,List.elem_eq_mem,decide_eq_true_eq] at this
   exact this
def OO:List (List Bool):=[[true],[true],[true],[true],[true],[true]]
theorem LH:mX.map (zY iT)=OO:=by kernel_rfl
theorem X9{g:Gr}{a i:Nat}(h: ∀ a x,a<g.n->x<g.k->g.Ht a x=false)(ha:a<g.n)(hb:g.TB a i=true):g.hlp a i=true:=by
 rw[Bc]
 refine LY.max (G:=fun c=>c<g.n/\g.TB c i=true) ?_ ⟨ha,hb⟩
 rintro c ⟨h1,h2⟩
 exact⟨h1,h2,fun x hx hn=>by rw[h c x h1 hx] at hn; cases hn⟩
theorem SG:FZ iT lQ [1,0]=true:=by
 unfold FZ
 rw[AL,LH]
 generalize mX.map (zD mX iT)=fM
 unfold ED
 rw[Bool.and_eq_true]
 refine⟨by kernel_rfl,List.all_eq_true.2 fun r hr=>?_⟩
 unfold Gr.rE at hr
 obtain⟨a,ha,rfl⟩:=List.mem_map.1 hr
 have ha':a<6:=List.mem_range.1 ha
 refine List.any_eq_true.2 ⟨true,List.mem_map.2 ⟨0,List.mem_range.2 (show 0<1 by decide),?_⟩,rfl⟩
 have hk: ∀ c,c<6->((OO.getD c []).getD 0 false&&L9 wG [1,0])=true:=by decide
 refine X9 (fun c x _ hx=>?_) ha' (hk a ha')
 have hx0:x=0:=by have:x<1:=hx; omega
 subst hx0
 show(_&& !(L9 wG [1,0]))=false
 rw[show L9 wG [1,0]=true by decide]
 simp
theorem SH:FZ iT lQ [0,0]=false:=by
 unfold FZ
 rw[AL,LH]
 generalize mX.map (zD mX iT)=fM
 unfold ED
 rw[Bool.and_eq_false_iff]
 right
 rw[List.all_eq_false]
 refine⟨_,List.mem_map.2 ⟨0,List.mem_range.2 (show 0<6 by decide),rfl⟩,?_⟩
 intro h
 obtain⟨b,hb,hb2⟩:=List.any_eq_true.1 h
 obtain⟨i,hi,rfl⟩:=List.mem_map.1 hb
 have hi0:i=0:=by have:i<1:=List.mem_range.1 hi; omega
 subst hi0
 have:=(LY.cl _ (Bc.1 hb2)).2.1
 have h2:((OO.getD 0 []).getD 0 false&&L9 wG [0,0])=false:=by decide
 rw[show(Wu iT mX OO fM [0,0]).TB 0 0=((OO.getD 0 []).getD 0 false&&L9 wG [0,0]) from rfl,h2] at this
 cases this
theorem aav:FZ iT lQ [0,1]=false:=by
 unfold FZ
 rw[AL,LH]
 exact WH (a:=0) (i:=0) (by decide) (by decide) (by decide)
theorem aaw:Zf iT lQ 1= .fU [.row 0 false (.ints [1,0]),.bool true,.int 0]:=by
 refine(WJ (o:=some [1,0]) LG (by decide) ?_).trans rfl
 have e:allM (1:Int).toNat iT.states.length=[[0,0],[0,1],[1,0],[1,1]]:=by kernel_rfl
 rw[e]
 simp only[List.find?,SH,aav,SG]
theorem Ya:Zc iT lQ [1,0]=true:=by
 unfold Zc
 rw[SG,LG]; decide
theorem Yb:Zc iT lQ [0,0]=false:=by
 unfold Zc
 rw[SH,Bool.and_false]
theorem JH:VQ iT 0 ⟨0,[2,0]⟩=[⟨0,[1,1]⟩,⟨0,[2,1]⟩]/\Fg iT 0 ⟨0,[2,0]⟩=0:=⟨by kernel_rfl,by kernel_rfl⟩
def EH:V:=.row 0 true .nil
def aa1(name:Str)(fr tt rd wr:Int):V:=.agg [.str name,.int 1,.int fr,.int tt,.int 0,.int 0,EH,EH,EH,EH,.int rd,.int wr,EH,.int 0,EH,EH,EH,.int 0]
def aa2:V:=.agg [.str iT.name,.int 1,.row 0 false (.strs iT.states),EH,EH,.int 0,EH,.row 0 false (.ints [0]),EH,.EG 19 false [aa1 [103,111] 0 1 (-1) (-1)]]
theorem wH{Z:Nat->Prop}{h:Hp}{k:Nat}{l:List T}:T.sub Z h (.sl k false l) (.sl k true l):=⟨.inl rfl,.inl rfl,fun h=>by cases h⟩
theorem jh{Z:Nat->Prop}{h:Hp}{k:Nat}:T.sub Z h (.sl k false []) T.nil:=⟨.inl rfl,.inr rfl,fun h=>by cases h⟩
theorem au.weak{P:Program}{f:FuncId}{args:List V}{a b:V}(S:au P f args a)(hs:T.sub (fun _=>True) no b.aF a.aF)(hb:b.free=true):au P f args b :=
 uT.shut S (fun _=>hs) (V.kL b hb)
theorem Vd{Z:Nat->Prop}{h:Hp}:T.sub Z h (GX wG) (aa1 [103,111] 0 1 (-1) (-1)).aF:=by
 refine⟨aB _,aB _,aB _,aB _,aB _,aB _,jh,jh,jh,jh,aB _,aB _,jh,aB _,jh,jh,jh,aB _,trivial⟩
theorem Yc:T.sub (fun _=>True) no (RN iT) aa2.aF:=by
 refine⟨aB _,aB _,aB _,jh,jh,aB _,jh,aB _,jh,⟨.inr ⟨⟨Vd,trivial⟩,fun t ht=>?_⟩,.inl rfl,fun h=>h⟩,trivial⟩
 obtain⟨x,_,rfl⟩:=List.mem_map.1 ht; rfl
theorem aax{Z:Nat->Prop}{h:Hp}{k i ty:Nat}{l:List T}(hz:Z i)(hf:T.cZ l=true)(hk:k≠eP)(q:h i=some ⟨ty,k,l⟩):T.sub Z h (.sl k false l) (.own i):=⟨rfl,hz,hf,hk,ty,q⟩
theorem S.Ve:au Tryz.prog 29 [] (.dat (.mJ iT)):=by
 refine au.weak (a:=aa2) ?_ Yc rfl
 refine au.of Bd.lS (by simp) rfl rfl ?_
 conv=>whnf
 exact⟨⟨aB _,aB _,wH,aB _,aB _,aB _,aB _,wH,aB _,aax trivial rfl (by decide) rfl,trivial⟩⟩
theorem S.OQ:au Tryz.prog 30 [] (.dat (.prop lQ)):=by
 refine au.of Bd.kF (by simp) rfl rfl ?_
 conv=>whnf
 exact⟨⟨aB _,aB _,jh,jh,jh,wH,trivial⟩⟩
theorem ah.weak{P:Program}{dr:Bool}{f:FuncId}{args args':List V}{res:V}{h:Hz}{n:Nat}{K:V->Hz->Prop}{KW:Nat->V->Hz->Prop}(S:au P f args' res)(hs:T.dG (fun _=>False) h.aj (V.aS args') (V.aS args))(hr:res.free=true)(hK:K res h):ah P dr none f args h n K KW :=
 ⟨.inl (uT.use S hs ⟨res,h,rfl,rfl,fun _=>⟨rfl,V.kL res hr⟩,hK⟩)⟩
theorem ah.on{P:Program}{f:FuncId}{args:List V}{h:Hz}{n:Nat}{K:V->Hz->Prop}{KW':Nat->V->Hz->Prop}(H:ah P false none f args h n K fun _ _ _=>False):ah P false (some true) f args h n K KW':=by
 rcases H.ok with H|⟨_,_,k,⟨_,_,_,_,_,_,hk⟩,_⟩|⟨_,e,_⟩
 ·exact⟨.inl (.inr ⟨rfl,fun _=>aT.mono H fun t hp ⟨v,h',a,b,_,c⟩=>⟨v,h',a,b,c⟩,fun e=>by cases e⟩)⟩
 ·exact hk.elim
 ·cases e
theorem S.WT:au Tryz.prog 11 [] (.bool true):=by
 refine au.of Bd.AO (by simp) rfl rfl ?_
 conv=>whnf
 refine ah.pure S.Ve rfl ?_
 conv=>whnf
 refine ah.pure S.OQ rfl ?_
 conv=>whnf
 refine ah.pure (S.jR iT lQ 1 xC yP) rfl ?_
 rw[aaw]
 conv=>whnf
 refine ah.weak (S.vg iT 0 ⟨0,[2,0]⟩ xC (by decide)) ⟨aB _,aB _,⟨aB _,wH,trivial⟩,trivial⟩ rfl ?_
 rw[JH.1,JH.2]
 conv=>whnf
 repeat(refine VC.mk (by first|exact id|exact fun h=>⟨h,h⟩) ?_; conv=>whnf)
 refine ah.jC (fun _=>S.TQ [1,0] false true (by decide)) rfl ?_
 conv=>whnf
 repeat(refine VC.mk (by first|exact id|(intro h; simp[]; done)) ?_; conv=>whnf)
 refine ah.jC (fun _=>S.eX iT lQ [1,0] false xC yP (by decide)) rfl ?_
 rw[Ya]
 conv=>whnf
 repeat(refine VC.mk (by first|exact id|(intro h; simp[]; done)) ?_; conv=>whnf)
 refine ah.jC (fun _=>S.eX iT lQ [0,0] true xC yP (by decide)) rfl ?_
 rw[Yb]
 conv=>whnf
 repeat(refine VC.mk id ?_; conv=>whnf)
 refine Fork.mk (fun _=>?_) (fun q=>absurd (q.symm.trans (rfl)) Bool.false_ne_true)
 conv=>whnf
 refine VC.mk ⟨rfl,rfl⟩ ?_
 conv=>whnf
 refine VC.mk id ?_
 conv=>whnf
 refine ah.on (ah.aae (h2:=[(59,some (iW [⟨0,[1,1]⟩,⟨0,[2,1]⟩]))]) (fun _=>False) ⟨⟨_,rfl,id,rfl,rfl,⟨⟨aB _,wH,trivial⟩,⟨aB _,wH,trivial⟩,trivial⟩,rfl,rfl⟩,trivial⟩ (S.TV [⟨0,[1,1]⟩,⟨0,[2,1]⟩] false false (by decide) (fun x hx=>by simp only[List.mem_cons,List.not_mem_nil,or_false] at hx; rcases hx with rfl|rfl<;>exact(by decide:(2:Nat)<2^40))) ⟨aB _,aaQ trivial rfl,trivial⟩ rfl ?_)
 conv=>whnf
 refine VC.mk id ?_
 conv=>whnf
 exact aG.bool rfl
end Go.Proofs.YtajmbgljnaljiaaGreatDoor
