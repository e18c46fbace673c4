/-
 A part of the proof. No condition.
-/
import Derived.Test.YtifbibbicplneaaDoorBb
import Derived.Test.YtifbibbicplneaaDoorIg
namespace Go.Proofs.YtifbibbicplneaaDoor
open Go.Ab Go.Proofs
set_option maxRecDepth 100000
theorem SmallK.each{l:List Clause}(h:SmallK l)(i:Nat):(l.getD i default).each.length<2^30:=(h.cl i).each
theorem XR{v u:V}(h:v.free=true)(k:u.free=true):T.cu [v.aI,u.aI]=true:=by
 show(v.aI.free&&(u.aI.free&&true))=true
 rw[V.jO v h,V.jO u k]; rfl
theorem ah.ZL{P:Program}{dr:Bool}{g:Option Bool}{f:FuncId}{args args':List V}{h:Hz}{n:Nat}{K:V->Hz->Prop}{KW:Nat->V->Hz->Prop}(e:V.aT args'=V.aT args)(H:ah P dr g f args' h n K KW):ah P dr g f args h n K KW:=by
 have:=H.ok
 rw[e] at this
 exact⟨this⟩
def AX(r:Int)(c:List Int)(i:Nat):List Int:=iH r (c.take i)++c.drop i
theorem SN{r:Int}{c:List Int}{i:Nat}:(AX r c i).length=c.length:=by simp[AX,iH]; omega
theorem P5{r:Int}{c:List Int}:AX r c 0=c:=by simp[AX,iH]
theorem SQ{r:Int}{c:List Int}:AX r c c.length=iH r c:=by simp[AX]
theorem P6{r:Int}{c:List Int}{i:Nat}(hi:i<c.length):(AX r c i).getD i 0=c.getD i 0/\(AX r c i).set i (min (c.getD i 0) r)=AX r c (i+1):=by
 have hl:(iH r (c.take i)).length=i:=by simp[iH]; omega
 have hd:c.drop i=c.getD i 0::c.drop (i+1):=bU 0 hi
 unfold AX
 rw[hd]
 refine⟨?_,?_⟩
 ·rw[List.getD_eq_getElem?_getD,List.getElem?_append_right (by omega),hl,Nat.sub_self]; rfl
 ·rw[List.set_append,if_neg (by omega),hl,Nat.sub_self,List.set_cons_zero,List.take_add_one]
  unfold iH
  rw[List.map_append]
  simp[hi]
theorem Vr{r:Int}(hr:1<=r): ∀ {c:List Int},(∀ x∈c,0<=x)->(c.sum=0↔(iH r c).sum=0)/\0<=c.sum/\0<=(iH r c).sum:=by
 intro c
 induction c with
 |nil=>intro _; simp[iH]
 |cons x c ih =>
  intro h
  have h0:=h x (by simp)
  obtain⟨a,b,d⟩:=ih fun y hy=>h y (by simp[hy])
  have e1:(x::c).sum=x+c.sum:=by simp
  have e2:(iH r (x::c)).sum=min x r+(iH r c).sum:=by simp[iH]
  rw[e1,e2]
  refine⟨⟨fun h=>?_,fun h=>?_⟩,by omega,by omega⟩
  ·have:(iH r c).sum=0:=a.1 (by omega)
   omega
  ·have:c.sum=0:=a.2 (by omega)
   omega
theorem Vs{p:aX}{k:Clause}{e:Elem}{r:Int}(h:AY p k e=0)(hr:1<=r)(hr2:r<=1048576):AY p k (iQ r e)=0:=by
 obtain⟨hfit,hpos,hval,hin⟩:=Ir h
 unfold AY at h ⊢
 obtain⟨h1,h2⟩:=bz nz h
 have h3:=xA h2 (by decide)
 rw[Bool.or_eq_false_iff] at h3
 obtain⟨hv,ht⟩:=h3
 obtain⟨a,b,c,d⟩:=SS hv
 rw[h1]
 have hlen:(iQ r e).counts.length=e.counts.length:=by simp[iQ,iH]
 have hall:(iQ r e).counts.all FY=true:=by
  rw[List.all_eq_true]
  intro x hx
  simp only[iQ,iH,List.mem_map] at hx
  obtain⟨y,hy,rfl⟩:=hx
  have:=b y hy
  simp only[FY,Bool.and_eq_true,decide_eq_true_eq]
  omega
 have hall0:e.counts.all FY=true:=by
  rw[List.all_eq_true]; intro x hx; have:=b x hx; simp[FY,this]
 have hv2:wu p (iQ r e)=false:=by
  unfold wu
  rw[hlen,hall,show(iQ r e).value=e.value from rfl,a]
  simp only[bne_self_eq_false,Bool.not_true,Bool.or_self,Bool.false_or,Bool.or_eq_false_iff,decide_eq_false_iff_not]
  omega
 obtain⟨hF,_⟩:=xB hin
 have h5:=hF.states
 have ht2:(kG (iQ r e)==0)=false:=by
  rw[beq_eq_false_iff_ne] at ht ⊢
  unfold kG at ht ⊢
  rw[if_neg (by omega),if_pos hall0] at ht
  rw[if_neg (by rw[hlen]; omega),if_pos hall]
  exact fun hz=>ht ((Vr hr fun x hx=>(b x hx).1).1.2 hz)
 rw[hv2,ht2]
 rfl
set_option maxHeartbeats 1000000 in
theorem S.iw(p:aX)(k:Clause)(e:Elem)(hp:dP p)(hk:sQ k)(he:e.counts.length<2^30):ay Tryd.prog 4 [.dat (.eG p),.dat (.clause k),.dat (.elem e)] (.bool true):=by
 refine ay.of Bd.iw (by simp) rfl rfl ?_
 conv=>whnf
 refine ah.pure (S.gI p k e hp hk he) rfl ?_
 rw[P7]
 conv=>whnf
 refine⟨fun h1=>?_,fun h1=>?_⟩
 ·conv=>whnf
  refine ah.pure (S.jE) rfl ?_
  conv=>whnf
  exact aB.bool rfl
 have hin:AY p k e=0:=by have:(AY p k e !=0)=false:=h1; simpa using this
 obtain⟨hfit,hpos,hval,hin0⟩:=Ir hin
 conv=>whnf
 refine ah.heap (rU.frame (S.P8 e he) _ _) ?_
 rintro t hp' ⟨rfl,rfl⟩
 refine⟨.agg [.int e.value,.own 16],(16,some (iL e.counts))::_,rfl,Vt,?_⟩
 have ZM:=rX (l:=[k])
 have XT:aU [k]<=3:=by
  obtain⟨vals,hc⟩:=hfit.cl
  exact qP fun k' hk'=>by rw[List.mem_singleton.1 hk']; exact hc.two
 have hsm:SmallK [k]:=by
  refine⟨(by decide:(1:Nat)<2^30),fun i=>?_⟩
  match i with
  |0=>exact hk
  |i+1=>exact(tH).cl 0
 conv=>whnf
 refine ah.lend (S.jP [k] false hsm) (And.intro (rV trivial rfl (by decide) rfl) trivial) rfl rfl ?_
 conv=>whnf
 have hmx:max 1 (aU [k])<=3/\1<=max 1 (aU [k]):=by omega
 refine aY.CB 100 [3,4,7,9,10] (fun i:Nat=>[(11,.int i)]) (fun i=>[(0,.box 27 11 (.dat (.eG p))),(1,.box 40 4 (.dat (.clause k))),(16,iL (AX (max 1 (aU [k])) e.counts i)),(17,.box 42 3 (.agg [.int e.value,.own 16]))]) (fun i=>i<=e.counts.length) (fun i=>e.counts.length-i) 0 [0,1,16,17] rfl (by decide) (fun _=>rfl) (Nat.zero_le _) ?_ ?_ ?_
 ·exact⟨⟨_,rfl,.eq rfl⟩,trivial⟩
 ·exact⟨okF rfl nofun rfl rfl rfl ⟨rfl,rfl⟩ rfl,okF rfl nofun rfl rfl rfl ⟨rfl,rfl⟩ rfl,okF rfl nofun rfl rfl rfl ⟨rfl,rfl⟩ (by rw[P5]),⟨rfl,nofun,rfl,rfl,_,rfl,rfl,rfl,bZ.of_eq rfl⟩,trivial⟩
 conv=>whnf
 refine⟨⟨⟨_,rfl,.eq rfl⟩,⟨_,rfl,.eq rfl⟩,⟨_,rfl,.eq rfl⟩,⟨_,rfl,.eq rfl⟩,⟨_,rfl,.eq rfl⟩,trivial⟩,rfl,?_⟩
 rintro i hi
 have hml:=SN (r:=max 1 (aU [k])) (c:=e.counts) (i:=i)
 conv=>whnf
 refine⟨fun h3=>?_,fun h3=>?_⟩
 ·have hi':i<e.counts.length:=by
   have:(i:Int)<((AX (max 1 (aU [k])) e.counts i).length:Int):=of_decide_eq_true h3
   rw[hml] at this; omega
  obtain⟨m1,m2⟩:=P6 (r:=max 1 (aU [k])) hi'
  conv=>whnf
  repeat(refine VC.mk (by first|(first|(simp only[Rw.rng,Int.toNat_natCast,hml]; omega))|(simp only[okI] at *; first|omega|(simp_all; done)|(simp_all; omega))) ?_; conv=>whnf)
  refine⟨i+1,[0,1,16,17],by omega,by omega,⟨⟨_,rfl,.eq rfl⟩,trivial⟩,⟨⟨_,rfl,.eq rfl⟩,⟨_,rfl,.eq rfl⟩,⟨_,rfl,.eq rfl⟩,⟨_,rfl,.eq rfl⟩,⟨_,rfl,.eq rfl⟩,trivial⟩,okF rfl nofun rfl rfl rfl ⟨rfl,rfl⟩ rfl,okF rfl nofun rfl rfl rfl ⟨rfl,rfl⟩ rfl,okF rfl nofun rfl rfl rfl ⟨rfl,rfl⟩ ?_,⟨rfl,nofun,rfl,rfl,_,rfl,rfl,rfl,bZ.of_eq rfl⟩,trivial⟩
  rw[<- m2,<- m1]; rfl
 ·have hi':i=e.counts.length:=by
   have: ¬ ((i:Int)<((AX (max 1 (aU [k])) e.counts i).length:Int)):=of_decide_eq_false h3
   rw[hml] at this; omega
  subst hi'
  rw[SQ]
  have hl2:(iQ (max 1 (aU [k])) e).counts.length<2^30:=by
   have:(iQ (max 1 (aU [k])) e).counts.length=e.counts.length:=by simp[iQ,iH]
   omega
  have hz:=Vs hin hmx.2 (by omega)
  have hcap:holdsB k (iQ (max 1 (aU [k])) e)=holdsB k e:=by
   obtain⟨vals,hc⟩:=hfit.cl
   refine xC hc rfl (fun x hx=>(hfit.ok x hx).1) ?_
   have:=xE (l:=[k]) (k:=k) (by simp)
   omega
  have hH:=S.gI p k (iQ (max 1 (aU [k])) e) hp hk hl2
  rw[P7,hz,hcap] at hH
  conv=>whnf
  refine ah.lend hH (And.intro (aC _) (And.intro (aC _) (And.intro (XU trivial rfl) trivial))) rfl rfl ?_
  rw[hin]
  conv=>whnf
  repeat(refine VC.mk (by first|exact id|exact fun h=>⟨h,h⟩) ?_; conv=>whnf)
  refine ah.mQ (fun _=>S.jE) rfl ?_
  conv=>whnf
  refine VC.mk id ?_
  conv=>whnf
  exact aB.bool (by cases holdsB k e<;>rfl)
theorem JJ{p:aX}{q:Prop'}{l:List Clause}(h:sS p q l=0):yN p q=0/\lT p l=0:=by
 unfold sS at h
 obtain⟨u,v⟩:=bz nz h
 exact⟨by simpa using u,v⟩
theorem P9{p:aX}{q:Prop'}{a b:List Clause}(hs:F5 p q a []=true)(hc:Oz p q b a=true):SmallK (a++b)/\a.length<=160/\b.length<=160:=by
 obtain⟨hk,ha⟩:=JJ (OD.1 hs).1.1
 unfold Oz at hc
 rw[Bool.and_eq_true,Bool.and_eq_true,beq_iff_eq] at hc
 obtain⟨_,hb⟩:=JJ hc.1.1
 obtain⟨_,hin,_⟩:=D9 hk
 obtain⟨hF,_⟩:=xB hin
 obtain⟨hA,h1⟩:=uP ha
 obtain⟨hB,h2⟩:=uP hb
 exact⟨(hA.app hB (by omega)).small hF.states hF.values,h1,h2⟩
theorem S.fB(p:aX)(q:Prop')(a b:List Clause)(f g:Bool)(hp:dP p)(hq:nK q)(ha:SmallK a)(hb:SmallK b):ay Tryd.prog 3 [.agg (Dat.cells (.eG p)++Dat.cells (.prop q)),.row 4 f (.clauses a),.row 4 g (.clauses b)] (.bool true):=by
 have k1:=ha.len; have k2:=hb.len
 refine ay.of Bd.fB (by simp) (by cases f<;>cases g<;>rfl) rfl ?_
 conv=>whnf
 refine ah.lend (S.JI 10 a b false f g k1 ha.each k2 hb.each) (And.intro (aC _) (And.intro (rV trivial (XR rfl rfl) (by decide) rfl) trivial)) rfl rfl ?_
 conv=>whnf
 refine .mk (by intro h; simp only[h,true_and]; done) ?_
 conv=>whnf
 refine ah.JH (args':=[.dat (.eG p),.dat (.prop q),.row 4 f (.clauses a),.row 4 true (.clauses [])]) (fun _=>S.nM p q a [] f true hp hq ha tH) (fun _=>And.intro (aC _) (And.intro (aC _) (And.intro (aC _) (And.intro ⟨.inl rfl,.inr rfl,fun h=>h⟩ trivial)))) rfl rfl ?_
 conv=>whnf
 repeat(refine VC.mk (by first|exact id|(intro h; rw[h]; rfl)|(intro h; simp only[h,true_and]; done)) ?_; conv=>whnf)
 refine ah.ZL (args':=[.dat (.eG p),.dat (.prop q),.row 4 g (.clauses b),.row 4 f (.clauses a)]) rfl (ah.mQ (fun _=>S.bP p q b a g f hp hq hb ha) rfl ?_)
 conv=>whnf
 repeat(refine VC.mk (by first|exact id|(intro h; rw[h]; rfl)) ?_; conv=>whnf)
 refine⟨fun h1=>?_,fun h1=>?_⟩
 ·conv=>whnf
  refine ah.pure (S.jE) rfl ?_
  conv=>whnf
  exact aB.bool rfl
 have h1':(vO 10 a||vO 10 b|| !F5 p q a []|| !Oz p q b a)=false:=h1
 rw[Bool.or_eq_false_iff,Bool.or_eq_false_iff,Bool.not_eq_false',Bool.not_eq_false'] at h1'
 obtain⟨⟨_,hst⟩,hcc⟩:=h1'
 obtain⟨hab,l1,l2⟩:=P9 hst hcc
 have hB:=S.bP p q (a++b) [] false true hp hq hab tH
 rw[JK hst hcc] at hB
 conv=>whnf
 repeat(refine VC.mk (by first|(show(0+(a.length+0))*72<=140737488355328/\0+(a.length+0)<=1152921504606846976; omega)|(show(a.length+(b.length+0))*72<=140737488355328/\a.length+(b.length+0)<=1152921504606846976; omega)|(show(0+a.length+(b.length+0))*72<=140737488355328/\0+a.length+(b.length+0)<=1152921504606846976; omega)) ?_; conv=>whnf)
 refine ah.lend (args':=[.dat (.eG p),.dat (.prop q),.row 4 false (.clauses (a++b)),.row 4 true (.clauses [])]) hB (And.intro (aC _) (And.intro (aC _) (And.intro (SL trivial rfl) (And.intro ⟨.inl rfl,.inr rfl,fun h=>h⟩ trivial)))) rfl rfl ?_
 conv=>whnf
 refine ah.mQ (fun _=>S.jE) rfl ?_
 conv=>whnf
 refine VC.mk id ?_
 conv=>whnf
 exact aB.bool rfl
end Go.Proofs.YtifbibbicplneaaDoor
