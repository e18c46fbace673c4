/-
 A part of the proof. No condition.
-/
import Derived.Test.YtbfhebmdcpmfaaaGreatDoorBb
import Derived.Test.YtbfhebmdcpmfaaaGreatDoorIe
import Derived.Test.YtbfhebmdcpmfaaaGreatDoorLf
namespace Go.Proofs.YtbfhebmdcpmfaaaGreatDoor
open Go.Ab Go.Proofs
set_option maxRecDepth 100000
def kT(n:Nat):List (List Int):=[]::(List.range n).map fun(v:Nat)=>[(v:Int)]
theorem FP{n:Nat}:kT (n+1)=kT n++[[(n:Int)]]:=by simp[kT,List.range_succ]
theorem y8{n:Nat}:(kT n).length=n+1:=by simp[kT]
theorem Og{n i:Nat}:((kT n).getD i []).length<=1:=by
 cases i with
 |zero=>exact Nat.zero_le _
 |succ i =>
  unfold kT
  rw[List.getD_cons_succ]
  by_cases h:i<n
  ·simp[h]
  ·simp[List.getD_eq_getElem?_getD,h]
theorem IL:aY [T.sl 0 false []] [T.sl 0 true []]:=fun Z h=>by
 show T.cu Z h [.sl 0 false []] [.sl 0 true []]
 simp[T.sub,T.cu]
theorem FQ{ρ:Nat->Nat}{l:List (List Int)}{x:Int}:aY (T.bV ρ (zM (l++[[x]])).aC.l) (OV.row 24 0 (.iF l) [.row 0 true (.ints [x])]).aC.l:=fun Z h=>by
 have e:(zM (l++[[x]])).aC.l=l.map Go.Ab.ints++[Go.Ab.ints [x]]:=by simp[OV.aC,Rw.aT,V.aT]
 have e2:T.bV ρ (zM (l++[[x]])).aC.l=(zM (l++[[x]])).aC.l:=OV.uq (o:=zM (l++[[x]])) rfl ρ
 rw[e2,e]
 exact og (bC _) ⟨dX,trivial⟩
theorem S.tu(p:aW)(hp:dM p):au Tryz.prog 19 [.dat (.dw p)] (.row 0 false (.iF (kT p.values.length))):=by
 have hv:=hp.values
 refine au.of Bd.tu (by simp) rfl rfl ?_
 conv=>whnf
 refine aJ.kS 50 [1] (fun i:Nat=>[(4,.int i),(3,.own 2)]) (fun i=>[(0,.box 27 11 (.dat (.dw p))),(2,zM (kT i))]) (fun i=>i<=p.values.length) (fun i=>p.values.length-i) 0 [0,2] rfl (by decide) (fun _=>rfl) (Nat.zero_le _) ?_ ?_ ?_
 ·exact⟨⟨_,rfl,.eq rfl⟩,⟨_,rfl,.eq rfl⟩,trivial⟩
 ·exact⟨okF rfl nofun rfl rfl rfl ⟨rfl,rfl⟩ rfl,⟨rfl,nofun,rfl,rfl,_,rfl,rfl,rfl,IL⟩,trivial⟩
 conv=>whnf
 refine⟨⟨⟨_,rfl,.eq rfl⟩,trivial⟩,rfl,?_⟩
 rintro i hi
 have hll:=y8 (n:=i)
 conv=>whnf
 refine⟨fun h3=>?_,fun h3=>?_⟩
 ·have hi':i<p.values.length:=by simpa using h3
  have hnx:=FP (n:=i)
  conv=>whnf
  repeat(refine VC.mk (by first|(show((kT i).length+(0+1))*24<=140737488355328/\(kT i).length+(0+1)<=1152921504606846976; omega)|(simp only[okI] at *; first|omega|(simp_all; done)|(simp_all; omega))) ?_; conv=>whnf)
  refine⟨i+1,[0,59],by omega,by omega,⟨⟨_,rfl,.eq rfl⟩,⟨_,rfl,.eq rfl⟩,trivial⟩,⟨⟨_,rfl,.eq rfl⟩,trivial⟩,okF rfl nofun rfl rfl rfl ⟨rfl,rfl⟩ rfl,⟨rfl,nofun,rfl,rfl,_,rfl,rfl,rfl,?_⟩,trivial⟩
  rw[hnx]
  exact FQ
 ·have hi':i=p.values.length:=by have: ¬ ((i:Int)<(p.values.length:Int)):=of_decide_eq_false h3; omega
  subst hi'
  conv=>whnf
  exact aA.Yz rfl
theorem S.fU(p:aW)(hp:dM p):au Tryz.prog 40 [.dat (.dw p)] (.row 0 false (.iF (kT p.values.length))):=by
 have hv:=hp.values
 refine au.of Bd.fU (by simp) rfl rfl ?_
 conv=>whnf
 refine aJ.kS 50 [7,8] (fun i:Nat=>[(9,.int i),(3,.own 2)]) (fun i=>[(2,zM (kT i))]) (fun i=>i<=p.values.length) (fun i=>p.values.length-i) 0 [2] rfl (by decide) (fun _=>rfl) (Nat.zero_le _) ?_ ?_ ?_
 ·exact⟨⟨_,rfl,.eq rfl⟩,⟨_,rfl,.eq rfl⟩,trivial⟩
 ·exact⟨⟨rfl,nofun,rfl,rfl,_,rfl,rfl,rfl,IL⟩,trivial⟩
 conv=>whnf
 refine⟨⟨⟨_,rfl,.eq rfl⟩,⟨_,rfl,.eq rfl⟩,trivial⟩,rfl,?_⟩
 rintro i hi
 have hll:=y8 (n:=i)
 conv=>whnf
 refine⟨fun h3=>?_,fun h3=>?_⟩
 ·have hi':i<p.values.length:=by simpa using h3
  have hnx:=FP (n:=i)
  conv=>whnf
  repeat(refine VC.mk (by first|(show((kT i).length+(0+1))*24<=140737488355328/\(kT i).length+(0+1)<=1152921504606846976; omega)|(simp only[okI] at *; first|omega|(simp_all; done)|(simp_all; omega))) ?_; conv=>whnf)
  refine⟨i+1,[57],by omega,by omega,⟨⟨_,rfl,.eq rfl⟩,⟨_,rfl,.eq rfl⟩,trivial⟩,⟨⟨_,rfl,.eq rfl⟩,⟨_,rfl,.eq rfl⟩,trivial⟩,⟨rfl,nofun,rfl,rfl,_,rfl,rfl,rfl,?_⟩,trivial⟩
  rw[hnx]
  exact FQ
 ·have hi':i=p.values.length:=by have: ¬ ((i:Int)<(p.values.length:Int)):=of_decide_eq_false h3; omega
  subst hi'
  conv=>whnf
  exact aA.Yz rfl
structure aa9{ι:Type}(inv:ι->Prop)(μ:ι->Nat)(vars:ι->Fm)(objs:ι->List (Nat×OV))(base:Fm)(nx pn:Nat)(i:ι)(m:Fm)(h:Hz):Prop where
 ok: ∃ h1 h2 j nw,WB h h1/\WB h1 h2/\inv j/\μ j<μ i/\jZ (jQ (objs j) nw) m (vars j)/\jZ (jQ (objs j) nw) m base/\okR (jQ (objs j) nw) nx pn h2 (objs j) nw
theorem aJ.YE{P:Program}{N pn Zu:Nat}(nx:Nat){b:fA}{Q:Qz}{m:Fm}{h:Hz}{ι:Type}(live:List Nat)(vars:ι->Fm)(objs:ι->List (Nat×OV))(inv:ι->Prop)(μ:ι->Nat)(i0:ι)(G9:List Nat)(hd:oM N b=true)(hp:pn<=nx)(hv: ∀ i,Rj nx N (vars i)=true)(h0:inv i0)
  (he:jZ (jQ (objs i0) G9) m (vars i0)) (ho:okR (jQ (objs i0) G9) nx pn h (objs i0) G9)
  (H:D5 m live [] fun base=>jZ (jQ (objs i0) G9) m base/\Rj nx N base=true/\ ∀ i,inv i->az P N pn b (fun e m' h' n'=>match e with
   | .normal=>aa9 inv μ vars objs base nx pn i m' h'
   |e=>Q e m' h' n') (vars i++base) (FT (objs i)) nx):aJ P N pn b Q m h Zu:=by
 obtain⟨base,⟨hbs,hb,H⟩,hbm⟩:=vI H (fun i v q=>by cases q)
 refine⟨fun fr hl R=>?_⟩
 have hall: ∀ i j v,Fm.get j (vars i++base)=some v->T.lt nx v.aG=true/\j<N:=fun i j v q=>by
  rcases get_append q with q|q
  ·exact qI (hv i) q
  ·exact qI hb q
 have wk: ∀ (i:ι) (nw:List Nat) (m':Fm) (h' h1' h2':Hz) (s':AS),s'.fr.length=N->Rp m' s'.fr->s'.hp=h'.aj->s'.pin=pn->WB h' h1'->WB h1' h2'->jZ (jQ (objs i) nw) m' (vars i)->jZ (jQ (objs i) nw) m' base->okR (jQ (objs i) nw) nx pn h2' (objs i) nw ->
   Wk ⟨qQ N (vars i++base),(FT (objs i)).aj,nx,pn⟩ s':=by
  intro i nw m' h' h1' h2' s' a1 a2 a3 a4 af af2 a5 a6 a7
  obtain⟨fr',hp',nx',YF⟩:=s'
  simp only at a1 a2 a3 a4
  subst a3; subst a4
  refine af.wk (_s1:=⟨fr',h1'.aj,nx',YF⟩) (af2.wk (_s1:=⟨fr',h2'.aj,nx',YF⟩) ?_)
  rw[<- Bv a7]
  have e:yg (uU (objs i) nw)=jQ (objs i) nw:=funext fun _=>yh
  refine Wk.objs (uU (objs i) nw) (vJ a1 a2 fun j v q=>?_) (vK fun j v q=>(hall i j v q).1) hp (by rw[e]; exact Bz a7)
  rw[e]
  rcases get_append q with q|q
  ·exact lK a5 q
  ·exact lK a6 q
 have wk0: ∀ (i:ι) (nw:List Nat) (m':Fm) (h2':Hz) (s':AS),s'.fr.length=N->Rp m' s'.fr->s'.hp=h2'.aj->s'.pin=pn->jZ (jQ (objs i) nw) m' (vars i)->jZ (jQ (objs i) nw) m' base->okR (jQ (objs i) nw) nx pn h2' (objs i) nw ->
   Wk ⟨qQ N (vars i++base),(FT (objs i)).aj,nx,pn⟩ s':=by
  intro i nw m' h2' s' a1 a2 a3 a4 a5 a6 a7
  obtain⟨fr',hp',nx',YF⟩:=s'
  simp only at a1 a2 a3 a4
  subst a3; subst a4
  rw[<- Bv a7]
  have e:yg (uU (objs i) nw)=jQ (objs i) nw:=funext fun _=>yh
  refine Wk.objs (uU (objs i) nw) (vJ a1 a2 fun j v q=>?_) (vK fun j v q=>(hall i j v q).1) hp (by rw[e]; exact Bz a7)
  rw[e]
  rcases get_append q with q|q
  ·exact lK a5 q
  ·exact lK a6 q
 refine vM.rule (fun i=>⟨qQ N (vars i++base),(FT (objs i)).aj,nx,pn⟩) inv μ i0 h0 (wk0 i0 G9 m h _ hl R rfl rfl he hbs ho) ?_
 intro i hi
 have:=oN (P:=P) (N:=N) (pn:=pn) (s:=⟨qQ N (vars i++base),(FT (objs i)).aj,nx,pn⟩) hd tC (yj fun j v q=>(hall i j v q).2) rfl rfl (H i hi)
 refine lW ?_ this
 rintro e s' ⟨m',h',a1,a2,a3,a4,a5⟩
 cases e with
 |normal =>
  obtain⟨h1',h2',j,nw,bf,bf2,b1,b2,b3,b4,b5⟩:=a5.ok
  exact⟨j,⟨b1,b2⟩,wk j nw m' h' h1' h2' s' a1 a2 a3 a4 bf bf2 b3 b4 b5⟩
 |exit j=>exact⟨m',h',a1,a2,a3,a4,a5⟩
 |ret=>exact⟨m',h',a1,a2,a3,a4,a5⟩
def dW{α:Type}(n:Nat)(f:Nat->List α):List α:=(List.range n).flatMap f
theorem gW{α:Type}{n:Nat}{f:Nat->List α}:dW (n+1) f=dW n f++f n:=by
 simp[dW,List.range_succ,List.flatMap_append]
theorem qR{α:Type}{f:Nat->List α}(k:Nat)(h: ∀ i,(f i).length<=k): ∀ n,(dW n f).length<=n*k:=by
 intro n
 induction n with
 |zero=>exact Nat.zero_le _
 |succ n ih=>rw[gW,List.length_append,Nat.succ_mul]; have:=h n; omega
theorem qU{α:Type}{f:Nat->List α}{n:Nat}{x:α}:x∈dW n f↔ ∃ i,i<n/\x∈f i:=by
 simp[dW,List.mem_flatMap]
def ny(e:List (List Int))(v s:List Int):Clause:=⟨e,v,s⟩
def dS(nv i:Nat):List Int:=(kT nv).getD i []
def YG(v:List Int)(m:Nat):List Clause:=(bif decide ((v.length:Int)>0) then [ny [] v []] else [])++dW m fun x=>[ny [] v [(x:Int)]]
def cdB(a:Nat)(v:List Int)(m:Nat):List Clause:=[ny [[(a:Int)]] v []]++dW m fun x=>[ny [[(a:Int)]] v [(x:Int)]]
def cdC(a b:Nat)(v:List Int):List Clause:=[ny [[(a:Int)],[(b:Int)]] v []]
def IQ(ns nv i:Nat):List Clause:=dW i fun i=>YG (dS nv i) ns
def Dl(ns nv a i:Nat):List Clause:=dW i fun i=>cdB a (dS nv i) ns
def TD(ns nv a:Nat):List Clause:=dW a fun a=>Dl ns nv a (nv+1)
def wQ(nv a b i:Nat):List Clause:=dW i fun i=>cdC a b (dS nv i)
def Ep(nv a k:Nat):List Clause:=dW k fun k=>wQ nv a (a+k) (nv+1)
def TF(ns nv a:Nat):List Clause:=dW a fun a=>Ep nv a (ns-a)
def vN(ns nv:Nat):List Clause:=IQ ns nv (nv+1)++TD ns nv ns++TF ns nv ns
theorem Xi{v:List Int}{m:Nat}:(YG v m).length<=m+1:=by
 unfold YG
 rw[List.length_append]
 have:=qR 1 (f:=fun x:Nat=>[ny [] v [(x:Int)]]) (fun _=>Nat.le_refl _) m
 cases decide ((v.length:Int)>0)<;>simp only[cond_true,cond_false,List.length_cons,List.length_nil]<;>omega
theorem Xj{a:Nat}{v:List Int}{m:Nat}:(cdB a v m).length<=m+1:=by
 unfold cdB
 rw[List.length_append]
 have:=qR 1 (f:=fun x:Nat=>[ny [[(a:Int)]] v [(x:Int)]]) (fun _=>Nat.le_refl _) m
 simp only[List.length_cons,List.length_nil]; omega
theorem BA{ns nv:Nat}(hs:ns<=6)(i:Nat):(IQ ns nv i).length<=i*7:=qR 7 (fun _=>by have:=@Xi (dS nv ‹_›) ns; omega) i
theorem FU{ns nv a:Nat}(hs:ns<=6)(i:Nat):(Dl ns nv a i).length<=i*7:=qR 7 (fun _=>by have:=@Xj a (dS nv ‹_›) ns; omega) i
theorem ED{ns nv:Nat}(hs:ns<=6)(hv:nv<=3)(a:Nat):(TD ns nv a).length<=a*28:=qR 28 (fun _=>by have:=@FU ns nv ‹_› hs (nv+1); omega) a
theorem FV{nv a b:Nat}(i:Nat):(wQ nv a b i).length<=i*1:=qR 1 (fun _=>Nat.le_refl _) i
theorem FW{nv a:Nat}(hv:nv<=3)(k:Nat):(Ep nv a k).length<=k*4:=qR 4 (fun _=>by have:=@FV nv a (a+ ‹_›) (nv+1); omega) k
theorem JC{ns nv:Nat}(hs:ns<=6)(hv:nv<=3)(a:Nat):(TF ns nv a).length<=a*24:=qR 24 (fun b=>by have:=@FW nv b hv (ns-b); omega) a
theorem Rk{ns nv:Nat}(hs:ns<=6)(hv:nv<=3):(vN ns nv).length<=340:=by
 unfold vN
 rw[List.length_append,List.length_append]
 have h1:=@BA ns nv hs (nv+1)
 have h2:=@ED ns nv hs hv ns
 have h3:=@JC ns nv hs hv ns
 omega
theorem yt{nv i:Nat}:dS nv i=[]\/ ∃ v:Nat,v<nv/\dS nv i=[(v:Int)]:=by
 unfold dS kT
 cases i with
 |zero=>exact .inl rfl
 |succ i =>
  rw[List.getD_cons_succ]
  by_cases h:i<nv
  ·exact .inr ⟨i,h,by simp[h]⟩
  ·exact .inl (by simp[List.getD_eq_getElem?_getD,h])
structure FX(ns nv:Nat)(k:Clause):Prop where
 each:k.each=[]\/(∃ a:Nat,a<ns/\k.each=[[(a:Int)]])\/ ∃ a b:Nat,a<ns/\b<ns/\k.each=[[(a:Int)],[(b:Int)]]
 values:k.values=[]\/ ∃ v:Nat,v<nv/\k.values=[(v:Int)]
 some:k.some=[]\/ ∃ x:Nat,x<ns/\k.some=[(x:Int)]
theorem PI{ns nv:Nat}{k:Clause}(h:k∈vN ns nv):FX ns nv k:=by
 unfold vN at h
 rcases List.mem_append.1 h with h|h
 ·rcases List.mem_append.1 h with h|h
  ·obtain⟨i,_,h⟩:=qU.1 h
   rcases List.mem_append.1 h with h|h
   ·cases hd:decide (((dS nv i).length:Int)>0) with
    |true=>rw[hd] at h; rw[List.mem_singleton.1 h]; exact⟨.inl rfl,yt,.inl rfl⟩
    |false=>rw[hd] at h; cases h
   ·obtain⟨x,hx,h⟩:=qU.1 h
    rw[List.mem_singleton.1 h]; exact⟨.inl rfl,yt,.inr ⟨x,hx,rfl⟩⟩
  ·obtain⟨a,ha,h⟩:=qU.1 h
   obtain⟨i,_,h⟩:=qU.1 h
   rcases List.mem_append.1 h with h|h
   ·rw[List.mem_singleton.1 h]; exact⟨.inr (.inl ⟨a,ha,rfl⟩),yt,.inl rfl⟩
   ·obtain⟨x,hx,h⟩:=qU.1 h
    rw[List.mem_singleton.1 h]; exact⟨.inr (.inl ⟨a,ha,rfl⟩),yt,.inr ⟨x,hx,rfl⟩⟩
 ·obtain⟨a,ha,h⟩:=qU.1 h
  obtain⟨b,hb,h⟩:=qU.1 h
  obtain⟨i,_,h⟩:=qU.1 h
  rw[List.mem_singleton.1 h]; exact⟨.inr (.inr ⟨a,a+b,ha,by omega,rfl⟩),yt,.inl rfl⟩
theorem set1{n a:Nat}(h:a<n):eF [(a:Int)] (n:Int)=0:=by
 have:nI (a:Int) (n:Int)=false:=by unfold nI; simp; omega
 simp[eF,xI,this]
theorem FX.small{ns nv:Nat}{k:Clause}(h:FX ns nv k):kE k:=by
 refine⟨?_,fun i=>?_,?_,?_⟩
 ·rcases h.each with e|⟨_,_,e⟩|⟨_,_,_,_,e⟩<;>rw[e]<;>simp
 ·rcases h.each with e|⟨_,_,e⟩|⟨_,_,_,_,e⟩<;>rw[e]<;>rcases i with _|_|i<;>simp
 ·rcases h.values with e|⟨_,_,e⟩<;>rw[e]<;>simp
 ·rcases h.some with e|⟨_,_,e⟩<;>rw[e]<;>simp
theorem FX.right{p:aW}{k:Clause}(h:FX p.states.length p.values.length k):xR p k=0:=by
 have e1: ¬ ((k.each.length:Int)>2):=by
  rcases h.each with e|⟨_,_,e⟩|⟨_,_,_,_,e⟩<;>rw[e]<;>simp
 have e2:aQ (k.each.map (pJ p.states.length))=0:=by
  rcases h.each with e|⟨a,ha,e⟩|⟨a,b,ha,hb,e⟩<;>rw[e]
  ·rfl
  ·simp[aQ,pJ,set1 ha,dU]
  ·simp[aQ,pJ,set1 ha,set1 hb,dU]
 have e3:eF k.values p.values.length=0:=by
  rcases h.values with e|⟨v,hv,e⟩<;>rw[e]
  ·rfl
  ·exact set1 hv
 have e4:eF k.some p.states.length=0:=by
  rcases h.some with e|⟨v,hv,e⟩<;>rw[e]
  ·rfl
  ·exact set1 hv
 unfold xR
 rw[decide_eq_false e1,e2,e3,e4]; rfl
theorem Lp{ns nv:Nat}(hs:ns<=6)(hv:nv<=3):SmallK (vN ns nv):=by
 refine⟨by have:=Rk hs hv; omega,fun i=>?_⟩
 by_cases hi:i<(vN ns nv).length
 ·exact(PI (getM (d:=default) hi)).small
 ·rw[show(vN ns nv).getD i default=default by simp[List.getD_eq_getElem?_getD,List.getElem?_eq_none (by omega:(vN ns nv).length<=i)]]
  exact xQ.cl i
def Wy(p:aW):List Clause:=bif zZ p==0 then vN p.states.length p.values.length else []
theorem Qv{p:aW}:SmallK (Wy p):=by
 unfold Wy
 cases h:zZ p==0 with
 |true =>
  have hF:=(y7 (eq_of_beq h)).1
  exact Lp hF.states hF.values
 |false=>exact xQ
theorem Y3{p:aW}{k:Clause}(hk:k∈Wy p):zZ p=0/\xR p k=0:=by
 unfold Wy at hk
 cases h:zZ p==0 with
 |true=>rw[h] at hk; exact⟨eq_of_beq h,(PI hk).right⟩
 |false=>rw[h] at hk; cases hk
def Yw(p:aW):V:=.fO [.row 4 false (.clauses (Wy p)),.int (zZ p)]
theorem PK{p:aW}{x:Int}(h:zZ p=x)(hx:x≠0):Yw p= .fO [.row 4 false (.clauses []),.int x]:=by
 rw[Yw,Wy,h,show(x==0)=false from beq_eq_false_iff_ne.2 hx]; rfl
theorem UL{p:aW}(h:zZ p=0):Yw p= .fO [.row 4 false (.clauses (vN p.states.length p.values.length)),.int 0]:=by
 rw[Yw,Wy,h]; rfl
theorem yu{ρ:Nat->Nat}{l:List Clause}{k:Clause}{v:V}(hs: ∀ Z h,T.sub Z h (iD k) v.aG):aY (T.bV ρ (fP (l++[k])).aC.l) (OV.row 36 4 (.clauses l) [v]).aC.l:=fun Z h=>by
 have e:(fP (l++[k])).aC.l=l.map iD++[iD k]:=by simp[OV.aC,Rw.aT,V.aT]
 have e2:T.bV ρ (fP (l++[k])).aC.l=(fP (l++[k])).aC.l:=OV.uq (o:=fP (l++[k])) rfl ρ
 rw[e2,e]
 exact og (bC _) ⟨hs Z h,trivial⟩
theorem yw{Z:Nat->Prop}{h:Hz}{i:Nat}{l:List Clause}{v v':V}(q:h.get i=some (.row 36 4 (.clauses l) [v]))(hi: ¬ Z i)(hs:T.sub Z h.aj v'.aG v.aG)(hk:T.kd v'.aG=T.kd v.aG)(he:fD v'.aG=fD v.aG) :
  ∃ o',h.get i=some o'/\ ¬ Z i/\o'.aC.ty=(OV.row 36 4 (.clauses l) [v']).aC.ty/\o'.aC.k=(OV.row 36 4 (.clauses l) [v']).aC.k/\T.cu Z h.aj (OV.row 36 4 (.clauses l) [v']).aC.l o'.aC.l/\(OV.row 36 4 (.clauses l) [v']).aC.l.map T.kd=o'.aC.l.map T.kd/\(OV.row 36 4 (.clauses l) [v']).aC.l.map fD=o'.aC.l.map fD:=by
 have e: ∀ u:V,(OV.row 36 4 (.clauses l) [u]).aC.l=l.map iD++[u.aG]:=fun u=>by simp[OV.aC,Rw.aT,V.aT]
 refine⟨_,q,hi,rfl,rfl,?_,?_,?_⟩
 ·rw[e,e]; exact og (bC _) ⟨hs,trivial⟩
 ·rw[e,e]; simp[hk]
 ·rw[e,e]; simp[he]
theorem yx{Z:Nat->Prop}{h:Hz}{i:Nat}{l:List Clause}{k:Clause}{v:V}(q:h.get i=some (.row 36 4 (.clauses l) [v]))(hi: ¬ Z i)(hs:T.sub Z h.aj (iD k) v.aG)(hk:T.kd (iD k)=T.kd v.aG)(he:fD (iD k)=fD v.aG) :
  ∃ o',h.get i=some o'/\ ¬ Z i/\o'.aC.ty=(fP (l++[k])).aC.ty/\o'.aC.k=(fP (l++[k])).aC.k/\T.cu Z h.aj (fP (l++[k])).aC.l o'.aC.l/\(fP (l++[k])).aC.l.map T.kd=o'.aC.l.map T.kd/\(fP (l++[k])).aC.l.map fD=o'.aC.l.map fD:=by
 have e: ∀ u:V,(OV.row 36 4 (.clauses l) [u]).aC.l=l.map iD++[u.aG]:=fun u=>by simp[OV.aC,Rw.aT,V.aT]
 have e2:(fP (l++[k])).aC.l=l.map iD++[iD k]:=by simp[OV.aC,Rw.aT,V.aT]
 refine⟨_,q,hi,rfl,rfl,?_,?_,?_⟩
 ·rw[e,e2]; exact og (bC _) ⟨hs,trivial⟩
 ·rw[e,e2]; simp[hk]
 ·rw[e,e2]; simp[he]
theorem aJ.Nv{P:Program}{N pn nx:Nat}{b:fA}{Q:Qz}{m:Fm}{h h2:Hz}(f:WB h h2)(H:aJ P N pn b Q m h2 nx):aJ P N pn b Q m h nx:=by
 refine⟨fun fr hl R=>?_⟩
 obtain⟨I,μ,⟨s0,w0,i0⟩,round⟩:=H.ok fr hl R
 exact⟨I,μ,⟨s0,f.wk (_s1:=⟨fr,h2.aj,nx,pn⟩) w0,i0⟩,round⟩
abbrev zC(a:Int):V:=.row 0 true (.ints [a])
theorem IU{Z:Nat->Prop}{h:Hp}{a:Int}{v:List Int}{s:List Int}{t:V}(ht:T.sub Z h (.sl 0 false (s.map T.int)) t.aG):T.sub Z h (iD (ny [[a]] v s)) (V.agg [.pR 0 false [zC a],.row 0 false (.ints v),t]).aG:=by
 refine⟨⟨.inr ⟨⟨dX,trivial⟩,fun t ht=>?_⟩,.inl rfl,fun h=>h⟩,ak _,ht,trivial⟩
 obtain⟨x,_,rfl⟩:=List.mem_map.1 ht; rfl
theorem Rl{Z:Nat->Prop}{h:Hp}{a b:Int}{v:List Int}:T.sub Z h (iD (ny [[a],[b]] v [])) (V.agg [.pR 0 false [zC a,zC b],.row 0 false (.ints v),.row 0 true .nil]).aG:=by
 refine⟨⟨.inr ⟨⟨dX,dX,trivial⟩,fun t ht=>?_⟩,.inl rfl,fun h=>h⟩,ak _,dP,trivial⟩
 obtain⟨x,_,rfl⟩:=List.mem_map.1 ht; rfl
theorem aA.acf{h:Hz}{j:Nat}{l:List Clause}{c:Int}(q:h.get j=some (fP l)):aA (.fO [.row 4 false (.clauses l),.int c]) (.fO [.own j,.int c]) h:=⟨⟨TR trivial q,ak _,trivial⟩⟩
theorem FY{α:Type}{n:Nat}{f:Nat->α}:dW (n+1) (fun i=>[f i])=dW n (fun i=>[f i])++[f n]:=gW
theorem sD{α:Type}{n:Nat}{f:Nat->α}:(dW n fun i=>[f i]).length=n:=by
 induction n with
 |zero=>rfl
 |succ n ih=>rw[FY,List.length_append,ih]; rfl
theorem S.mg(p:aW)(hp:dM p):au Tryz.prog 7 [.dat (.dw p)] (Yw p):=by
 refine au.of Bd.mg (by simp) rfl rfl ?_
 conv=>whnf
 refine ah.pure (S.sZ p hp) rfl ?_
 conv=>whnf
 refine⟨fun h1=>?_,fun h1=>?_⟩
 ·rw[PK rfl (by simpa using h1)]
  conv=>whnf
  exact aA.aa8
 rw[UL (yX h1)]
 have hF:=(y7 (yX h1)).1
 have hs:=hF.states; have hv:=hF.values
 have hvl:=y8 (n:=p.values.length)
 conv=>whnf
 refine ah.pure (S.tu p hp) rfl ?_
 conv=>whnf
 refine aJ.nil 6 36 4 (by rfl) rfl rfl rfl ?_
 refine aJ.kS 50 [1,5] (fun i:Nat=>[(7,.int i),(6,.own 1)]) (fun i=>[(0,.box 27 11 (.dat (.dw p))),(1,fP (IQ p.states.length p.values.length i))]) (fun i=>i<=p.values.length+1) (fun i=>p.values.length+1-i) 0 [0,13] rfl (by decide) (fun _=>rfl) (Nat.zero_le _) ?_ ?_ ?_
 ·exact⟨⟨_,rfl,.eq rfl⟩,⟨_,rfl,.eq rfl⟩,trivial⟩
 ·exact⟨okF rfl nofun rfl rfl rfl ⟨rfl,rfl⟩ rfl,okF rfl nofun rfl rfl rfl ⟨rfl,rfl⟩ rfl,trivial⟩
 conv=>whnf
 refine⟨⟨⟨_,rfl,.eq rfl⟩,⟨_,rfl,.eq rfl⟩,trivial⟩,rfl,?_⟩
 rintro i hi
 conv=>whnf
 refine⟨fun h3=>?_,fun h3=>?_⟩
 ·have hi':i<p.values.length+1:=by rw[<- hvl]; simpa using h3
  have hkn:IQ p.states.length p.values.length (i+1)=IQ p.states.length p.values.length i++YG (dS p.values.length i) p.states.length:=gW
  have hla:=BA (nv:=p.values.length) hs i
  conv=>whnf
  refine .mk (by simp only[Rw.rng] at *; first|omega|(simp_all; done)|(simp_all; omega)) ?_
  conv=>whnf
  refine⟨fun h4=>?_,fun h4=>?_⟩
  ·obtain⟨pre,hpre⟩: ∃ pre,pre=IQ p.states.length p.values.length i++[ny [] (dS p.values.length i) []]:=⟨_,rfl⟩
   have hpl:pre.length<=i*7+1:=by rw[hpre,List.length_append,List.length_singleton]; omega
   have hfin:IQ p.states.length p.values.length (i+1)=pre++dW p.states.length fun x=>[ny [] (dS p.values.length i) [(x:Int)]]:=by
    rw[hkn,YG,show decide (((dS p.values.length i).length:Int)>0)=true from h4,hpre,List.append_assoc]; rfl
   conv=>whnf
   repeat(refine VC.mk (by first|(show((IQ p.states.length p.values.length i).length+(0+1))*72<=140737488355328/\(IQ p.states.length p.values.length i).length+(0+1)<=1152921504606846976; omega)|(simp only[Rw.rng] at *; first|omega|(simp_all; done)|(simp_all; omega))) ?_; conv=>whnf)
   refine aJ.kS 100 [1,5,7] (fun x:Nat=>[(8,.int x),(6,.own 1)]) (fun x=>[(0,.box 27 11 (.dat (.dw p))),(1,fP (pre++dW x fun x=>[ny [] (dS p.values.length i) [(x:Int)]]))]) (fun x=>x<=p.states.length) (fun x=>p.states.length-x) 0 [0,67] rfl (by decide) (fun _=>rfl) (Nat.zero_le _) ?_ ?_ ?_
   ·exact⟨⟨_,rfl,.eq rfl⟩,⟨_,rfl,.eq rfl⟩,trivial⟩
   ·refine⟨okF rfl nofun rfl rfl rfl ⟨rfl,rfl⟩ rfl,⟨rfl,nofun,rfl,rfl,_,rfl,rfl,rfl,?_⟩,trivial⟩
    rw[show(pre++dW 0 fun x=>[ny [] (dS p.values.length i) [(x:Int)]])=pre from List.append_nil _,hpre]
    exact yu fun Z h=>⟨dP,ak _,dP,trivial⟩
   conv=>whnf
   refine⟨⟨⟨_,rfl,.eq rfl⟩,⟨_,rfl,.eq rfl⟩,⟨_,rfl,.eq rfl⟩,trivial⟩,rfl,?_⟩
   rintro x hx
   have hxl:=sD (n:=x) (f:=fun x:Nat=>ny [] (dS p.values.length i) [(x:Int)])
   have hxa:(pre++dW x fun x=>[ny [] (dS p.values.length i) [(x:Int)]]).length=pre.length+x:=by rw[List.length_append,hxl]
   conv=>whnf
   refine⟨fun h5=>?_,fun h5=>?_⟩
   ·have hx':x<p.states.length:=by simpa using h5
    conv=>whnf
    repeat(refine VC.mk (by first|(show((pre++dW x fun x=>[ny [] (dS p.values.length i) [(x:Int)]]).length+(0+1))*72<=140737488355328/\(pre++dW x fun x=>[ny [] (dS p.values.length i) [(x:Int)]]).length+(0+1)<=1152921504606846976; omega)|(simp only[okI,Rw.rng] at *; first|omega|(simp_all; done)|(simp_all; omega))) ?_; conv=>whnf)
    refine⟨x+1,[0,114],by omega,by omega,⟨⟨_,rfl,.eq rfl⟩,⟨_,rfl,.eq rfl⟩,trivial⟩,⟨⟨_,rfl,.eq rfl⟩,⟨_,rfl,.eq rfl⟩,⟨_,rfl,.eq rfl⟩,trivial⟩,okF rfl nofun rfl rfl rfl ⟨rfl,rfl⟩ rfl,⟨rfl,nofun,rfl,rfl,_,rfl,rfl,rfl,?_⟩,trivial⟩
    rw[FY,<- List.append_assoc]
    exact yu fun Z h=>⟨dP,ak _,dX,trivial⟩
   ·have hx':x=p.states.length:=by have: ¬ ((x:Int)<(p.states.length:Int)):=of_decide_eq_false h5; omega
    subst hx'
    conv=>whnf
    refine .mk (by simp only[okI] at *; first|omega|(simp_all; done)|(simp_all; omega)) ?_
    conv=>whnf
    refine⟨i+1,[0,1],by omega,by omega,⟨⟨_,rfl,.eq rfl⟩,⟨_,rfl,.eq rfl⟩,trivial⟩,⟨⟨_,rfl,.eq rfl⟩,⟨_,rfl,.eq rfl⟩,trivial⟩,okF rfl nofun rfl rfl rfl ⟨rfl,rfl⟩ rfl,okF rfl nofun rfl rfl rfl ⟨rfl,rfl⟩ ?_,trivial⟩
    rw[hfin]
  ·obtain⟨pre,hpre⟩: ∃ pre,pre=IQ p.states.length p.values.length i:=⟨_,rfl⟩
   have hpl:pre.length<=i*7+1:=by rw[hpre]; omega
   have hfin:IQ p.states.length p.values.length (i+1)=pre++dW p.states.length fun x=>[ny [] (dS p.values.length i) [(x:Int)]]:=by
    rw[hkn,YG,show decide (((dS p.values.length i).length:Int)>0)=false from h4,hpre]; rfl
   conv=>whnf
   refine aJ.kS 100 [1,5,7] (fun x:Nat=>[(8,.int x),(6,.own 1)]) (fun x=>[(0,.box 27 11 (.dat (.dw p))),(1,fP (pre++dW x fun x=>[ny [] (dS p.values.length i) [(x:Int)]]))]) (fun x=>x<=p.states.length) (fun x=>p.states.length-x) 0 [0,1] rfl (by decide) (fun _=>rfl) (Nat.zero_le _) ?_ ?_ ?_
   ·exact⟨⟨_,rfl,.eq rfl⟩,⟨_,rfl,.eq rfl⟩,trivial⟩
   ·refine⟨okF rfl nofun rfl rfl rfl ⟨rfl,rfl⟩ rfl,okF rfl nofun rfl rfl rfl ⟨rfl,rfl⟩ ?_,trivial⟩
    rw[show(pre++dW 0 fun x=>[ny [] (dS p.values.length i) [(x:Int)]])=pre from List.append_nil _,hpre]
   conv=>whnf
   refine⟨⟨⟨_,rfl,.eq rfl⟩,⟨_,rfl,.eq rfl⟩,⟨_,rfl,.eq rfl⟩,trivial⟩,rfl,?_⟩
   rintro x hx
   have hxl:=sD (n:=x) (f:=fun x:Nat=>ny [] (dS p.values.length i) [(x:Int)])
   have hxa:(pre++dW x fun x=>[ny [] (dS p.values.length i) [(x:Int)]]).length=pre.length+x:=by rw[List.length_append,hxl]
   conv=>whnf
   refine⟨fun h5=>?_,fun h5=>?_⟩
   ·have hx':x<p.states.length:=by simpa using h5
    conv=>whnf
    repeat(refine VC.mk (by first|(show((pre++dW x fun x=>[ny [] (dS p.values.length i) [(x:Int)]]).length+(0+1))*72<=140737488355328/\(pre++dW x fun x=>[ny [] (dS p.values.length i) [(x:Int)]]).length+(0+1)<=1152921504606846976; omega)|(simp only[okI,Rw.rng] at *; first|omega|(simp_all; done)|(simp_all; omega))) ?_; conv=>whnf)
    refine⟨x+1,[0,114],by omega,by omega,⟨⟨_,rfl,.eq rfl⟩,⟨_,rfl,.eq rfl⟩,trivial⟩,⟨⟨_,rfl,.eq rfl⟩,⟨_,rfl,.eq rfl⟩,⟨_,rfl,.eq rfl⟩,trivial⟩,okF rfl nofun rfl rfl rfl ⟨rfl,rfl⟩ rfl,⟨rfl,nofun,rfl,rfl,_,rfl,rfl,rfl,?_⟩,trivial⟩
    rw[FY,<- List.append_assoc]
    exact yu fun Z h=>⟨dP,ak _,dX,trivial⟩
   ·have hx':x=p.states.length:=by have: ¬ ((x:Int)<(p.states.length:Int)):=of_decide_eq_false h5; omega
    subst hx'
    conv=>whnf
    refine .mk (by simp only[okI] at *; first|omega|(simp_all; done)|(simp_all; omega)) ?_
    conv=>whnf
    refine⟨i+1,[0,1],by omega,by omega,⟨⟨_,rfl,.eq rfl⟩,⟨_,rfl,.eq rfl⟩,trivial⟩,⟨⟨_,rfl,.eq rfl⟩,⟨_,rfl,.eq rfl⟩,trivial⟩,okF rfl nofun rfl rfl rfl ⟨rfl,rfl⟩ rfl,okF rfl nofun rfl rfl rfl ⟨rfl,rfl⟩ ?_,trivial⟩
    rw[hfin]
 ·have hi':i=p.values.length+1:=by have: ¬ ((i:Int)<((kT p.values.length).length:Int)):=of_decide_eq_false h3; omega
  subst hi'
  obtain⟨A,hA⟩: ∃ A,A=IQ p.states.length p.values.length (p.values.length+1):=⟨_,rfl⟩
  have hAl:A.length<=28:=by have:=BA (nv:=p.values.length) hs (p.values.length+1); rw[hA]; omega
  rw[<- hA]
  conv=>whnf
  refine aJ.kS 50 [1,5] (fun a:Nat=>[(9,.int a),(6,.own 1)]) (fun a=>[(0,.box 27 11 (.dat (.dw p))),(1,fP (A++TD p.states.length p.values.length a))]) (fun a=>a<=p.states.length) (fun a=>p.states.length-a) 0 [0,1] rfl (by decide) (fun _=>rfl) (Nat.zero_le _) ?_ ?_ ?_
  ·exact⟨⟨_,rfl,.eq rfl⟩,⟨_,rfl,.eq rfl⟩,trivial⟩
  ·refine⟨okF rfl nofun rfl rfl rfl ⟨rfl,rfl⟩ rfl,okF rfl nofun rfl rfl rfl ⟨rfl,rfl⟩ ?_,trivial⟩
   rw[show A++TD p.states.length p.values.length 0=A from List.append_nil _]
  conv=>whnf
  refine⟨⟨⟨_,rfl,.eq rfl⟩,⟨_,rfl,.eq rfl⟩,trivial⟩,rfl,?_⟩
  rintro a ha
  conv=>whnf
  refine⟨fun h4=>?_,fun h4=>?_⟩
  ·have ha':a<p.states.length:=by simpa using h4
   obtain⟨B,hB⟩: ∃ B,B=A++TD p.states.length p.values.length a:=⟨_,rfl⟩
   have hBl:B.length<=200:=by have:=ED (ns:=p.states.length) hs hv a; rw[hB,List.length_append]; omega
   have hfB:A++TD p.states.length p.values.length (a+1)=B++Dl p.states.length p.values.length a (p.values.length+1):=by rw[hB,List.append_assoc]; exact congrArg (A++ ·) gW
   rw[<- hB]
   conv=>whnf
   refine aJ.kS 100 [1,5,9] (fun i:Nat=>[(10,.int i),(6,.own 1)]) (fun i=>[(0,.box 27 11 (.dat (.dw p))),(1,fP (B++Dl p.states.length p.values.length a i))]) (fun i=>i<=p.values.length+1) (fun i=>p.values.length+1-i) 0 [0,1] rfl (by decide) (fun _=>rfl) (Nat.zero_le _) ?_ ?_ ?_
   ·exact⟨⟨_,rfl,.eq rfl⟩,⟨_,rfl,.eq rfl⟩,trivial⟩
   ·refine⟨okF rfl nofun rfl rfl rfl ⟨rfl,rfl⟩ rfl,okF rfl nofun rfl rfl rfl ⟨rfl,rfl⟩ ?_,trivial⟩
    rw[show B++Dl p.states.length p.values.length a 0=B from List.append_nil _]
   conv=>whnf
   refine⟨⟨⟨_,rfl,.eq rfl⟩,⟨_,rfl,.eq rfl⟩,⟨_,rfl,.eq rfl⟩,trivial⟩,rfl,?_⟩
   rintro i hi
   have YH:=FU (nv:=p.values.length) (a:=a) hs i
   have hla:(B++Dl p.states.length p.values.length a i).length<=228:=by rw[List.length_append]; omega
   conv=>whnf
   refine⟨fun h5=>?_,fun h5=>?_⟩
   ·have hi':i<p.values.length+1:=by rw[<- hvl]; simpa using h5
    obtain⟨D,hD⟩: ∃ D,D=B++Dl p.states.length p.values.length a i:=⟨_,rfl⟩
    have hfD:B++Dl p.states.length p.values.length a (i+1)=(D++[ny [[(a:Int)]] (dS p.values.length i) []])++dW p.states.length fun x=>[ny [[(a:Int)]] (dS p.values.length i) [(x:Int)]]:=by rw[hD,List.append_assoc,List.append_assoc]; exact congrArg (B++ ·) gW
    rw[<- hD] at hla ⊢
    conv=>whnf
    repeat(refine VC.mk (by first|(show(D.length+(0+1))*72<=140737488355328/\D.length+(0+1)<=1152921504606846976; omega)|(simp only[Rw.rng] at *; first|omega|(simp_all; done)|(simp_all; omega))) ?_; conv=>whnf)
    refine aJ.Nv (h2:=[(0,some (.box 27 11 (.dat (.dw p)))),(114,some (.row 36 4 (.clauses (D)) [.agg [.pR 0 false [zC a],.row 0 false (.ints (dS p.values.length i)),.row 0 true .nil]]))]) ⟨fun i=>i=107,bW (Z:=fun i=>i=107) (i:=0) rfl (by decide),yw (Z:=fun i=>i=107) (i:=114) rfl (by decide) ⟨nO rfl rfl (by decide) rfl,ak _,ak _,trivial⟩ rfl rfl,trivial⟩ ?_
    refine aJ.Nv (h2:=[(0,some (.box 27 11 (.dat (.dw p)))),(114,some (fP (D++[ny [[(a:Int)]] (dS p.values.length i) []])))]) ⟨fun _=>False,bW (Z:=fun _=>False) (i:=0) rfl (fun q=>q),yx (Z:=fun _=>False) (i:=114) rfl (fun q=>q) (IU dP) rfl rfl,trivial⟩ ?_
    obtain⟨E,hE⟩: ∃ E,E=D++[ny [[(a:Int)]] (dS p.values.length i) []]:=⟨_,rfl⟩
    have hEl:E.length<=229:=by rw[hE,List.length_append,List.length_singleton]; omega
    rw[<- hE] at hfD ⊢
    refine aJ.YE 150 [1,5,9,10] (fun x:Nat=>[(11,.int x),(6,.own 1)]) (fun x=>[(0,.box 27 11 (.dat (.dw p))),(1,fP (E++dW x fun x=>[ny [[(a:Int)]] (dS p.values.length i) [(x:Int)]]))]) (fun x=>x<=p.states.length) (fun x=>p.states.length-x) 0 [0,114] rfl (by decide) (fun _=>rfl) (Nat.zero_le _) ?_ ?_ ?_
    ·exact⟨⟨_,rfl,.eq rfl⟩,⟨_,rfl,.eq rfl⟩,trivial⟩
    ·refine⟨okF rfl nofun rfl rfl rfl ⟨rfl,rfl⟩ rfl,okF rfl nofun rfl rfl rfl ⟨rfl,rfl⟩ ?_,trivial⟩
     rw[show(E++dW 0 fun x=>[ny [[(a:Int)]] (dS p.values.length i) [(x:Int)]])=E from List.append_nil _]
    conv=>whnf
    refine⟨⟨⟨_,rfl,.eq rfl⟩,⟨_,rfl,.eq rfl⟩,⟨_,rfl,.eq rfl⟩,⟨_,rfl,.eq rfl⟩,trivial⟩,rfl,?_⟩
    rintro x hx
    have hxl:=sD (n:=x) (f:=fun x:Nat=>ny [[(a:Int)]] (dS p.values.length i) [(x:Int)])
    have hxa:(E++dW x fun x=>[ny [[(a:Int)]] (dS p.values.length i) [(x:Int)]]).length=E.length+x:=by rw[List.length_append,hxl]
    conv=>whnf
    refine⟨fun h6=>?_,fun h6=>?_⟩
    ·have hx':x<p.states.length:=by simpa using h6
     conv=>whnf
     repeat(refine VC.mk (by first|(show((E++dW x fun x=>[ny [[(a:Int)]] (dS p.values.length i) [(x:Int)]]).length+(0+1))*72<=140737488355328/\(E++dW x fun x=>[ny [[(a:Int)]] (dS p.values.length i) [(x:Int)]]).length+(0+1)<=1152921504606846976; omega)|(simp only[okI,Rw.rng] at *; first|omega|(simp_all; done)|(simp_all; omega))) ?_; conv=>whnf)
     refine⟨[(0,some (.box 27 11 (.dat (.dw p)))),(167,some (.row 36 4 (.clauses (E++dW x fun x=>[ny [[(a:Int)]] (dS p.values.length i) [(x:Int)]])) [.agg [.pR 0 false [zC a],.row 0 false (.ints (dS p.values.length i)),zC x]]))],[(0,some (.box 27 11 (.dat (.dw p)))),(167,some (fP ((E++dW x fun x=>[ny [[(a:Int)]] (dS p.values.length i) [(x:Int)]])++[ny [[(a:Int)]] (dS p.values.length i) [(x:Int)]])))],x+1,[0,167],⟨fun i=>i=158,bW (Z:=fun i=>i=158) (i:=0) rfl (by decide),yw (Z:=fun i=>i=158) (i:=167) rfl (by decide) ⟨nO rfl rfl (by decide) rfl,ak _,ak _,trivial⟩ rfl rfl,trivial⟩,⟨fun _=>False,bW (Z:=fun _=>False) (i:=0) rfl (fun q=>q),yx (Z:=fun _=>False) (i:=167) rfl (fun q=>q) (IU dX) rfl rfl,trivial⟩,by omega,by omega,⟨⟨_,rfl,.eq rfl⟩,⟨_,rfl,.eq rfl⟩,trivial⟩,⟨⟨_,rfl,.eq rfl⟩,⟨_,rfl,.eq rfl⟩,⟨_,rfl,.eq rfl⟩,⟨_,rfl,.eq rfl⟩,trivial⟩,okF rfl nofun rfl rfl rfl ⟨rfl,rfl⟩ rfl,okF rfl nofun rfl rfl rfl ⟨rfl,rfl⟩ ?_,trivial⟩
     rw[FY,<- List.append_assoc]
    ·have hx':x=p.states.length:=by have: ¬ ((x:Int)<(p.states.length:Int)):=of_decide_eq_false h6; omega
     subst hx'
     conv=>whnf
     refine .mk (by simp only[okI] at *; first|omega|(simp_all; done)|(simp_all; omega)) ?_
     conv=>whnf
     refine⟨i+1,[0,1],by omega,by omega,⟨⟨_,rfl,.eq rfl⟩,⟨_,rfl,.eq rfl⟩,trivial⟩,⟨⟨_,rfl,.eq rfl⟩,⟨_,rfl,.eq rfl⟩,⟨_,rfl,.eq rfl⟩,trivial⟩,okF rfl nofun rfl rfl rfl ⟨rfl,rfl⟩ rfl,okF rfl nofun rfl rfl rfl ⟨rfl,rfl⟩ ?_,trivial⟩
     rw[hfD]
   ·have hi':i=p.values.length+1:=by have: ¬ ((i:Int)<((kT p.values.length).length:Int)):=of_decide_eq_false h5; omega
    subst hi'
    conv=>whnf
    refine .mk (by simp only[okI] at *; first|omega|(simp_all; done)|(simp_all; omega)) ?_
    conv=>whnf
    refine⟨a+1,[0,1],by omega,by omega,⟨⟨_,rfl,.eq rfl⟩,⟨_,rfl,.eq rfl⟩,trivial⟩,⟨⟨_,rfl,.eq rfl⟩,⟨_,rfl,.eq rfl⟩,trivial⟩,okF rfl nofun rfl rfl rfl ⟨rfl,rfl⟩ rfl,okF rfl nofun rfl rfl rfl ⟨rfl,rfl⟩ ?_,trivial⟩
    rw[hfB]
  ·have ha':a=p.states.length:=by have: ¬ ((a:Int)<(p.states.length:Int)):=of_decide_eq_false h4; omega
   subst ha'
   obtain⟨A2,hA2⟩: ∃ A2,A2=A++TD p.states.length p.values.length p.states.length:=⟨_,rfl⟩
   have acg:A2.length<=200:=by have:=ED (ns:=p.states.length) hs hv p.states.length; rw[hA2,List.length_append]; omega
   have hcd:vN p.states.length p.values.length=A2++TF p.states.length p.values.length p.states.length:=by rw[hA2,hA]; rfl
   rw[hcd,<- hA2]
   conv=>whnf
   refine aJ.kS 50 [1,5] (fun a:Nat=>[(12,.int a),(6,.own 1)]) (fun a=>[(0,.box 27 11 (.dat (.dw p))),(1,fP (A2++TF p.states.length p.values.length a))]) (fun a=>a<=p.states.length) (fun a=>p.states.length-a) 0 [0,1] rfl (by decide) (fun _=>rfl) (Nat.zero_le _) ?_ ?_ ?_
   ·exact⟨⟨_,rfl,.eq rfl⟩,⟨_,rfl,.eq rfl⟩,trivial⟩
   ·refine⟨okF rfl nofun rfl rfl rfl ⟨rfl,rfl⟩ rfl,okF rfl nofun rfl rfl rfl ⟨rfl,rfl⟩ ?_,trivial⟩
    rw[show A2++TF p.states.length p.values.length 0=A2 from List.append_nil _]
   conv=>whnf
   refine⟨⟨⟨_,rfl,.eq rfl⟩,⟨_,rfl,.eq rfl⟩,trivial⟩,rfl,?_⟩
   rintro a ha
   have hca:=JC (ns:=p.states.length) hs hv a
   conv=>whnf
   refine⟨fun h5=>?_,fun h5=>?_⟩
   ·have ha':a<p.states.length:=by simpa using h5
    obtain⟨G,hG⟩: ∃ G,G=A2++TF p.states.length p.values.length a:=⟨_,rfl⟩
    have hGl:G.length<=360:=by rw[hG,List.length_append]; omega
    have hfG:A2++TF p.states.length p.values.length (a+1)=G++Ep p.values.length a (p.states.length-a):=by rw[hG,List.append_assoc]; exact congrArg (A2++ ·) gW
    rw[<- hG]
    conv=>whnf
    refine aJ.kS 100 [1,5,12] (fun k:Nat=>[(13,.int (a+k:Nat)),(6,.own 1)]) (fun k=>[(0,.box 27 11 (.dat (.dw p))),(1,fP (G++Ep p.values.length a k))]) (fun k=>a+k<=p.states.length) (fun k=>p.states.length-k) 0 [0,1] rfl (by decide) (fun _=>rfl) (by omega) ?_ ?_ ?_
    ·exact⟨⟨_,rfl,.eq rfl⟩,⟨_,rfl,.eq rfl⟩,trivial⟩
    ·refine⟨okF rfl nofun rfl rfl rfl ⟨rfl,rfl⟩ rfl,okF rfl nofun rfl rfl rfl ⟨rfl,rfl⟩ ?_,trivial⟩
     rw[show G++Ep p.values.length a 0=G from List.append_nil _]
    conv=>whnf
    refine⟨⟨⟨_,rfl,.eq rfl⟩,⟨_,rfl,.eq rfl⟩,⟨_,rfl,.eq rfl⟩,trivial⟩,rfl,?_⟩
    rintro k hk
    have hck:=FW (a:=a) hv k
    conv=>whnf
    refine⟨fun h6=>?_,fun h6=>?_⟩
    ·have hk':a+k<p.states.length:=by have:((a+k:Nat):Int)<(p.states.length:Int):=of_decide_eq_true h6; omega
     obtain⟨H,hH⟩: ∃ H,H=G++Ep p.values.length a k:=⟨_,rfl⟩
     have hHl:H.length<=400:=by rw[hH,List.length_append]; omega
     have hfH:G++Ep p.values.length a (k+1)=H++wQ p.values.length a (a+k) (p.values.length+1):=by rw[hH,List.append_assoc]; exact congrArg (G++ ·) gW
     rw[<- hH]
     conv=>whnf
     refine aJ.YE 150 [1,5,12,13] (fun i:Nat=>[(14,.int i),(6,.own 1)]) (fun i=>[(0,.box 27 11 (.dat (.dw p))),(1,fP (H++wQ p.values.length a (a+k) i))]) (fun i=>i<=p.values.length+1) (fun i=>p.values.length+1-i) 0 [0,1] rfl (by decide) (fun _=>rfl) (Nat.zero_le _) ?_ ?_ ?_
     ·exact⟨⟨_,rfl,.eq rfl⟩,⟨_,rfl,.eq rfl⟩,trivial⟩
     ·refine⟨okF rfl nofun rfl rfl rfl ⟨rfl,rfl⟩ rfl,okF rfl nofun rfl rfl rfl ⟨rfl,rfl⟩ ?_,trivial⟩
      rw[show H++wQ p.values.length a (a+k) 0=H from List.append_nil _]
     conv=>whnf
     refine⟨⟨⟨_,rfl,.eq rfl⟩,⟨_,rfl,.eq rfl⟩,⟨_,rfl,.eq rfl⟩,⟨_,rfl,.eq rfl⟩,trivial⟩,rfl,?_⟩
     rintro i hi
     have hci:=FV (nv:=p.values.length) (a:=a) (b:=a+k) i
     have hxa:(H++wQ p.values.length a (a+k) i).length=H.length+(wQ p.values.length a (a+k) i).length:=List.length_append
     conv=>whnf
     refine⟨fun h7=>?_,fun h7=>?_⟩
     ·have hi':i<p.values.length+1:=by rw[<- hvl]; simpa using h7
      conv=>whnf
      repeat(refine VC.mk (by first|(show((H++wQ p.values.length a (a+k) i).length+(0+1))*72<=140737488355328/\(H++wQ p.values.length a (a+k) i).length+(0+1)<=1152921504606846976; omega)|(simp only[okI,Rw.rng] at *; first|omega|(simp_all; done)|(simp_all; omega))) ?_; conv=>whnf)
      refine⟨[(0,some (.box 27 11 (.dat (.dw p)))),(166,some (.row 36 4 (.clauses (H++wQ p.values.length a (a+k) i)) [.agg [.pR 0 false [zC a,zC (a+k:Nat)],.row 0 false (.ints (dS p.values.length i)),.row 0 true .nil]]))],[(0,some (.box 27 11 (.dat (.dw p)))),(166,some (fP ((H++wQ p.values.length a (a+k) i)++[ny [[(a:Int)],[((a+k:Nat):Int)]] (dS p.values.length i) []])))],i+1,[0,166],⟨fun i=>i=159,bW (Z:=fun i=>i=159) (i:=0) rfl (by decide),yw (Z:=fun i=>i=159) (i:=166) rfl (by decide) ⟨nO rfl rfl (by decide) rfl,ak _,ak _,trivial⟩ rfl rfl,trivial⟩,⟨fun _=>False,bW (Z:=fun _=>False) (i:=0) rfl (fun q=>q),yx (Z:=fun _=>False) (i:=166) rfl (fun q=>q) Rl rfl rfl,trivial⟩,by omega,by omega,⟨⟨_,rfl,.eq rfl⟩,⟨_,rfl,.eq rfl⟩,trivial⟩,⟨⟨_,rfl,.eq rfl⟩,⟨_,rfl,.eq rfl⟩,⟨_,rfl,.eq rfl⟩,⟨_,rfl,.eq rfl⟩,trivial⟩,okF rfl nofun rfl rfl rfl ⟨rfl,rfl⟩ rfl,okF rfl nofun rfl rfl rfl ⟨rfl,rfl⟩ ?_,trivial⟩
      rw[show wQ p.values.length a (a+k) (i+1)=wQ p.values.length a (a+k) i++[ny [[(a:Int)],[((a+k:Nat):Int)]] (dS p.values.length i) []] from gW,<- List.append_assoc]
     ·have hi':i=p.values.length+1:=by have: ¬ ((i:Int)<((kT p.values.length).length:Int)):=of_decide_eq_false h7; omega
      subst hi'
      conv=>whnf
      refine .mk (by simp only[okI] at *; first|omega|(simp_all; done)|(simp_all; omega)) ?_
      conv=>whnf
      refine⟨k+1,[0,1],by omega,by omega,⟨⟨_,rfl,.eq rfl⟩,⟨_,rfl,.eq rfl⟩,trivial⟩,⟨⟨_,rfl,.eq rfl⟩,⟨_,rfl,.eq rfl⟩,⟨_,rfl,.eq rfl⟩,trivial⟩,okF rfl nofun rfl rfl rfl ⟨rfl,rfl⟩ rfl,okF rfl nofun rfl rfl rfl ⟨rfl,rfl⟩ ?_,trivial⟩
      rw[hfH]
    ·have hk':k=p.states.length-a:=by have: ¬ (((a+k:Nat):Int)<(p.states.length:Int)):=of_decide_eq_false h6; omega
     subst hk'
     conv=>whnf
     refine .mk (by simp only[okI] at *; first|omega|(simp_all; done)|(simp_all; omega)) ?_
     conv=>whnf
     refine⟨a+1,[0,1],by omega,by omega,⟨⟨_,rfl,.eq rfl⟩,⟨_,rfl,.eq rfl⟩,trivial⟩,⟨⟨_,rfl,.eq rfl⟩,⟨_,rfl,.eq rfl⟩,trivial⟩,okF rfl nofun rfl rfl rfl ⟨rfl,rfl⟩ rfl,okF rfl nofun rfl rfl rfl ⟨rfl,rfl⟩ ?_,trivial⟩
     rw[hfG]
   ·have ha':a=p.states.length:=by have: ¬ ((a:Int)<(p.states.length:Int)):=of_decide_eq_false h5; omega
    subst ha'
    conv=>whnf
    exact aA.acf rfl
abbrev qV(j:Nat):OV:=.box 28 0 (.own j)
abbrev JD:OV:=.box 28 0 (.row 0 true .nil)
abbrev Xk(k:Clause):List V:=[.row 0 false (.iF k.each),.row 0 false (.ints k.values),.row 0 false (.ints k.some),.ptr 0 0 0]
theorem S.add_nil(k:Clause)(hk:kE k):aP Tryz.prog 38 (V.aT (Xk k)) (Hz.aj [(0,some JD)]) 1 (fun t hp=>t=(V.fO []).aG/\hp=Hz.aj [(0,some (qV 1)),(1,some (fP [k]))]):=by
 refine oK.of (nx:=1) (h0:=[(0,some JD)]) Bd.iG (by simp) ⟨_,_,rfl,rfl⟩ rfl rfl ?_
 conv=>whnf
 refine ah.pure (S.fK k hk) rfl ?_
 conv=>whnf
 conv=>whnf
 refine .mk (by show(0+(0+1))*72<=140737488355328/\0+(0+1)<=1152921504606846976; omega) ?_
 conv=>whnf
 exact jG.boxed (c:=8) (o2:=fP [k]) rfl rfl (by decide) rfl (by decide) rfl rfl rfl rfl rfl rfl ⟨rfl,rfl⟩
theorem S.Xl(l:List Clause)(k:Clause)(hk:kE k)(hl:l.length<2^20):aP Tryz.prog 38 (V.aT (Xk k)) (Hz.aj [(0,some (qV 1)),(1,some (fP l))]) 2 (fun t hp=>t=(V.fO []).aG/\hp=Hz.aj [(0,some (qV 2)),(2,some (fP (l++[k])))]):=by
 refine oK.of (nx:=2) (h0:=[(0,some (qV 1)),(1,some (fP l))]) Bd.iG (by simp) ⟨_,_,rfl,rfl⟩ rfl rfl ?_
 conv=>whnf
 refine ah.pure (S.fK k hk) rfl ?_
 conv=>whnf
 conv=>whnf
 refine .mk (by show(l.length+(0+1))*72<=140737488355328/\l.length+(0+1)<=1152921504606846976; omega) ?_
 conv=>whnf
 exact jG.boxed (c:=9) (o2:=fP (l++[k])) rfl rfl (by decide) rfl (by decide) rfl rfl rfl rfl rfl rfl ⟨rfl,rfl⟩
theorem ah.addN{k:Clause}{h:Hz}{B n:Nat}{K:V->Hz->Prop}{KW:Nat->V->Hz->Prop}{args:List V}(hk:kE k)(ha:args=[.row 0 false (.iF k.each),.row 0 false (.ints k.values),.row 0 false (.ints k.some),.ptr B 0 0])(hB:h.get B=some JD)(hn:h.get n=none)
  (hK:K (.fO []) ((B,some (qV n))::(n,some (fP [k]))::h)):ah Tryz.prog false none 38 args h n K KW:=by
 have hBn:B≠n:=by rintro rfl; rw[hB] at hn; cases hn
 subst ha
 refine ah.UM (ts:=Xk k) (pre:=[(0,some JD)]) [B] (S.add_nil k hk) rfl rfl rfl rfl rfl ⟨⟨_,hB,rfl⟩,trivial⟩ hn (by simp[hBn]) ?_
 rintro t hp ⟨rfl,rfl⟩
 exact⟨.fO [],[some (qV n),some (fP [k])],rfl,rfl,⟨rfl,rfl,trivial⟩,hK⟩
theorem ah.ach{l:List Clause}{k:Clause}{h:Hz}{B j n:Nat}{K:V->Hz->Prop}{KW:Nat->V->Hz->Prop}{args:List V}(hk:kE k)(hl:l.length<2^20)(ha:args=[.row 0 false (.iF k.each),.row 0 false (.ints k.values),.row 0 false (.ints k.some),.ptr B 0 0])(hB:h.get B=some (qV j))(hj:h.get j=some (fP l))(hBj:B≠j)(hn:h.get n=none)
  (hK:K (.fO []) ((B,some (qV n))::(j,none)::(n,some (fP (l++[k])))::h)):ah Tryz.prog false none 38 args h n K KW:=by
 have hBn:B≠n:=by rintro rfl; rw[hB] at hn; cases hn
 have hjn:j≠n:=by rintro rfl; rw[hj] at hn; cases hn
 subst ha
 refine ah.UM (ts:=Xk k) (pre:=[(0,some (qV 1)),(1,some (fP l))]) [B,j] (S.Xl l k hk hl) rfl rfl rfl rfl rfl ⟨⟨_,hB,rfl⟩,⟨_,hj,mG rfl _⟩,trivial⟩ hn (by simp[hBj,hBn,hjn]) ?_
 rintro t hp ⟨rfl,rfl⟩
 refine⟨.fO [],[some (qV n),none,some (fP (l++[k]))],rfl,rfl,⟨rfl,rfl,?_,trivial⟩,hK⟩
 exact congrArg some (mG (o:=fP (l++[k])) rfl _).symm
theorem ah.Zv{P:Program}{f:FuncId}{args args':List V}{h h2:Hz}{n:Nat}{K:V->Hz->Prop}{KW:Nat->V->Hz->Prop}(Z:Nat->Prop)(W:ES Z h h2)(hs:T.cu Z h.aj (V.aT args') (V.aT args))(H:ah P false none f args' h2 n K fun _ _ _=>False):ah P false none f args h n K KW:=by
 rcases H.ok with H|⟨_,_,k,⟨_,_,_,_,_,_,hk⟩,_⟩|⟨_,e,_⟩
 ·exact ah.Nv Z W hs (aP.mono H fun t hp ⟨v,h',a,b,_,c⟩=>⟨v,h',a,b,(fun e=>by cases e),c⟩)
 ·exact hk.elim
 ·cases e
abbrev qW(p:aW):OV:=.box 27 11 (.dat (.dw p))
abbrev abb(k:Clause)(B:Nat):List V:=[.row 0 false (.iF k.each),.row 0 false (.ints k.values),.row 0 false (.ints k.some),.ptr B 0 0]
theorem ah.add0{p:aW}{k:Clause}{h:Hz}{n:Nat}{K:V->Hz->Prop}{KW:Nat->V->Hz->Prop}{args:List V}(hk:kE k)(q0:h.get 0=some (qW p))(q2:h.get 2=some JD)(hs:T.cu (fun _=>False) h.aj (V.aT (abb k 2)) (V.aT args))(hn:2<n)
  (hK:K (.fO []) [(2,some (qV n)),(n,some (fP [k])),(0,some (qW p)),(2,some JD)]):ah Tryz.prog false none 38 args h n K KW:=by
 refine ah.Zv (h2:=[(0,some (qW p)),(2,some JD)]) (fun _=>False) ⟨bW (Z:=fun _=>False) q0 (fun q=>q),bW (Z:=fun _=>False) q2 (fun q=>q),trivial⟩ hs ?_
 refine ah.addN (k:=k) hk rfl rfl ?_ hK
 have e0:Nat.beq 0 n=false:=by cases hb:Nat.beq 0 n with|false=>rfl|true=>have:=Nat.eq_of_beq_eq_true hb; omega
 have e2:Nat.beq 2 n=false:=by cases hb:Nat.beq 2 n with|false=>rfl|true=>have:=Nat.eq_of_beq_eq_true hb; omega
 simp only[Hz.get,e0,e2,cond_false]
theorem ah.add1{p:aW}{l:List Clause}{k:Clause}{h:Hz}{r n:Nat}{K:V->Hz->Prop}{KW:Nat->V->Hz->Prop}{args args1:List V}(Z:Nat->Prop)(hk:kE k)(hl:l.length<2^20)(q0:h.get 0=some (qW p))(q2:h.get 2=some (qV r))(qr:h.get r=some (fP l))(z0: ¬ Z 0)(z2: ¬ Z 2)(zr: ¬ Z r)(hr:r=1\/2<r)(hn:2<n)(hrn:r<n)
  (hs1:T.cu Z h.aj (V.aT args1) (V.aT args)) (hs2: ∀ h',T.cu (fun _=>False) h' (V.aT (abb k 2)) (V.aT args1))
  (hK:K (.fO []) [(2,some (qV n)),(r,none),(n,some (fP (l++[k]))),(0,some (qW p)),(2,some (qV r)),(r,some (fP l))]):ah Tryz.prog false none 38 args h n K KW:=by
 have nb: ∀ {a b:Nat},a≠b->Nat.beq a b=false:=fun {a b} hab=>by
  cases hb:Nat.beq a b with|false=>rfl|true=>exact absurd (Nat.eq_of_beq_eq_true hb) hab
 have gr:Hz.get r [(0,some (qW p)),(2,some (qV r)),(r,some (fP l))]=some (fP l):=by
  simp only[Hz.get,nb (show 0≠r by omega),nb (show 2≠r by omega),Nat.beq_refl,cond_false,cond_true]
 refine ah.Zv (h2:=[(0,some (qW p)),(2,some (qV r)),(r,some (fP l))]) Z ⟨bW (Z:=Z) q0 z0,bW (Z:=Z) q2 z2,bW (Z:=Z) qr zr,trivial⟩ hs1 ?_
 refine ah.Zv (h2:=[(0,some (qW p)),(2,some (qV r)),(r,some (fP l))]) (fun _=>False) ⟨bW (Z:=fun _=>False) rfl (fun q=>q),bW (Z:=fun _=>False) rfl (fun q=>q),bW (Z:=fun _=>False) gr (fun q=>q),trivial⟩ (hs2 _) ?_
 refine ah.ach (k:=k) (j:=r) hk hl rfl rfl gr (by omega) ?_ hK
 simp only[Hz.get,nb (show 0≠n by omega),nb (show 2≠n by omega),nb (show r≠n by omega),cond_false]
theorem Dn{e:List (List Int)}{v s:List Int}(h1:e.length<=2)(h2: ∀ i,(e.getD i []).length<=1)(h3:v.length<=1)(h4:s.length<=1):kE (ny e v s):=⟨show e.length<2^30 by omega,fun i=>show(e.getD i []).length<2^30 by have:=h2 i; omega,show v.length<2^30 by omega,show s.length<2^30 by omega⟩
theorem BD{nv i:Nat}:(dS nv i).length<=1:=Og
theorem JE{v s:List Int}(h3:v.length<=1)(h4:s.length<=1):kE (ny [] v s):=Dn (by simp) (fun i=>by simp) h3 h4
theorem UN{a:Int}{v s:List Int}(h3:v.length<=1)(h4:s.length<=1):kE (ny [[a]] v s):=Dn (by simp) (fun i=>by rcases i with _|i<;>simp) h3 h4
theorem Zw{a b:Int}{v s:List Int}(h3:v.length<=1)(h4:s.length<=1):kE (ny [[a],[b]] v s):=Dn (by simp) (fun i=>by rcases i with _|_|i<;>simp) h3 h4
theorem Xm{nv i:Nat}(h:i<nv):dS nv (i+1)=[(i:Int)]:=by
 simp[dS,kT,h]
theorem UO{Z:Nat->Prop}{h:Hp}{a:Int}:T.sub Z h (V.row 0 false (.iF [[a]])).aG (V.pR 0 false [zC a]).aG:=by
 refine⟨.inr ⟨⟨dX,trivial⟩,fun t ht=>?_⟩,.inl rfl,fun h=>h⟩
 obtain⟨x,_,rfl⟩:=List.mem_map.1 ht; rfl
theorem Zx{Z:Nat->Prop}{h:Hp}{a b:Int}:T.sub Z h (V.row 0 false (.iF [[a],[b]])).aG (V.pR 0 false [zC a,zC b]).aG:=by
 refine⟨.inr ⟨⟨dX,dX,trivial⟩,fun t ht=>?_⟩,.inl rfl,fun h=>h⟩
 obtain⟨x,_,rfl⟩:=List.mem_map.1 ht; rfl
theorem S.iq(p:aW)(hp:dM p)(h0:0<p.states.length)(hs:p.states.length<=6)(hv:p.values.length<=3):au Tryz.prog 17 [.dat (.dw p)] (.row 4 false (.clauses (vN p.states.length p.values.length))):=by
 have hvl:=y8 (n:=p.values.length)
 refine au.of Bd.iq (by simp) rfl rfl ?_
 conv=>whnf
 refine ah.pure (S.fU p hp) rfl ?_
 conv=>whnf
 refine aJ.kS 50 [1,3,4,18,19] (fun i:Nat=>[(20,.int i)]) (fun i=>(0,qW p)::match i with|0=>[(2,JD)]|i+1=>[(2,qV 1),(1,fP (IQ p.states.length p.values.length (i+1)))]) (fun i=>i<=p.values.length+1) (fun i=>p.values.length+1-i) 0 [0,2] rfl (by decide) (fun _=>rfl) (Nat.zero_le _) ?_ ?_ ?_
 ·exact⟨⟨_,rfl,.eq rfl⟩,trivial⟩
 ·exact⟨okF rfl nofun rfl rfl rfl ⟨rfl,rfl⟩ rfl,okF rfl nofun rfl rfl rfl ⟨rfl,rfl⟩ rfl,trivial⟩
 conv=>whnf
 refine⟨⟨⟨_,rfl,.eq rfl⟩,⟨_,rfl,.eq rfl⟩,⟨_,rfl,.eq rfl⟩,⟨_,rfl,.eq rfl⟩,⟨_,rfl,.eq rfl⟩,trivial⟩,rfl,?_⟩
 rintro(_|i) hi
 ·conv=>whnf
  refine⟨fun h3=>?_,fun h3=>?_⟩
  ·conv=>whnf
   refine .mk (by simp only[Rw.rng] at *; first|omega|(simp_all; done)|(simp_all; omega)) ?_
   conv=>whnf
   refine Fork.mk (fun q=>absurd (q.symm.trans ((rfl:decide ((0:Int)<0)=false))).symm Bool.false_ne_true) (fun _=>?_)
   conv=>whnf
   refine aJ.kS 100 [1,3,4,6,18,19,20,32] (fun y:Nat=>[(33,.int y)]) (fun y=>(0,qW p)::match y with|0=>[(2,JD)]|y+1=>[(2,qV 1),(1,fP (dW (y+1) fun x=>[ny [] [] [(x:Int)]]))]) (fun y=>y<=p.states.length) (fun y=>p.states.length-y) 0 [0,2] rfl (by decide) (fun _=>rfl) (Nat.zero_le _) ?_ ?_ ?_
   ·exact⟨⟨_,rfl,.eq rfl⟩,trivial⟩
   ·exact⟨okF rfl nofun rfl rfl rfl ⟨rfl,rfl⟩ rfl,okF rfl nofun rfl rfl rfl ⟨rfl,rfl⟩ rfl,trivial⟩
   conv=>whnf
   refine⟨⟨⟨_,rfl,.eq rfl⟩,⟨_,rfl,.eq rfl⟩,⟨_,rfl,.eq rfl⟩,⟨_,rfl,.eq rfl⟩,⟨_,rfl,.eq rfl⟩,⟨_,rfl,.eq rfl⟩,⟨_,rfl,.eq rfl⟩,⟨_,rfl,.eq rfl⟩,trivial⟩,rfl,?_⟩
   rintro(_|y) hy
   ·conv=>whnf
    refine⟨fun h4=>?_,fun h4=>?_⟩
    ·conv=>whnf
     refine ah.add0 (p:=p) (k:=ny [] [] [(0:Int)]) (JE (by simp) (by simp)) rfl rfl ⟨dP,ak _,dX,ak _,trivial⟩ (by decide) ?_
     conv=>whnf
     refine .mk (by simp only[okI] at *; first|omega|(simp_all; done)|(simp_all; omega)) ?_
     conv=>whnf
     refine⟨0+1,[0,2,107],by omega,by omega,⟨⟨_,rfl,.eq rfl⟩,trivial⟩,⟨⟨_,rfl,.eq rfl⟩,⟨_,rfl,.eq rfl⟩,⟨_,rfl,.eq rfl⟩,⟨_,rfl,.eq rfl⟩,⟨_,rfl,.eq rfl⟩,⟨_,rfl,.eq rfl⟩,⟨_,rfl,.eq rfl⟩,⟨_,rfl,.eq rfl⟩,trivial⟩,okF rfl nofun rfl rfl rfl ⟨rfl,rfl⟩ rfl,⟨rfl,nofun,rfl,rfl,_,rfl,rfl,rfl,aY.of_eq rfl⟩,okF rfl nofun rfl rfl rfl ⟨rfl,rfl⟩ rfl,trivial⟩
    ·have: ¬ (((0:Nat):Int)<(p.states.length:Int)):=of_decide_eq_false h4
     omega
   ·have hxl:=sD (n:=y+1) (f:=fun x:Nat=>ny [] [] [(x:Int)])
    conv=>whnf
    refine⟨fun h4=>?_,fun h4=>?_⟩
    ·have hy':y+1<p.states.length:=by have:((y+1:Nat):Int)<(p.states.length:Int):=of_decide_eq_true h4; omega
     conv=>whnf
     refine ah.add1 (p:=p) (l:=dW (y+1) fun x=>[ny [] [] [(x:Int)]]) (k:=ny [] [] [((y+1:Nat):Int)]) (r:=1) (fun _=>False) (JE (by simp) (by simp)) (by rw[hxl]; omega) rfl rfl rfl (fun q=>q) (fun q=>q) (fun q=>q) (.inl rfl) (by decide) (by decide) (bC _) (fun _=>⟨dP,ak _,dX,ak _,trivial⟩) ?_
     conv=>whnf
     refine .mk (by simp only[okI] at *; first|omega|(simp_all; done)|(simp_all; omega)) ?_
     conv=>whnf
     refine⟨y+1+1,[0,2,107],by omega,by omega,⟨⟨_,rfl,.eq rfl⟩,trivial⟩,⟨⟨_,rfl,.eq rfl⟩,⟨_,rfl,.eq rfl⟩,⟨_,rfl,.eq rfl⟩,⟨_,rfl,.eq rfl⟩,⟨_,rfl,.eq rfl⟩,⟨_,rfl,.eq rfl⟩,⟨_,rfl,.eq rfl⟩,⟨_,rfl,.eq rfl⟩,trivial⟩,okF rfl nofun rfl rfl rfl ⟨rfl,rfl⟩ rfl,⟨rfl,nofun,rfl,rfl,_,rfl,rfl,rfl,aY.of_eq rfl⟩,okF rfl nofun rfl rfl rfl ⟨rfl,rfl⟩ ?_,trivial⟩
     rw[FY (n:=y+1)]
    ·have hy':y+1=p.states.length:=by have: ¬ (((y+1:Nat):Int)<(p.states.length:Int)):=of_decide_eq_false h4; omega
     conv=>whnf
     refine .mk (by simp only[okI] at *; first|omega|(simp_all; done)|(simp_all; omega)) ?_
     conv=>whnf
     refine⟨0+1,[0,2,1],by omega,by omega,⟨⟨_,rfl,.eq rfl⟩,trivial⟩,⟨⟨_,rfl,.eq rfl⟩,⟨_,rfl,.eq rfl⟩,⟨_,rfl,.eq rfl⟩,⟨_,rfl,.eq rfl⟩,⟨_,rfl,.eq rfl⟩,trivial⟩,okF rfl nofun rfl rfl rfl ⟨rfl,rfl⟩ rfl,⟨rfl,nofun,rfl,rfl,_,rfl,rfl,rfl,aY.of_eq rfl⟩,okF rfl nofun rfl rfl rfl ⟨rfl,rfl⟩ ?_,trivial⟩
     rw[show IQ p.states.length p.values.length (0+1)=dW p.states.length fun x=>[ny [] [] [(x:Int)]] from gW.trans rfl,hy']
  ·have: ¬ (((0:Nat):Int)<((kT p.values.length).length:Int)):=of_decide_eq_false h3
   omega
 ·have hkn:IQ p.states.length p.values.length (i+1+1)=IQ p.states.length p.values.length (i+1)++YG (dS p.values.length (i+1)) p.states.length:=gW
  have hla:=BA (nv:=p.values.length) hs (i+1)
  conv=>whnf
  refine⟨fun h3=>?_,fun h3=>?_⟩
  ·have hi':i+1<p.values.length+1:=by have:((i+1:Nat):Int)<((kT p.values.length).length:Int):=of_decide_eq_true h3; omega
   have hvp:=Xm (nv:=p.values.length) (i:=i) (by omega)
   conv=>whnf
   refine .mk (by simp only[Rw.rng] at *; first|omega|(simp_all; done)|(simp_all; omega)) ?_
   conv=>whnf
   refine Fork.mk (fun _=>?_) (fun q=>absurd (q.symm.trans ((by show decide ((0:Int)<((dS p.values.length (i+1)).length:Int))=true; rw[hvp]; rfl))) Bool.false_ne_true)
   conv=>whnf
   refine ah.add1 (p:=p) (l:=IQ p.states.length p.values.length (i+1)) (k:=ny [] (dS p.values.length (i+1)) []) (r:=1) (fun _=>False) (JE BD (by simp)) (by omega) rfl rfl rfl (fun q=>q) (fun q=>q) (fun q=>q) (.inl rfl) (by decide) (by decide) (bC _) (fun _=>⟨dP,ak _,dP,ak _,trivial⟩) ?_
   obtain⟨pre,hpre⟩: ∃ pre,pre=IQ p.states.length p.values.length (i+1)++[ny [] (dS p.values.length (i+1)) []]:=⟨_,rfl⟩
   have hpl:pre.length<=36:=by rw[hpre,List.length_append,List.length_singleton]; omega
   have hfin:IQ p.states.length p.values.length (i+1+1)=pre++dW p.states.length fun x=>[ny [] (dS p.values.length (i+1)) [(x:Int)]]:=by
    rw[hkn,YG,show decide (((dS p.values.length (i+1)).length:Int)>0)=true from by rw[hvp]; rfl,hpre,List.append_assoc]; rfl
   rw[<- hpre]
   conv=>whnf
   refine aJ.kS 100 [1,3,4,6,18,19,20,32] (fun y:Nat=>[(33,.int y)]) (fun y=>[(0,qW p),(2,qV 1),(1,fP (pre++dW y fun x=>[ny [] (dS p.values.length (i+1)) [(x:Int)]]))]) (fun y=>y<=p.states.length) (fun y=>p.states.length-y) 0 [0,2,59] rfl (by decide) (fun _=>rfl) (Nat.zero_le _) ?_ ?_ ?_
   ·exact⟨⟨_,rfl,.eq rfl⟩,trivial⟩
   ·refine⟨okF rfl nofun rfl rfl rfl ⟨rfl,rfl⟩ rfl,⟨rfl,nofun,rfl,rfl,_,rfl,rfl,rfl,aY.of_eq rfl⟩,okF rfl nofun rfl rfl rfl ⟨rfl,rfl⟩ ?_,trivial⟩
    rw[show(pre++dW 0 fun x=>[ny [] (dS p.values.length (i+1)) [(x:Int)]])=pre from List.append_nil _]
   conv=>whnf
   refine⟨⟨⟨_,rfl,.eq rfl⟩,⟨_,rfl,.eq rfl⟩,⟨_,rfl,.eq rfl⟩,⟨_,rfl,.eq rfl⟩,⟨_,rfl,.eq rfl⟩,⟨_,rfl,.eq rfl⟩,⟨_,rfl,.eq rfl⟩,⟨_,rfl,.eq rfl⟩,trivial⟩,rfl,?_⟩
   rintro y hy
   have hxl:=sD (n:=y) (f:=fun x:Nat=>ny [] (dS p.values.length (i+1)) [(x:Int)])
   conv=>whnf
   refine⟨fun h4=>?_,fun h4=>?_⟩
   ·have hy':y<p.states.length:=by simpa using h4
    conv=>whnf
    refine ah.add1 (p:=p) (l:=pre++dW y fun x=>[ny [] (dS p.values.length (i+1)) [(x:Int)]]) (k:=ny [] (dS p.values.length (i+1)) [(y:Int)]) (r:=1) (fun _=>False) (JE BD (by simp)) (by rw[List.length_append,hxl]; omega) rfl rfl rfl (fun q=>q) (fun q=>q) (fun q=>q) (.inl rfl) (by decide) (by decide) (bC _) (fun _=>⟨dP,ak _,dX,ak _,trivial⟩) ?_
    conv=>whnf
    refine .mk (by simp only[okI] at *; first|omega|(simp_all; done)|(simp_all; omega)) ?_
    conv=>whnf
    refine⟨y+1,[0,2,107],by omega,by omega,⟨⟨_,rfl,.eq rfl⟩,trivial⟩,⟨⟨_,rfl,.eq rfl⟩,⟨_,rfl,.eq rfl⟩,⟨_,rfl,.eq rfl⟩,⟨_,rfl,.eq rfl⟩,⟨_,rfl,.eq rfl⟩,⟨_,rfl,.eq rfl⟩,⟨_,rfl,.eq rfl⟩,⟨_,rfl,.eq rfl⟩,trivial⟩,okF rfl nofun rfl rfl rfl ⟨rfl,rfl⟩ rfl,⟨rfl,nofun,rfl,rfl,_,rfl,rfl,rfl,aY.of_eq rfl⟩,okF rfl nofun rfl rfl rfl ⟨rfl,rfl⟩ ?_,trivial⟩
    rw[FY,<- List.append_assoc]
   ·have hy':y=p.states.length:=by have: ¬ ((y:Int)<(p.states.length:Int)):=of_decide_eq_false h4; omega
    subst hy'
    conv=>whnf
    refine .mk (by simp only[okI] at *; first|omega|(simp_all; done)|(simp_all; omega)) ?_
    conv=>whnf
    refine⟨i+1+1,[0,2,1],by omega,by omega,⟨⟨_,rfl,.eq rfl⟩,trivial⟩,⟨⟨_,rfl,.eq rfl⟩,⟨_,rfl,.eq rfl⟩,⟨_,rfl,.eq rfl⟩,⟨_,rfl,.eq rfl⟩,⟨_,rfl,.eq rfl⟩,trivial⟩,okF rfl nofun rfl rfl rfl ⟨rfl,rfl⟩ rfl,⟨rfl,nofun,rfl,rfl,_,rfl,rfl,rfl,aY.of_eq rfl⟩,okF rfl nofun rfl rfl rfl ⟨rfl,rfl⟩ ?_,trivial⟩
    rw[hfin]
  ·have hi':i+1=p.values.length+1:=by have: ¬ (((i+1:Nat):Int)<((kT p.values.length).length:Int)):=of_decide_eq_false h3; omega
   obtain⟨A,hA⟩: ∃ A,A=IQ p.states.length p.values.length (p.values.length+1):=⟨_,rfl⟩
   have hAl:A.length<=28:=by have:=BA (nv:=p.values.length) hs (p.values.length+1); rw[hA]; omega
   obtain rfl:i=p.values.length:=by omega
   conv=>whnf
   refine aJ.kS 50 [1,3,4,45] (fun a:Nat=>[(46,.int a)]) (fun a=>[(0,qW p),(2,qV 1),(1,fP (A++TD p.states.length p.values.length a))]) (fun a=>a<=p.states.length) (fun a=>p.states.length-a) 0 [0,2,1] rfl (by decide) (fun _=>rfl) (Nat.zero_le _) ?_ ?_ ?_
   ·exact⟨⟨_,rfl,.eq rfl⟩,trivial⟩
   ·refine⟨okF rfl nofun rfl rfl rfl ⟨rfl,rfl⟩ rfl,⟨rfl,nofun,rfl,rfl,_,rfl,rfl,rfl,aY.of_eq rfl⟩,okF rfl nofun rfl rfl rfl ⟨rfl,rfl⟩ ?_,trivial⟩
    rw[show A++TD p.states.length p.values.length 0=A from List.append_nil _,hA]
   conv=>whnf
   refine⟨⟨⟨_,rfl,.eq rfl⟩,⟨_,rfl,.eq rfl⟩,⟨_,rfl,.eq rfl⟩,⟨_,rfl,.eq rfl⟩,trivial⟩,rfl,?_⟩
   rintro a ha
   have hbl:=ED (ns:=p.states.length) hs hv a
   conv=>whnf
   refine⟨fun h4=>?_,fun h4=>?_⟩
   ·have ha':a<p.states.length:=by simpa using h4
    obtain⟨B,hB⟩: ∃ B,B=A++TD p.states.length p.values.length a:=⟨_,rfl⟩
    have hBl:B.length<=200:=by rw[hB,List.length_append]; omega
    have hfB:A++TD p.states.length p.values.length (a+1)=B++Dl p.states.length p.values.length a (p.values.length+1):=by rw[hB,List.append_assoc]; exact congrArg (A++ ·) gW
    rw[<- hB]
    conv=>whnf
    refine ah.pure (S.fU p hp) rfl ?_
    conv=>whnf
    refine aJ.kS 100 [1,3,4,8,45,46,50,51] (fun i:Nat=>[(52,.int i)]) (fun i=>[(0,qW p),(2,qV 1),(1,fP (B++Dl p.states.length p.values.length a i))]) (fun i=>i<=p.values.length+1) (fun i=>p.values.length+1-i) 0 [0,2,1] rfl (by decide) (fun _=>rfl) (Nat.zero_le _) ?_ ?_ ?_
    ·exact⟨⟨_,rfl,.eq rfl⟩,trivial⟩
    ·refine⟨okF rfl nofun rfl rfl rfl ⟨rfl,rfl⟩ rfl,⟨rfl,nofun,rfl,rfl,_,rfl,rfl,rfl,aY.of_eq rfl⟩,okF rfl nofun rfl rfl rfl ⟨rfl,rfl⟩ ?_,trivial⟩
     rw[show B++Dl p.states.length p.values.length a 0=B from List.append_nil _]
    conv=>whnf
    refine⟨⟨⟨_,rfl,.eq rfl⟩,⟨_,rfl,.eq rfl⟩,⟨_,rfl,.eq rfl⟩,⟨_,rfl,.eq rfl⟩,⟨_,rfl,.eq rfl⟩,⟨_,rfl,.eq rfl⟩,⟨_,rfl,.eq rfl⟩,⟨_,rfl,.eq rfl⟩,trivial⟩,rfl,?_⟩
    rintro i hi
    have YH:=FU (nv:=p.values.length) (a:=a) hs i
    conv=>whnf
    refine⟨fun h5=>?_,fun h5=>?_⟩
    ·have hi':i<p.values.length+1:=by rw[<- hvl]; simpa using h5
     obtain⟨D,hD⟩: ∃ D,D=B++Dl p.states.length p.values.length a i:=⟨_,rfl⟩
     have hDl:D.length<=228:=by rw[hD,List.length_append]; omega
     have hfD:B++Dl p.states.length p.values.length a (i+1)=(D++[ny [[(a:Int)]] (dS p.values.length i) []])++dW p.states.length fun x=>[ny [[(a:Int)]] (dS p.values.length i) [(x:Int)]]:=by rw[hD,List.append_assoc,List.append_assoc]; exact congrArg (B++ ·) gW
     rw[<- hD]
     conv=>whnf
     refine .mk (by simp only[Rw.rng] at *; first|omega|(simp_all; done)|(simp_all; omega)) ?_
     conv=>whnf
     refine ah.add1 (p:=p) (l:=D) (k:=ny [[(a:Int)]] (dS p.values.length i) []) (r:=1) (args1:=[.pR 0 false [zC a],.row 0 false (.ints (dS p.values.length i)),.row 0 true .nil,.ptr 2 0 0]) (fun z=>z=107) (UN BD (by simp)) (by omega) rfl rfl rfl (by decide) (by decide) (by decide) (.inl rfl) (by decide) (by decide) ⟨nO rfl rfl (by decide) rfl,ak _,ak _,ak _,trivial⟩ (fun _=>⟨UO,ak _,dP,ak _,trivial⟩) ?_
     obtain⟨E,hE⟩: ∃ E,E=D++[ny [[(a:Int)]] (dS p.values.length i) []]:=⟨_,rfl⟩
     have hEl:E.length<=229:=by rw[hE,List.length_append,List.length_singleton]; omega
     rw[<- hE] at hfD ⊢
     conv=>whnf
     refine aJ.kS 150 [1,3,4,8,10,45,46,50,51,52,64] (fun y:Nat=>[(65,.int y)]) (fun x=>[(0,qW p),(2,qV 1),(1,fP (E++dW x fun x=>[ny [[(a:Int)]] (dS p.values.length i) [(x:Int)]]))]) (fun x=>x<=p.states.length) (fun x=>p.states.length-x) 0 [0,2,109] rfl (by decide) (fun _=>rfl) (Nat.zero_le _) ?_ ?_ ?_
     ·exact⟨⟨_,rfl,.eq rfl⟩,trivial⟩
     ·refine⟨okF rfl nofun rfl rfl rfl ⟨rfl,rfl⟩ rfl,⟨rfl,nofun,rfl,rfl,_,rfl,rfl,rfl,aY.of_eq rfl⟩,okF rfl nofun rfl rfl rfl ⟨rfl,rfl⟩ ?_,trivial⟩
      rw[show(E++dW 0 fun x=>[ny [[(a:Int)]] (dS p.values.length i) [(x:Int)]])=E from List.append_nil _]
     conv=>whnf
     refine⟨⟨⟨_,rfl,.eq rfl⟩,⟨_,rfl,.eq rfl⟩,⟨_,rfl,.eq rfl⟩,⟨_,rfl,.eq rfl⟩,⟨_,rfl,.eq rfl⟩,⟨_,rfl,.eq rfl⟩,⟨_,rfl,.eq rfl⟩,⟨_,rfl,.eq rfl⟩,⟨_,rfl,.eq rfl⟩,⟨_,rfl,.eq rfl⟩,⟨_,rfl,.eq rfl⟩,trivial⟩,rfl,?_⟩
     rintro x hx
     have hxl:=sD (n:=x) (f:=fun x:Nat=>ny [[(a:Int)]] (dS p.values.length i) [(x:Int)])
     conv=>whnf
     refine⟨fun h6=>?_,fun h6=>?_⟩
     ·have hx':x<p.states.length:=by simpa using h6
      conv=>whnf
      refine ah.add1 (p:=p) (l:=E++dW x fun x=>[ny [[(a:Int)]] (dS p.values.length i) [(x:Int)]]) (k:=ny [[(a:Int)]] (dS p.values.length i) [(x:Int)]) (r:=1) (args1:=[.pR 0 false [zC a],.row 0 false (.ints (dS p.values.length i)),zC x,.ptr 2 0 0]) (fun z=>z=156) (UN BD (by simp)) (by rw[List.length_append,hxl]; omega) rfl rfl rfl (by decide) (by decide) (by decide) (.inl rfl) (by decide) (by decide) ⟨nO rfl rfl (by decide) rfl,ak _,ak _,ak _,trivial⟩ (fun _=>⟨UO,ak _,dX,ak _,trivial⟩) ?_
      conv=>whnf
      refine .mk (by simp only[okI] at *; first|omega|(simp_all; done)|(simp_all; omega)) ?_
      conv=>whnf
      refine⟨x+1,[0,2,160],by omega,by omega,⟨⟨_,rfl,.eq rfl⟩,trivial⟩,⟨⟨_,rfl,.eq rfl⟩,⟨_,rfl,.eq rfl⟩,⟨_,rfl,.eq rfl⟩,⟨_,rfl,.eq rfl⟩,⟨_,rfl,.eq rfl⟩,⟨_,rfl,.eq rfl⟩,⟨_,rfl,.eq rfl⟩,⟨_,rfl,.eq rfl⟩,⟨_,rfl,.eq rfl⟩,⟨_,rfl,.eq rfl⟩,⟨_,rfl,.eq rfl⟩,trivial⟩,okF rfl nofun rfl rfl rfl ⟨rfl,rfl⟩ rfl,⟨rfl,nofun,rfl,rfl,_,rfl,rfl,rfl,aY.of_eq rfl⟩,okF rfl nofun rfl rfl rfl ⟨rfl,rfl⟩ ?_,trivial⟩
      rw[FY,<- List.append_assoc]
     ·have hx':x=p.states.length:=by have: ¬ ((x:Int)<(p.states.length:Int)):=of_decide_eq_false h6; omega
      subst hx'
      conv=>whnf
      refine .mk (by simp only[okI] at *; first|omega|(simp_all; done)|(simp_all; omega)) ?_
      conv=>whnf
      refine⟨i+1,[0,2,1],by omega,by omega,⟨⟨_,rfl,.eq rfl⟩,trivial⟩,⟨⟨_,rfl,.eq rfl⟩,⟨_,rfl,.eq rfl⟩,⟨_,rfl,.eq rfl⟩,⟨_,rfl,.eq rfl⟩,⟨_,rfl,.eq rfl⟩,⟨_,rfl,.eq rfl⟩,⟨_,rfl,.eq rfl⟩,⟨_,rfl,.eq rfl⟩,trivial⟩,okF rfl nofun rfl rfl rfl ⟨rfl,rfl⟩ rfl,⟨rfl,nofun,rfl,rfl,_,rfl,rfl,rfl,aY.of_eq rfl⟩,okF rfl nofun rfl rfl rfl ⟨rfl,rfl⟩ ?_,trivial⟩
      rw[hfD]
    ·have hi':i=p.values.length+1:=by have: ¬ ((i:Int)<((kT p.values.length).length:Int)):=of_decide_eq_false h5; omega
     subst hi'
     conv=>whnf
     refine .mk (by simp only[okI] at *; first|omega|(simp_all; done)|(simp_all; omega)) ?_
     conv=>whnf
     refine⟨a+1,[0,2,1],by omega,by omega,⟨⟨_,rfl,.eq rfl⟩,trivial⟩,⟨⟨_,rfl,.eq rfl⟩,⟨_,rfl,.eq rfl⟩,⟨_,rfl,.eq rfl⟩,⟨_,rfl,.eq rfl⟩,trivial⟩,okF rfl nofun rfl rfl rfl ⟨rfl,rfl⟩ rfl,⟨rfl,nofun,rfl,rfl,_,rfl,rfl,rfl,aY.of_eq rfl⟩,okF rfl nofun rfl rfl rfl ⟨rfl,rfl⟩ ?_,trivial⟩
     rw[hfB]
   ·have ha':a=p.states.length:=by have: ¬ ((a:Int)<(p.states.length:Int)):=of_decide_eq_false h4; omega
    subst ha'
    obtain⟨A2,hA2⟩: ∃ A2,A2=A++TD p.states.length p.values.length p.states.length:=⟨_,rfl⟩
    have acg:A2.length<=200:=by rw[hA2,List.length_append]; omega
    have hcd:vN p.states.length p.values.length=A2++TF p.states.length p.values.length p.states.length:=by rw[hA2,hA]; rfl
    rw[hcd,<- hA2]
    conv=>whnf
    refine aJ.kS 50 [1,3,4,81] (fun a:Nat=>[(82,.int a)]) (fun a=>[(0,qW p),(2,qV 1),(1,fP (A2++TF p.states.length p.values.length a))]) (fun a=>a<=p.states.length) (fun a=>p.states.length-a) 0 [0,2,1] rfl (by decide) (fun _=>rfl) (Nat.zero_le _) ?_ ?_ ?_
    ·exact⟨⟨_,rfl,.eq rfl⟩,trivial⟩
    ·refine⟨okF rfl nofun rfl rfl rfl ⟨rfl,rfl⟩ rfl,⟨rfl,nofun,rfl,rfl,_,rfl,rfl,rfl,aY.of_eq rfl⟩,okF rfl nofun rfl rfl rfl ⟨rfl,rfl⟩ ?_,trivial⟩
     rw[show A2++TF p.states.length p.values.length 0=A2 from List.append_nil _]
    conv=>whnf
    refine⟨⟨⟨_,rfl,.eq rfl⟩,⟨_,rfl,.eq rfl⟩,⟨_,rfl,.eq rfl⟩,⟨_,rfl,.eq rfl⟩,trivial⟩,rfl,?_⟩
    rintro a ha
    have hca:=JC (ns:=p.states.length) hs hv a
    conv=>whnf
    refine⟨fun h5=>?_,fun h5=>?_⟩
    ·have ha':a<p.states.length:=by simpa using h5
     obtain⟨G,hG⟩: ∃ G,G=A2++TF p.states.length p.values.length a:=⟨_,rfl⟩
     have hGl:G.length<=360:=by rw[hG,List.length_append]; omega
     have hfG:A2++TF p.states.length p.values.length (a+1)=G++Ep p.values.length a (p.states.length-a):=by rw[hG,List.append_assoc]; exact congrArg (A2++ ·) gW
     rw[<- hG]
     conv=>whnf
     refine aJ.kS 100 [1,3,4,12,81,82] (fun k:Nat=>[(13,.int (a+k:Nat))]) (fun k=>[(0,qW p),(2,qV 1),(1,fP (G++Ep p.values.length a k))]) (fun k=>a+k<=p.states.length) (fun k=>p.states.length-k) 0 [0,2,1] rfl (by decide) (fun _=>rfl) (by omega) ?_ ?_ ?_
     ·exact⟨⟨_,rfl,.eq rfl⟩,trivial⟩
     ·refine⟨okF rfl nofun rfl rfl rfl ⟨rfl,rfl⟩ rfl,⟨rfl,nofun,rfl,rfl,_,rfl,rfl,rfl,aY.of_eq rfl⟩,okF rfl nofun rfl rfl rfl ⟨rfl,rfl⟩ ?_,trivial⟩
      rw[show G++Ep p.values.length a 0=G from List.append_nil _]
     conv=>whnf
     refine⟨⟨⟨_,rfl,.eq rfl⟩,⟨_,rfl,.eq rfl⟩,⟨_,rfl,.eq rfl⟩,⟨_,rfl,.eq rfl⟩,⟨_,rfl,.eq rfl⟩,⟨_,rfl,.eq rfl⟩,trivial⟩,rfl,?_⟩
     rintro k hk
     have hck:=FW (a:=a) hv k
     conv=>whnf
     refine⟨fun h6=>?_,fun h6=>?_⟩
     ·have hk':a+k<p.states.length:=by have:((a+k:Nat):Int)<(p.states.length:Int):=of_decide_eq_true h6; omega
      obtain⟨H,hH⟩: ∃ H,H=G++Ep p.values.length a k:=⟨_,rfl⟩
      have hHl:H.length<=400:=by rw[hH,List.length_append]; omega
      have hfH:G++Ep p.values.length a (k+1)=H++wQ p.values.length a (a+k) (p.values.length+1):=by rw[hH,List.append_assoc]; exact congrArg (G++ ·) gW
      rw[<- hH]
      conv=>whnf
      refine ah.pure (S.fU p hp) rfl ?_
      conv=>whnf
      refine aJ.kS 150 [1,3,4,12,13,81,82,94,95] (fun i:Nat=>[(96,.int i)]) (fun i=>[(0,qW p),(2,qV 1),(1,fP (H++wQ p.values.length a (a+k) i))]) (fun i=>i<=p.values.length+1) (fun i=>p.values.length+1-i) 0 [0,2,1] rfl (by decide) (fun _=>rfl) (Nat.zero_le _) ?_ ?_ ?_
      ·exact⟨⟨_,rfl,.eq rfl⟩,trivial⟩
      ·refine⟨okF rfl nofun rfl rfl rfl ⟨rfl,rfl⟩ rfl,⟨rfl,nofun,rfl,rfl,_,rfl,rfl,rfl,aY.of_eq rfl⟩,okF rfl nofun rfl rfl rfl ⟨rfl,rfl⟩ ?_,trivial⟩
       rw[show H++wQ p.values.length a (a+k) 0=H from List.append_nil _]
      conv=>whnf
      refine⟨⟨⟨_,rfl,.eq rfl⟩,⟨_,rfl,.eq rfl⟩,⟨_,rfl,.eq rfl⟩,⟨_,rfl,.eq rfl⟩,⟨_,rfl,.eq rfl⟩,⟨_,rfl,.eq rfl⟩,⟨_,rfl,.eq rfl⟩,⟨_,rfl,.eq rfl⟩,⟨_,rfl,.eq rfl⟩,trivial⟩,rfl,?_⟩
      rintro i hi
      have hci:=FV (nv:=p.values.length) (a:=a) (b:=a+k) i
      conv=>whnf
      refine⟨fun h7=>?_,fun h7=>?_⟩
      ·have hi':i<p.values.length+1:=by rw[<- hvl]; simpa using h7
       conv=>whnf
       refine .mk (by simp only[Rw.rng] at *; first|omega|(simp_all; done)|(simp_all; omega)) ?_
       conv=>whnf
       refine ah.add1 (p:=p) (l:=H++wQ p.values.length a (a+k) i) (k:=ny [[(a:Int)],[((a+k:Nat):Int)]] (dS p.values.length i) []) (r:=1) (args1:=[.pR 0 false [zC a,zC (a+k:Nat)],.row 0 false (.ints (dS p.values.length i)),.row 0 true .nil,.ptr 2 0 0]) (fun z=>z=159) (Zw BD (by simp)) (by rw[List.length_append]; omega) rfl rfl rfl (by decide) (by decide) (by decide) (.inl rfl) (by decide) (by decide) ⟨nO rfl rfl (by decide) rfl,ak _,ak _,ak _,trivial⟩ (fun _=>⟨Zx,ak _,dP,ak _,trivial⟩) ?_
       conv=>whnf
       refine .mk (by simp only[okI] at *; first|omega|(simp_all; done)|(simp_all; omega)) ?_
       conv=>whnf
       refine⟨i+1,[0,2,161],by omega,by omega,⟨⟨_,rfl,.eq rfl⟩,trivial⟩,⟨⟨_,rfl,.eq rfl⟩,⟨_,rfl,.eq rfl⟩,⟨_,rfl,.eq rfl⟩,⟨_,rfl,.eq rfl⟩,⟨_,rfl,.eq rfl⟩,⟨_,rfl,.eq rfl⟩,⟨_,rfl,.eq rfl⟩,⟨_,rfl,.eq rfl⟩,⟨_,rfl,.eq rfl⟩,trivial⟩,okF rfl nofun rfl rfl rfl ⟨rfl,rfl⟩ rfl,⟨rfl,nofun,rfl,rfl,_,rfl,rfl,rfl,aY.of_eq rfl⟩,okF rfl nofun rfl rfl rfl ⟨rfl,rfl⟩ ?_,trivial⟩
       rw[show wQ p.values.length a (a+k) (i+1)=wQ p.values.length a (a+k) i++[ny [[(a:Int)],[((a+k:Nat):Int)]] (dS p.values.length i) []] from gW,<- List.append_assoc]
      ·have hi':i=p.values.length+1:=by have: ¬ ((i:Int)<((kT p.values.length).length:Int)):=of_decide_eq_false h7; omega
       subst hi'
       conv=>whnf
       refine .mk (by simp only[okI] at *; first|omega|(simp_all; done)|(simp_all; omega)) ?_
       conv=>whnf
       refine⟨k+1,[0,2,1],by omega,by omega,⟨⟨_,rfl,.eq rfl⟩,trivial⟩,⟨⟨_,rfl,.eq rfl⟩,⟨_,rfl,.eq rfl⟩,⟨_,rfl,.eq rfl⟩,⟨_,rfl,.eq rfl⟩,⟨_,rfl,.eq rfl⟩,⟨_,rfl,.eq rfl⟩,trivial⟩,okF rfl nofun rfl rfl rfl ⟨rfl,rfl⟩ rfl,⟨rfl,nofun,rfl,rfl,_,rfl,rfl,rfl,aY.of_eq rfl⟩,okF rfl nofun rfl rfl rfl ⟨rfl,rfl⟩ ?_,trivial⟩
       rw[hfH]
     ·have hk':k=p.states.length-a:=by have: ¬ (((a+k:Nat):Int)<(p.states.length:Int)):=of_decide_eq_false h6; omega
      subst hk'
      conv=>whnf
      refine .mk (by simp only[okI] at *; first|omega|(simp_all; done)|(simp_all; omega)) ?_
      conv=>whnf
      refine⟨a+1,[0,2,1],by omega,by omega,⟨⟨_,rfl,.eq rfl⟩,trivial⟩,⟨⟨_,rfl,.eq rfl⟩,⟨_,rfl,.eq rfl⟩,⟨_,rfl,.eq rfl⟩,⟨_,rfl,.eq rfl⟩,trivial⟩,okF rfl nofun rfl rfl rfl ⟨rfl,rfl⟩ rfl,⟨rfl,nofun,rfl,rfl,_,rfl,rfl,rfl,aY.of_eq rfl⟩,okF rfl nofun rfl rfl rfl ⟨rfl,rfl⟩ ?_,trivial⟩
      rw[hfG]
    ·have ha':a=p.states.length:=by have: ¬ ((a:Int)<(p.states.length:Int)):=of_decide_eq_false h5; omega
     subst ha'
     conv=>whnf
     exact aA.Zm rfl
theorem S.gY(p:aW)(hp:dM p):au Tryz.prog 6 [.dat (.dw p)] (Yw p):=by
 refine au.of Bd.gY (by simp) rfl rfl ?_
 conv=>whnf
 refine ah.pure (S.eP p hp) rfl ?_
 conv=>whnf
 refine⟨fun h1=>?_,fun h1=>?_⟩
 ·rw[PK rfl (by simpa using h1)]
  conv=>whnf
  exact aA.aa8
 rw[UL (yX h1)]
 have hF:=(y7 (yX h1)).1
 conv=>whnf
 refine ah.pure (S.iq p hp hF.pos hF.states hF.values) rfl ?_
 conv=>whnf
 exact aA.eqv rfl
end Go.Proofs.YtbfhebmdcpmfaaaGreatDoor
