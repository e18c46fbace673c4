/-
 What is before a step with a rule: the program's answer. No condition.
-/
import Derived.Test.YtbdbmfccbpfeoabGreatDoorQb
import Derived.Test.YtbdbmfccbpfeoabGreatDoorFa
namespace Go.Proofs.YtbdbmfccbpfeoabGreatDoor
open Go.Ab Go.Proofs
set_option maxRecDepth 100000
def oG(vs:List Int)(cs:List (List Int))(i j:Nat):List Elem:=((vs.take i).flatMap fun v=>cs.map fun c=>(⟨v,c⟩:Elem))++(cs.take j).map fun c=>⟨vs.getD i 0,c⟩
theorem Nv{vs:List Int}{cs:List (List Int)}{i j:Nat}(hi:i<=vs.length)(hj:j<=cs.length):(oG vs cs i j).length=i*cs.length+j:=by
 have: ∀ L:List Int,(L.flatMap fun v=>cs.map fun c=>(⟨v,c⟩:Elem)).length=L.length*cs.length:=by
  intro L;induction L with
  |nil=>simp
  |cons c L ih=>rw[eh,aM,ih,bc,bL,eK,gF]
 unfold oG;rw[aM,this,bc,bE,bE,en hi,en hj]
theorem PU{vs:List Int}{cs:List (List Int)}{i j:Nat}(hj:j<cs.length):oG vs cs i (j+1)=oG vs cs i j++[⟨vs.getD i 0,cs.getD j []⟩]:=by
 unfold oG;rw[bj hj,cm,<- ax,getD_some hj]; rfl
theorem PV{vs:List Int}{cs:List (List Int)}{i:Nat}(hi:i<vs.length):oG vs cs (i+1) 0=oG vs cs i cs.length:=by
 unfold oG;rw[bj hi,cv,bp,getD_some hi];simp
theorem Nw{vs:List Int}{cs:List (List Int)}:oG vs cs vs.length 0=vs.flatMap fun v=>cs.map fun c=>⟨v,c⟩:=by
 unfold oG;rw[bp]; simp
theorem UH{vs:List Int}{cs:List (List Int)}{i j:Nat}{x:Elem}(h:x∈oG vs cs i j):x.counts∈cs:=by
 unfold oG at h;rcases cH.1 h with h|h
 ·obtain⟨v,_,h⟩:=ci.1 h;obtain⟨c,hc,rfl⟩:=av.1 h;exact hc
 ·obtain⟨c,hc,rfl⟩:=av.1 h;exact cU hc
def acM(x:Elem):Bool:= !(x.counts.all zu)
def Ny(x:Int×List Elem):V:=.dQ [.row 3 false (.elems x.2),.int x.1]
theorem Bg{r:Rule}{c:List Int}(hp:oU c.length r)(h0:Oj c)(hl:c.length<=6): ∀ l∈uq r c,l.length=c.length:=by
 intro l hl';obtain⟨d,hd,rfl⟩:=av.1 hl';rw[iY];exact(Ns hp h0 hl d hd).1
set_option maxHeartbeats 2000000 in
theorem S.qA(p:aI)(r:Rule)(e:Elem)(hv:p.values.length<2^20)(hr:vK r)(hp:oU e.counts.length r)(h0:Oj e.counts)(hl0:0<e.counts.length)(hl:e.counts.length<=6)(hx:r.ex.length<=100)(hk:r.kind=1\/r.kind=2\/r.kind=3):aj Tryz.prog 51 [.dat (.fQ p),.dat (.rule r),.dat (.elem e)] (Ny (pO p r e)):=by
 rw[<- aeU];generalize hres:Ny (aeT p r e)=res;have hvl:(kM p r e.value).length<2^21:=by
  unfold kM;cases decide (0<=r.write)&&r.write !=e.value
  ·cases decide (r.write<0)&&(decide (0<=r.read)&&r.read !=e.value)
   ·cases decide (0<=r.read)
    ·cases decide (r.write<0)
     ·show((List.range _).map _).length<_;rw[bc,ef]; omega
     ·exact(by decide:(1:Nat)<2^21)
    ·exact(by decide:(1:Nat)<2^21)
   ·exact(by decide:(0:Nat)<2^21)
  ·exact(by decide:(0:Nat)<2^21)
 have hcl:=Bg hp h0 hl;refine aj.of Bd.qA (by simp) rfl (by rw[<- hres]; rfl) ?_;refine ah.pure (S.kC p r e.value hv) rfl ?_;conv=>whnf
 have hC:aeT p r e=bif (kM p r e.value).length==0 then(0,[]) else bif decide (100<(uq r e.counts).length)||decide (100<(uq r e.counts).length*(kM p r e.value).length) then(4,[]) else
  bif (oG (kM p r e.value) (uq r e.counts) (kM p r e.value).length 0).any acM then(4,[]) else(0,aK (oG (kM p r e.value) (uq r e.counts) (kM p r e.value).length 0)):=by rw[Nw]; rfl
 have hS:=S.kD r e.counts false hr hp h0 hl0 hl hx hk;generalize hvs:kM p r e.value=vs at hC hvl ⊢;generalize hcs:uq r e.counts=cs at hC hcl;refine⟨fun h1=>?_,fun h1=>?_⟩
 ·conv=>whnf
  have h1':(vs.length==0)=true:=by
   have:((vs.length:Int)==0)=true:=h1
   simpa using this
  rw[<- hres,hC,h1'];exact ak.zB
 have h1':(vs.length==0)=false:=by
  have:((vs.length:Int)==0)=false:=h1
  simpa using this
 rw[h1',bO] at hC;refine ah.pure hS PS ?_;unfold Nr;rw[hcs];cases h2:decide (cs.length<=100) with
 |false =>
  have h2':=aL h2;rw[cJ (by omega:100<cs.length),Bool.true_or,bS] at hC;repeat(refine VC.mk (by first|exact id|(intro h; rw[h]; rfl)|(intro h; simp_all; done)) ?_)
  refine Fork.mk (fun _=>?_) (fun q=>absurd (q.symm.trans (rfl)) aq);conv=>whnf
  rw[<- hres,hC];exact ak.zB
 |true =>
  have h2':=ai h2;rw[cF (by omega: ¬ 100<cs.length),cr] at hC;have hmul:cs.length*vs.length<=100*2^21:=f8 h2' (gb hvl);repeat(refine VC.mk (by first|(intro _; refine⟨rfl,rfl,?_⟩; show okI ((cs.length:Int)*(vs.length:Int)); rw[<- gh]; simp only[okI]; omega)|exact fun h=>h|(intro h; rw[h]; rfl)) ?_)
  refine⟨fun h3=>?_,fun h3=>?_⟩
  ·have h3':100<cs.length*vs.length:=by
    replace h3:decide (100<(cs.length:Int)*(vs.length:Int))=true:=h3;have:=ai h3;rw[<- gh] at this;omega
   rw[cJ h3',bS] at hC;conv=>whnf
   rw[<- hres,hC];exact ak.zB
  have h3':cs.length*vs.length<=100:=by
   replace h3:decide (100<(cs.length:Int)*(vs.length:Int))=false:=h3;have:=aL h3;rw[<- gh] at this;omega
  rw[cF (by omega: ¬ 100<cs.length*vs.length),bO] at hC;rw[ft] at h3';refine aA.nil 11 50 3 (by rfl) rfl rfl rfl ?_;refine aA.objs 3 [41,42,9] (fun i:Nat=>[(43,.int i),(11,.own 2)]) (fun i=>[(2,aZ (oG vs cs i 0))]) (fun i=>i<=vs.length/\(oG vs cs i 0).any acM=false) (fun i=>vs.length-i) 0 [37] rfl (by decide) (fun _=>rfl) ⟨ab _,rfl⟩ (sR rfl) ⟨dA rfl rfl,trivial⟩ ?_;refine⟨(sR rfl),rfl,?_⟩;rintro i ⟨hi,hno⟩;have hN0:=Nv hi (ab cs.length);have hN0':i*cs.length<=100:=ez (cp _ hi) h3';refine⟨fun h4=>?_,fun h4=>?_⟩
  ·have hi':i<vs.length:=by simpa using h4
   refine .mk (by simp only[Rw.rng] at *; omega) ?_;refine aA.Ld 3 [47,48,13,41,42,43,9] (fun j:Nat=>[(49,.int j),(11,.own 2)]) (fun j=>[(2,aZ (oG vs cs i j))]) (fun j=>j<=cs.length/\(oG vs cs i j).any acM=false) (fun j=>cs.length-j) 0 [2] [(2,some (aZ (oG vs cs i 0)))] rfl (by decide) (fun _=>rfl) ⟨ab _,hno⟩ (sR rfl) ⟨fun _=>False,dM (Z:=fun _=>False) rfl (fun q=>q),trivial⟩ ⟨FY rfl rfl,trivial⟩ ?_;refine⟨(sR rfl),rfl,?_⟩;rintro j ⟨hj,agR⟩;have hNj:=Nv hi hj;have agP:i*cs.length+j<=100:=by
    have:=cp cs.length hi';rw[eK] at this;omega
   refine⟨fun h5=>?_,fun h5=>?_⟩
   ·have hj':j<cs.length:=by simpa using h5
    have hst:=PU (vs:=vs) (i:=i) hj';have hcj:=hcl (cs.getD j []) (by rw[getD_some hj']; exact be hj');replace hcj:(cs.getD ((j:Int)).toNat []).length=e.counts.length:=hcj;repeat(refine VC.mk (by first|(first|(simp only[jy,jK,Rw.len]; omega)|(show((oG vs cs i j).length+(0+1))*32<=140737488355328/\(oG vs cs i j).length+(0+1)<=1152921504606846976; omega))|(simp only[Rw.rng] at *; omega)) ?_)
    refine ah.pure (S.lq (cs.getD j []) false (by show(cs.getD ((j:Int)).toNat []).length<_; omega)) rfl ?_;refine⟨fun h6=>?_,fun h6=>?_⟩
    ·conv=>whnf
     have hb:(oG vs cs vs.length 0).any acM=true:=by
      rw[bw];refine⟨⟨vs.getD i 0,cs.getD j []⟩,?_,h6⟩;rw[Nw];exact ci.2 ⟨vs.getD i 0,by rw[getD_some hi']; exact be hi',av.2 ⟨cs.getD j [],by rw[getD_some hj']; exact be hj',rfl⟩⟩
     rw[hb,bS] at hC;rw[<- hres,hC];exact ak.zB
    ·conv=>whnf
     refine .mk (by simp only[okI] at *; omega) ?_;refine⟨[(13,some (aZ (oG vs cs i j++[⟨vs.getD i 0,cs.getD j []⟩])))],j+1,[13],⟨fun i=>i=10,Lc (Z:=fun i=>i=10) (i:=13) (j:=10) rfl (by decide) rfl rfl,trivial⟩,⟨hj',?_⟩,by omega,(sR rfl),(sR rfl),okF rfl nofun rfl rfl rfl ⟨rfl,rfl⟩ (by rw[hst]),trivial⟩;rw[hst,dq,agR];show(acM _||false)=false;rw[fc];exact h6
   ·have hj':j=cs.length:=by have:=aL h5; omega
    subst hj';rw[<- PV hi'] at agR ⊢;refine .mk (by simp only[okI] at *; omega) ?_;exact⟨i+1,[2],⟨hi',agR⟩,by omega,(sR rfl),(sR rfl),dA rfl rfl,trivial⟩
  ·have hi':i=vs.length:=by have:=aL h4; omega
   subst hi';rw[hno,bO] at hC;rw[<- hres,hC];refine ah.shut (fun _=>True) (h2:=[]) trivial (S.lN (oG vs cs vs.length 0) false (by omega) (fun x hx=>by have:=hcl _ (UH hx); omega)) ⟨CG trivial rfl,trivial⟩ ?_;exact ak.eqv rfl
theorem aeY: ∀ {l:List Int},Ig l=true->l.Pairwise (· < ·):=by
 intro l;induction l with
 |nil=>intro _; exact .nil
 |cons a r ih =>
  intro h;cases r with
  |nil=>exact List.pairwise_singleton ..
  |cons b r =>
   simp only[Ig,aD,ag] at h;have h2:=ih h.2;refine dj.2 ⟨fun x hx=>?_,h2⟩;rcases br.1 hx with rfl|hx
   ·exact h.1
   ·have:=(dj.1 h2).1 x hx; omega
theorem agS{n:Int}: ∀ {l:List Int} {k:Int},l.Pairwise (· < ·)->(∀ x∈l,k<=x/\x<n)->k<=n->k+l.length<=n:=by
 intro l;induction l with
 |nil=>intro k _ _ h; simp; exact h
 |cons a r ih =>
  intro k hp hx hk;have ha:=hx a (by simp);have:=ih (k:=a+1) (dj.1 hp).2 (fun x h=>⟨(dj.1 hp).1 x h,(hx x (by simp[h])).2⟩) (by omega);rw[bL]; omega
theorem aeZ{l:List Int}{n:Int}(h:jf l n=0):Ig l=true:=by
 unfold jf at h;obtain⟨_,h⟩:=bz (fun _=>by decide) h;cases hb:Ig l with
 |true=>rfl
 |false=>rw[hb] at h; exact absurd h (by decide)
structure afG(n:Nat)(p:aI)(r:Rule):Prop where
 rf:aaJ n p r
 nd:r.ex.Nodup
 xl:r.ex.length<=n
theorem JJ{p:aI}{i:Nat}(hv:Qc p)(ht:p.topology=1)(hi:i<p.rules.length):afG p.states.length p (p.rules.getD i default):=by
 have hf:=YtbdbmfccbpfeoabGreatDoor.ahb hv ht hi
 suffices hh:(p.rules.getD i default).ex.Nodup/\(p.rules.getD i default).ex.length<=p.states.length from⟨hf,hh.1,hh.2⟩
 by_cases hk:(p.rules.getD i default).kind=1
 ·have h:=hv.rule i hi;simp only[gZ] at h;obtain⟨_,h⟩:=bz (fun _=>by decide) h;obtain⟨_,h⟩:=bz (fun _=>by decide) h;obtain⟨_,h⟩:=bz nz h;rw[hk] at h;have g:=lg h;have hs:=aeY (aeZ (g (jf (p.rules.getD i default).ex p.states.length) (by simp)));refine⟨hs.imp fun h=>by omega,?_⟩;have:=agS (k:=0) hs (fun x hx=>hf.place.exs x hx) (by omega);omega
 ·rw[(hf.ex1 hk).1];exact⟨List.nodup_nil,ab _⟩
theorem BL.JJ{p:aI}{e:Elem}(h:BL p e){r:Rule}(hr:r∈p.rules):afG e.counts.length p r:=by
 obtain⟨i,hi,rfl⟩:=eI hr;have:=YtbdbmfccbpfeoabGreatDoor.JJ h.valid (YB h.plain) hi;rw[getD_some hi] at this;rw[h.len]; exact this
theorem UJ{n:Nat}{p:aI}{r:Rule}{v:Int}(hr:aaJ n p r)(hv:0<=v/\v<max 1 (p.values.length:Int)): ∀ u∈kM p r v,0<=u/\u<max 1 (p.values.length:Int):=by
 have ho: ∀ x:Int,pR x p.values.length=false->0<=x/\x<max 1 (p.values.length:Int):=fun x h=>by
  have:=vZ h;omega
 intro u hu;unfold kM at hu;cases h1:decide (0<=r.write)&&r.write !=v with
 |true=>rw[h1] at hu; cases hu
 |false =>
  rw[h1,bO] at hu;cases h2:decide (r.write<0)&&(decide (0<=r.read)&&r.read !=v) with
  |true=>rw[h2] at hu; cases hu
  |false =>
   rw[h2,bO] at hu;cases h3:decide (0<=r.read) with
   |true =>
    rw[h3,bS,bl] at hu;subst hu;have:=ai h3;rcases hr.rd with h|h
    ·exact ho _ h
    ·omega
   |false =>
    rw[h3,bO] at hu;cases h4:decide (r.write<0) with
    |true=>rw[h4,bS,bl] at hu; subst hu; exact hv
    |false =>
     rw[h4,bO,av] at hu;obtain⟨x,hx,rfl⟩:=hu;have:=cL.1 hx;omega
theorem UK{p:aI}{r:Rule}{e:Elem}:(pO p r e).1=0\/(pO p r e).1=4:=by
 unfold pO;cases decide (100<(pG p r e).length)||(pG p r e).any fun x=> !(x.counts.all zu)
 ·exact .inl rfl
 ·exact .inr rfl
theorem Ih{p:aI}{r:Rule}{e:Elem}:(pO p r e).2.length<=100:=by
 unfold pO;cases h:decide (100<(pG p r e).length)||(pG p r e).any fun x=> !(x.counts.all zu) with
 |true=>exact ab _
 |false =>
  rw[bm] at h;have:=aL h.1;exact ez (uI _) (by omega)
theorem UL{p:aI}{r:Rule}{e x:Elem}(hF:BL p e)(hr:r∈p.rules)(h:x∈(pO p r e).2):lI p x=false:=by
 have hX:=hF.JJ hr;have h6:=hF.valid.states;have hl:=hF.len;unfold pO at h;cases hb:decide (100<(pG p r e).length)||(pG p r e).any fun x=> !(x.counts.all zu) with
 |true=>rw[hb] at h; cases h
 |false =>
  rw[hb,bO] at h;rw[bm] at hb;have h:=mQ h;obtain⟨h1,h2⟩:=KG.1 h;have h3:=UJ hX.rf hF.val _ h1;have h4:=Bg hX.rf.place hF.nums (by omega) _ h2;have h5:=co.1 hb.2 x h;unfold lI;rw[show((x.counts.length:Int) !=p.states.length)=false by simp; omega,show decide (x.value<0)=false by simp; omega,show decide (x.value>=max 1 (p.values.length:Int))=false by simp only[am]; omega];simpa using h5
theorem Nz{p:aI}{e x:Elem}(hF:BL p e)(h:lI p x=false):BL p x:=by
 unfold lI at h;simp only[bm] at h;obtain⟨⟨⟨h1,h2⟩,h3⟩,h4⟩:=h;have h1':(x.counts.length:Int)=p.states.length:=by simpa using h1
 refine⟨hF.valid,hF.plain,by omega,fun y hy=>?_,?_⟩
 ·have:x.counts.all zu=true:=by simpa using h2
  have:=bu.1 this y hy;unfold zu at this;simpa using this
 ·have:=aL h3;have:=aL h4;omega
def FZ(p:aI):Int:=bif bJ p !=0 then bJ p else bif (kT p).cover then 0 else 7
theorem Ri{p:aI}{e:Elem}(h1:FZ p=0)(h2:lI p e=false):BL p e:=by
 unfold FZ at h1;obtain⟨h0,h1⟩:=bz nz h1;have hv:bJ p=0:=by simpa using h0
 refine aia (Vs hv ?_ h2);cases hc:(kT p).cover with
 |true=>rfl
 |false=>rw[hc] at h1; exact absurd h1 (by decide)
theorem S.mF(p:aI)(hp:dU p):aj Tryz.prog 98 [.dat (.fQ p)] (.int (FZ p)):=by
 refine aj.of Bd.mF (by simp) rfl rfl ?_;refine ah.pure (S.jA p hp) rfl ?_;repeat(refine VC.mk id ?_)
 refine⟨fun h1=>?_,fun h1=>?_⟩
 ·replace h1:((bJ p==0)&& !(bif bJ p !=0 then RN else kT p).cover)=true:=h1;refine ak.int ?_;rw[aD] at h1;have hv:(bJ p !=0)=false:=by simpa using h1.1
  rw[hv] at h1;unfold FZ;rw[hv,show(kT p).cover=false by simpa using h1.2]; rfl
 ·replace h1:((bJ p==0)&& !(bif bJ p !=0 then RN else kT p).cover)=false:=h1;refine ak.int ?_;unfold FZ;cases hv:(bJ p !=0) with
  |true=>rfl
  |false =>
   have hz:bJ p=0:=by simpa using hv
   rw[hv,hz] at h1;rw[bO,hz]
   have:(kT p).cover=true:=by simpa using h1
   rw[this]; rfl
def RD(p:aI)(i:Int)(e:Elem):Int×List Elem:=bif FZ p !=0 then(FZ p,[]) else bif lI p e then(1,[]) else bif decide (i<0)||decide (i>=p.rules.length) then(6,[]) else pO p (p.rules.getD i.toNat default) e
theorem KL{b:Bool}:(dR b 1 !=0)=b:=by cases b<;>rfl
theorem agT{b:Bool}(h:(dR b 1 !=0)=true):dR b 1=1:=by cases b<;>first|rfl|cases h
set_option maxHeartbeats 1000000 in
theorem S.qV(p:aI)(i:Int)(e:Elem)(hp:dU p)(he:e.counts.length<2^30):aj Tryz.prog 71 [.dat (.fQ p),.int i,.dat (.elem e)] (Ny (RD p i e)):=by
 have hpr:=hp.rules;generalize hres:Ny (RD p i e)=res;refine aj.of Bd.qV (by simp) rfl (by rw[<- hres]; rfl) ?_;refine ah.pure (S.mF p hp) rfl ?_;refine⟨fun h1=>?_,fun h1=>?_⟩
 ·conv=>whnf
  rw[<- hres,RD,h1];exact ak.zB
 refine ah.pure (S.iZ p e hp he) rfl ?_;refine⟨fun h2=>?_,fun h2=>?_⟩
 ·replace h2:(dR (lI p e) 1 !=0)=true:=h2;conv=>whnf
  rw[agT h2];rw[KL] at h2;rw[<- hres,RD,h1,h2];exact ak.zB
 replace h2:(dR (lI p e) 1 !=0)=false:=h2;rw[KL] at h2;have hF:=Ri (BM h1) h2;have h6:=hF.valid.states;have h0:=hF.valid.pos;have hl:=hF.len;repeat(refine VC.mk (by first|exact id|exact fun h=>⟨h,h⟩|(intro h; rw[h]; rfl)) ?_)
 refine⟨fun h3=>?_,fun h3=>?_⟩
 ·replace h3:(decide (i<0)||decide (i>=p.rules.length))=true:=h3;conv=>whnf
  rw[<- hres,RD,h1,h2,h3];exact ak.zB
 ·replace h3:(decide (i<0)||decide (i>=p.rules.length))=false:=h3;have h3':=h3;simp only[bm,am] at h3';have hi:i.toNat<p.rules.length:=by omega
  have hX:=hF.JJ (r:=p.rules.getD i.toNat default) (by rw[getD_some hi]; exact be hi);refine .mk (by simp only[Rw.rng]; omega) ?_;refine ah.pure (S.qA p (p.rules.getD i.toNat default) e hp.values (hp.rule _) hX.rf.place hF.nums (by omega) (by omega) (by have:=hX.xl; omega) hX.rf.kind) rfl ?_;conv=>whnf
  rw[<- hres,RD,h1,h2,h3];exact ak.eqv rfl
def iD(p:aI)(e:Elem)(i:Nat):List Elem:=(p.rules.take i).flatMap fun r=>(pO p r e).2
def jl(p:aI)(e:Elem):Int×List Elem:=bif p.rules.any (fun r=>(pO p r e).1 !=0) then(4,[]) else bif decide (100<(aK (iD p e p.rules.length)).length) then(4,[]) else(0,aK (iD p e p.rules.length))
theorem JK{p:aI}{e:Elem}{i:Nat}(hi:i<p.rules.length):iD p e (i+1)=iD p e i++(pO p (p.rules.getD i default) e).2:=by
 unfold iD;rw[bj hi,cv,getD_some hi]; simp
theorem NC{p:aI}{e:Elem}{i:Nat}:(iD p e i).length<=i*100:=by
 unfold iD
 have: ∀ L:List Rule,(L.flatMap fun r=>(pO p r e).2).length<=L.length*100:=by
  intro L;induction L with
  |nil=>simp
  |cons c L ih=>rw[eh,aM,bL,eK]; have:=@Ih p c e; omega
 exact ez (this _) (cp _ (by rw[bE]; omega))
theorem FH{p:aI}{e x:Elem}{i:Nat}(hF:BL p e)(h:x∈iD p e i):lI p x=false:=by
 obtain⟨r,hr,h⟩:=ci.1 h;exact UL hF (cU hr) h
theorem Rj{p:aI}{x:Elem}(h:lI p x=false):x.counts.length=p.states.length:=by
 unfold lI at h;simp only[bm] at h
 have:(x.counts.length:Int)=p.states.length:=by simpa using h.1.1.1
 omega
set_option maxHeartbeats 1000000 in
theorem S.wX(p:aI)(e:Elem)(hp:dU p)(hF:BL p e):aj Tryz.prog 26 [.dat (.fQ p),.dat (.elem e)] (Ny (jl p e)):=by
 have hpr:=hp.rules;have h6:=hF.valid.states;have h8:=hF.valid.aaI;have h0:=hF.valid.pos;have hl:=hF.len;generalize hres:Ny (jl p e)=res;refine aj.of Bd.wX (by simp) rfl (by rw[<- hres]; rfl) ?_;refine aA.nil 6 50 3 (by rfl) rfl rfl rfl ?_;refine aA.objs 3 [2,3,13,14] (fun i:Nat=>[(15,.int i),(6,.own 2)]) (fun i=>[(0,.box 27 11 (.dat (.fQ p))),(1,.box 50 3 (.dat (.elem e))),(2,aZ (iD p e i))]) (fun i=>i<=p.rules.length/\(p.rules.take i).any (fun r=>(pO p r e).1 !=0)=false) (fun i=>p.rules.length-i) 0 [0,1,9] rfl (by decide) (fun _=>rfl) ⟨ab _,rfl⟩ (sR rfl) ⟨dA rfl rfl,dA rfl rfl,dA rfl rfl,trivial⟩ ?_;refine⟨(sR rfl),rfl,?_⟩;rintro i ⟨hi,hno⟩;have hpl:=NC (p:=p) (e:=e) (i:=i);refine⟨fun h1=>?_,fun h1=>?_⟩
 ·have hi':i<p.rules.length:=by simpa using h1
  have hst:=JK (e:=e) hi';have hmem:p.rules.getD i default∈p.rules:=by rw[getD_some hi']; exact be hi'
  have hX:=hF.JJ hmem;have hlen:=@Ih p (p.rules.getD i default) e;refine .mk (by simp only[Rw.rng] at *; omega) ?_;refine ah.pure (S.qA p (p.rules.getD i default) e hp.values (hp.rule _) hX.rf.place hF.nums (by omega) (by omega) (by have:=hX.xl; omega) hX.rf.kind) rfl ?_;have herr:=@UK p (p.rules.getD i default) e;generalize hq:pO p (p.rules.getD i default) e=q at hst hlen herr;refine⟨fun h2=>?_,fun h2=>?_⟩
  ·replace h2:(q.1 !=0)=true:=h2;conv=>whnf
   have h4:q.1=4:=by
    rcases herr with h|h
    ·rw[h] at h2; cases h2
    ·exact h
   have hany:p.rules.any (fun r=>(pO p r e).1 !=0)=true:=bw.2 ⟨_,hmem,by rw[hq]; exact h2⟩;rw[<- hres,jl,hany,h4];exact ak.zB
  ·replace h2:(q.1 !=0)=false:=h2;repeat(refine VC.mk (by first|(show((iD p e i).length+q.2.length)*32<=140737488355328/\(iD p e i).length+q.2.length<=1152921504606846976; omega)|(simp only[okI] at *; omega)) ?_)
   refine⟨i+1,[0,1,21],⟨hi',?_⟩,by omega,(sR rfl),(sR rfl),dA rfl rfl,dA rfl rfl,⟨rfl,nofun,rfl,rfl,rfl,_,rfl,rfl,rfl,dJ.of_eq (by rw[hst])⟩,trivial⟩;rw[bj hi',dq,hno,cr,<- getD_some (d:=default) hi'];show((pO p (p.rules.getD i default) e).1 !=0||false)=false;rw[hq,h2]; rfl
 ·have hi':i=p.rules.length:=by have:=aL h1; omega
  subst hi';rw[bp] at hno;have hX:jl p e=bif decide (100<(aK (iD p e p.rules.length)).length) then(4,[]) else(0,aK (iD p e p.rules.length)):=by unfold jl; rw[hno]; rfl
  refine ah.shut (fun c=>c=2) (h2:=[]) trivial (S.lN (iD p e p.rules.length) false (by omega) (fun x hx=>by have:=Rj (FH hF hx); omega)) ⟨CG rfl rfl,trivial⟩ ?_;generalize aK (iD p e p.rules.length)=M at hX;refine⟨fun h2=>?_,fun h2=>?_⟩
  ·replace h2:decide (100<(M.length:Int))=true:=h2;have:=ai h2;rw[cJ (by omega:100<M.length),bS] at hX;conv=>whnf
   rw[<- hres,hX];exact ak.zB
  ·replace h2:decide (100<(M.length:Int))=false:=h2;have:=aL h2;rw[cF (by omega: ¬ 100<M.length),bO] at hX;conv=>whnf
   rw[<- hres,hX];exact ak.eqv rfl
def NR(b:List Elem)(y:Elem):Bool:=b.any fun z=>kL z y
def RF(p:aI)(b:List Elem)(i:Int)(x:Elem):Bool:=(RD p i x).1==0&&(RD p i x).2.all (NR b)
def F5(p:aI)(q:Prop')(b:List Elem)(i:Int):Bool:=(cZ p q==0)&& !(decide (i<0)||decide (i>=p.rules.length))&&b.all (RF p b i)
theorem ae0{p:aI}{i:Int}{e:Elem}:(RD p i e).2.length<=100:=by
 unfold RD;cases FZ p !=0
 ·cases lI p e
  ·cases decide (i<0)||decide (i>=p.rules.length)
   ·exact Ih
   ·exact ab _
  ·exact ab _
 ·exact ab _
theorem ae1{p:aI}{i:Int}{e x:Elem}(h:x∈(RD p i e).2):lI p x=false:=by
 unfold RD at h;cases h1:(FZ p !=0) with
 |true=>rw[h1] at h; cases h
 |false =>
  rw[h1] at h;cases h2:lI p e with
  |true=>rw[h2] at h; cases h
  |false =>
   rw[h2] at h;cases h3:decide (i<0)||decide (i>=p.rules.length) with
   |true=>rw[h3] at h; cases h
   |false =>
    rw[h3] at h;simp only[bm,am] at h3;have hi:i.toNat<p.rules.length:=by omega
    exact UL (Ri (BM h1) h2) (by rw[getD_some hi]; exact be hi) h
theorem Ii{α:Type}{P:α->Bool}{l:List α}{i:Nat}{d:α}(h:i<l.length):(l.take (i+1)).all P=((l.take i).all P&&P (l.getD i d)):=by
 rw[bj h,List.all_append,getD_some h]; simp
theorem KN{α:Type}{P:α->Bool}{l:List α}{i:Nat}{d:α}(h:i<l.length)(hp:P (l.getD i d)=false):l.all P=false:=by
 rw[List.all_eq_false];exact⟨_,by rw[getD_some (d:=d) h] at hp; exact be h,by rw[getD_some h] at hp; rw[hp]; decide⟩
def FI(b:List Elem):Prop:= ∀ x∈b,x.counts.length<2^30
theorem FI.E{b:List Elem}(h:FI b):dS b:=fun x hx=>by have:=h x hx; omega
theorem FI.at{b:List Elem}(h:FI b){i:Nat}(hi:i<b.length):(b.getD i default).counts.length<2^30:=by rw[getD_some hi]; exact h _ (be hi)
abbrev Ad(p:aI):OV:=.box 27 11 (.dat (.fQ p))
abbrev Oh(q:Prop'):OV:=.box 30 7 (.dat (.prop q))
set_option maxHeartbeats 1000000 in
theorem S.nO(p:aI)(q:Prop')(b:List Elem)(i:Int)(f:Bool)(hp:dU p)(hq:jm q)(hl:b.length<2^30)(hs:FI b):aj Tryz.prog 42 [.dat (.fQ p),.dat (.prop q),.row 3 f (.elems b),.int i] (.bool (F5 p q b i)):=by
 have hpr:=hp.rules;have hst:=hp.states;generalize hres:F5 p q b i=res;refine aj.of Bd.nO (by simp) rfl rfl ?_;refine ah.pure (S.oW p q hp hq) rfl ?_;refine⟨fun h1=>?_,fun h1=>?_⟩
 ·replace h1:(cZ p q !=0)=true:=h1;refine ak.bool ?_;rw[<- hres]; unfold F5;rw[show(cZ p q==0)=false by simpa using h1]; rfl
 replace h1:(cZ p q !=0)=false:=h1;have h1':(cZ p q==0)=true:=by simpa using h1
 repeat(refine VC.mk (by first|exact id|exact fun h=>⟨h,h⟩|(intro h; rw[h]; rfl)) ?_)
 refine⟨fun h2=>?_,fun h2=>?_⟩
 ·replace h2:(decide (i<0)||decide (i>=p.rules.length))=true:=h2;refine ak.bool ?_;rw[<- hres]; unfold F5;rw[h1',h2]; rfl
 replace h2:(decide (i<0)||decide (i>=p.rules.length))=false:=h2;have hR:F5 p q b i=b.all (RF p b i):=by unfold F5; rw[h1',h2]; rfl
 refine aA.objs 4 [28,29,2,3,4] (fun k:Nat=>[(30,.int k)]) (fun _=>[(0,Ad p),(1,Oh q)]) (fun k=>k<=b.length/\(b.take k).all (RF p b i)=true) (fun k=>b.length-k) 0 [0,1] rfl (by decide) (fun _=>rfl) ⟨ab _,rfl⟩ (sR rfl) ⟨dA rfl rfl,dA rfl rfl,trivial⟩ ?_;refine⟨(sR rfl),rfl,?_⟩;rintro k ⟨hk,hall⟩;refine⟨fun h3=>?_,fun h3=>?_⟩
 ·have hk':k<b.length:=by simpa using h3
  have hnx:=Ii (P:=RF p b i) (d:=default) hk';have hnot:=fun h=>KN (P:=RF p b i) (d:=default) hk' h
  have hle:=hs.at hk';generalize hX:b.getD k default=X at hnx hnot hle;refine .mk (by simp only[Rw.rng] at *; omega) ?_;conv=>whnf
  rw[show b.getD ((k:Int)).toNat default=X from hX];refine ah.pure (S.qV p i X hp hle) rfl ?_;have hlen:=@ae0 p i X;have hfit:=fun x=>@ae1 p i X x
  have hpo:RF p b i X=((RD p i X).1==0&&(RD p i X).2.all (NR b)):=rfl;generalize hY:RD p i X=PY at hlen hfit hpo;refine⟨fun h4=>?_,fun h4=>?_⟩
  ·replace h4:(PY.1 !=0)=true:=h4;refine ak.bool ?_;rw[<- hres,hR]
   have:(PY.1==0)=false:=by simpa using h4
   exact hnot (by rw[hpo,this]; rfl)
  replace h4:(PY.1 !=0)=false:=h4;have h4':(PY.1==0)=true:=by simpa using h4
  refine aA.objs 4 [43,44,28,29,30,2,3,4] (fun j:Nat=>[(45,.int j)]) (fun _=>[(0,Ad p),(1,Oh q)]) (fun j=>j<=PY.2.length/\(PY.2.take j).all (NR b)=true) (fun j=>PY.2.length-j) 0 [0,1] rfl (by decide) (fun _=>rfl) ⟨ab _,rfl⟩ (sR rfl) ⟨dA rfl rfl,dA rfl rfl,trivial⟩ ?_;refine⟨(sR rfl),rfl,?_⟩;rintro j ⟨hj,acN⟩;refine⟨fun h5=>?_,fun h5=>?_⟩
  ·have hj':j<PY.2.length:=by simpa using h5
   have hfj:=Rj (hfit (PY.2.getD j default) (by rw[getD_some hj']; exact be hj'));refine .mk (by simp only[Rw.rng] at *; omega) ?_;refine ah.pure (S.jW b (PY.2.getD j default) f (by omega) hs.E (by omega)) rfl ?_;refine⟨fun h6=>?_,fun h6=>?_⟩
   ·replace h6:(!NR b (PY.2.getD j default))=true:=h6;refine ak.bool ?_;rw[<- hres,hR];refine hnot ?_;rw[hpo,h4',cw];exact KN hj' (by simpa using h6)
   ·replace h6:(!NR b (PY.2.getD j default))=false:=h6;refine .mk (by simp only[okI] at *; omega) ?_;refine⟨j+1,[0,1],⟨hj',by rw[Ii (d:=default) hj',acN,show NR b (PY.2.getD j default)=true by simpa using h6]; rfl⟩,by omega,(sR rfl),(sR rfl),dA rfl rfl,dA rfl rfl,trivial⟩
  ·have hj':j=PY.2.length:=by have:=aL h5; omega
   subst hj';rw[bp] at acN;refine .mk (by simp only[okI] at *; omega) ?_;refine⟨k+1,[0,1],⟨hk',by rw[hnx,hall,hpo,h4',acN]; rfl⟩,by omega,(sR rfl),(sR rfl),dA rfl rfl,dA rfl rfl,trivial⟩
 ·have hk':k=b.length:=by have:=aL h3; omega
  subst hk';rw[bp] at hall;exact ak.bool (by rw[<- hres,hR,hall])
def Bz(p:aI)(q:Prop')(x:Elem):Bool:= !(lI p x)&& !(vW p q x)
def RG(p:aI)(q:Prop')(b:List Elem):Bool:=(cZ p q==0)&&decide (b.length<=100)&&b.all (Bz p q)&&(iR p q).all (NR b)&&(List.range p.rules.length).all fun i:Nat=>F5 p q b i
set_option maxHeartbeats 1000000 in
theorem S.mG(p:aI)(q:Prop')(b:List Elem)(f:Bool)(hp:dU p)(hq:jm q)(hl:b.length<2^30)(hs:FI b):aj Tryz.prog 21 [.dat (.fQ p),.dat (.prop q),.row 3 f (.elems b)] (.bool (RG p q b)):=by
 have hpr:=hp.rules;generalize hres:RG p q b=res;refine aj.of Bd.mG (by simp) rfl rfl ?_;refine ah.pure (S.oW p q hp hq) rfl ?_;repeat(refine VC.mk (by first|exact id|(intro h; rw[h]; rfl)) ?_)
 refine⟨fun h1=>?_,fun h1=>?_⟩
 ·replace h1:(cZ p q !=0||decide (100<(b.length:Int)))=true:=h1;refine ak.bool ?_;rw[<- hres]; unfold RG;rw[cS] at h1;rcases h1 with h1|h1
  ·rw[show(cZ p q==0)=false by simpa using h1]; rfl
  ·have:=ai h1;rw[cF (by omega: ¬ b.length<=100),Bool.and_false]; rfl
 replace h1:(cZ p q !=0||decide (100<(b.length:Int)))=false:=h1;rw[bm] at h1;obtain⟨h1,h1b⟩:=h1;have hlen:=aL h1b;have h1':(cZ p q==0)=true:=by simpa using h1
 have hc0:cZ p q=0:=by simpa using h1
 have hB:RG p q b=(b.all (Bz p q)&&(iR p q).all (NR b)&&(List.range p.rules.length).all fun i:Nat=>F5 p q b i):=by
  unfold RG; rw[h1',cJ (by omega:b.length<=100)]; simp
 obtain⟨_,b2,b3,_⟩:=Iw hc0;have hv:=KX b3;have v1:=hv.pos; have v2:=hv.states; have v3:=hv.values;have hbad:iR p q=aK (xA q p.states.length (max 1 p.values.length) (4 ^ p.states.length)):=by rw[iR,h1,bad_law]; rfl
 obtain⟨l1,l2⟩:=Cj p q hp;refine aA.objs 4 [21,22,2,3,4] (fun k:Nat=>[(23,.int k)]) (fun _=>[(0,Ad p),(1,Oh q)]) (fun k=>k<=b.length/\(b.take k).all (Bz p q)=true) (fun k=>b.length-k) 0 [0,1] rfl (by decide) (fun _=>rfl) ⟨ab _,rfl⟩ (sR rfl) ⟨dA rfl rfl,dA rfl rfl,trivial⟩ ?_;refine⟨(sR rfl),rfl,?_⟩;rintro k ⟨hk,hall⟩;refine⟨fun h3=>?_,fun h3=>?_⟩
 ·have hk':k<b.length:=by simpa using h3
  have hnx:=Ii (P:=Bz p q) (d:=default) hk';have hnot:=fun h=>KN (P:=Bz p q) (d:=default) hk' h
  have hle:=hs.at hk';generalize hX:b.getD k default=X at hnx hnot hle;refine .mk (by simp only[Rw.rng] at *; omega) ?_;conv=>whnf
  rw[show b.getD ((k:Int)).toNat default=X from hX];refine ah.pure (S.iZ p X hp hle) rfl ?_;refine .mk (by intro h; simp[h]; done) ?_;refine ah.gW (fun _=>S.nU p q X hp hq hle (Aq hc0)) rfl ?_;refine .mk (by intro h; rw[h]; rfl) ?_;refine⟨fun h4=>?_,fun h4=>?_⟩
  ·replace h4:(dR (lI p X) 1 !=0||vW p q X)=true:=h4;refine ak.bool ?_;rw[<- hres,hB]
   have:Bz p q X=false:=by
    unfold Bz;rw[KL] at h4;rw[<- Bool.not_or,h4]; rfl
   rw[hnot this]; rfl
  ·replace h4:(dR (lI p X) 1 !=0||vW p q X)=false:=h4;refine .mk (by simp only[okI] at *; omega) ?_;conv=>whnf
   have:Bz p q X=true:=by
    unfold Bz;rw[KL] at h4;rw[<- Bool.not_or,h4]; rfl
   exact⟨k+1,[0,1],⟨hk',by rw[hnx,hall,this]; rfl⟩,by omega,(sR rfl),(sR rfl),dA rfl rfl,dA rfl rfl,trivial⟩
 have hk':k=b.length:=by have:=aL h3; omega
 subst hk';rw[bp] at hall;rw[hall,cw] at hB;clear h3;refine ah.pure (S.jB p q p.states.length (max 1 p.values.length) hp hq rfl v1 v2 rfl (by omega) b2) rfl ?_;conv=>whnf
 rw[<- hbad];refine aA.objs 4 [40,41,2,3,4] (fun k:Nat=>[(42,.int k)]) (fun _=>[(0,Ad p),(1,Oh q)]) (fun k=>k<=(iR p q).length/\((iR p q).take k).all (NR b)=true) (fun k=>(iR p q).length-k) 0 [0,1] rfl (by decide) (fun _=>rfl) ⟨ab _,rfl⟩ (sR rfl) ⟨dA rfl rfl,dA rfl rfl,trivial⟩ ?_;refine⟨(sR rfl),rfl,?_⟩;rintro k ⟨hk,acO⟩;refine⟨fun h3=>?_,fun h3=>?_⟩
 ·have hk':k<(iR p q).length:=by simpa using h3
  have hle:=l2 ((iR p q).getD k default) (by rw[getD_some hk']; exact be hk');refine .mk (by simp only[Rw.rng] at *; omega) ?_;refine ah.pure (S.jW b ((iR p q).getD k default) f (by omega) hs.E hle) rfl ?_;refine⟨fun h6=>?_,fun h6=>?_⟩
  ·replace h6:(!NR b ((iR p q).getD k default))=true:=h6;refine ak.bool ?_;rw[<- hres,hB,KN (P:=NR b) hk' (by simpa using h6)]; rfl
  ·replace h6:(!NR b ((iR p q).getD k default))=false:=h6;refine .mk (by simp only[okI] at *; omega) ?_;exact⟨k+1,[0,1],⟨hk',by rw[Ii (d:=default) hk',acO,show NR b ((iR p q).getD k default)=true by simpa using h6]; rfl⟩,by omega,(sR rfl),(sR rfl),dA rfl rfl,dA rfl rfl,trivial⟩
 have hk':k=(iR p q).length:=by have:=aL h3; omega
 subst hk';rw[bp] at acO;rw[acO,cw] at hB;clear h3;refine aA.objs 4 [53,2,3,4] (fun k:Nat=>[(54,.int k)]) (fun _=>[(0,Ad p),(1,Oh q)]) (fun k=>k<=p.rules.length/\((List.range k).all fun i:Nat=>F5 p q b i)=true) (fun k=>p.rules.length-k) 0 [0,1] rfl (by decide) (fun _=>rfl) ⟨ab _,rfl⟩ (sR rfl) ⟨dA rfl rfl,dA rfl rfl,trivial⟩ ?_;refine⟨(sR rfl),rfl,?_⟩;rintro k ⟨hk,afH⟩;refine⟨fun h3=>?_,fun h3=>?_⟩
 ·have hk':k<p.rules.length:=by simpa using h3
  refine ah.pure (S.nO p q b k f hp hq hl hs) rfl ?_;refine⟨fun h6=>?_,fun h6=>?_⟩
  ·replace h6:(!F5 p q b k)=true:=h6;refine ak.bool ?_;rw[<- hres,hB];rw[List.all_eq_false];exact⟨k,cL.2 hk',by simpa using h6⟩
  ·replace h6:(!F5 p q b k)=false:=h6;refine .mk (by simp only[okI] at *; omega) ?_;exact⟨k+1,[0,1],⟨hk',by rw[ck,List.all_append,afH]; simpa using h6⟩,by omega,(sR rfl),(sR rfl),dA rfl rfl,dA rfl rfl,trivial⟩
 ·have hk':k=p.rules.length:=by have:=aL h3; omega
  subst hk';exact ak.bool (by rw[<- hres,hB,afH])
end Go.Proofs.YtbdbmfccbpfeoabGreatDoor
