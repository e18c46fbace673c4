/-
 What is before a step with a rule: the program's answer. No condition.
-/
import Derived.Test.YtbdbmfccbpfeoaaGreatDoorQb
import Derived.Test.YtbdbmfccbpfeoaaGreatDoorFa
namespace Go.Proofs.YtbdbmfccbpfeoaaGreatDoor
open Go.Ab Go.Proofs
set_option maxRecDepth 100000
def wZ(vs:List Int)(cs:List (List Int))(i j:Nat):List Elem:=((vs.take i).flatMap fun v=>cs.map fun c=>(⟨v,c⟩:Elem))++(cs.take j).map fun c=>⟨vs.getD i 0,c⟩
theorem Uy{vs:List Int}{cs:List (List Int)}{i j:Nat}(hi:i<=vs.length)(hj:j<=cs.length):(wZ vs cs i j).length=i*cs.length+j:=by
 have: ∀ L:List Int,(L.flatMap fun v=>cs.map fun c=>(⟨v,c⟩:Elem)).length=L.length*cs.length:=by
  intro L;induction L with
  |nil=>simp
  |cons c L ih=>rw[en,aL,ih,bh,bN,eL,f5]
 unfold wZ;rw[aL,this,bh,bL,bL,ep hi,ep hj]
theorem aar{vs:List Int}{cs:List (List Int)}{i j:Nat}(hj:j<cs.length):wZ vs cs i (j+1)=wZ vs cs i j++[⟨vs.getD i 0,cs.getD j []⟩]:=by
 unfold wZ;rw[bq hj,cx,<- ax,getD_some hj]; rfl
theorem aas{vs:List Int}{cs:List (List Int)}{i:Nat}(hi:i<vs.length):wZ vs cs (i+1) 0=wZ vs cs i cs.length:=by
 unfold wZ;rw[bq hi,dc,cB,getD_some hi];simp
theorem Uz{vs:List Int}{cs:List (List Int)}:wZ vs cs vs.length 0=vs.flatMap fun v=>cs.map fun c=>⟨v,c⟩:=by
 unfold wZ;rw[cB]; simp
theorem acX{vs:List Int}{cs:List (List Int)}{i j:Nat}{x:Elem}(h:x∈wZ vs cs i j):x.counts∈cs:=by
 unfold wZ at h;rcases cN.1 h with h|h
 ·obtain⟨v,_,h⟩:=ck.1 h;obtain⟨c,hc,rfl⟩:=bA.1 h;exact hc
 ·obtain⟨c,hc,rfl⟩:=bA.1 h;exact dj hc
def acY(x:Elem):Bool:= !(x.counts.all EH)
def aat(x:Int×List Elem):V:=.bU [.row 3 false (.elems x.2),.int x.1]
theorem Nu{r:Rule}{c:List Int}(hp:AX c.length r)(h0:OG c)(hl:c.length<=6): ∀ l∈zH r c,l.length=c.length:=by
 intro l hl';obtain⟨d,hd,rfl⟩:=bA.1 hl';rw[uZ];exact(Nr hp h0 hl d hd).1
set_option maxHeartbeats 2000000 in
theorem S.pU(p:aB)(r:Rule)(e:Elem)(hv:p.values.length<2^20)(hr:sN r)(hp:AX e.counts.length r)(h0:OG e.counts)(hl0:0<e.counts.length)(hl:e.counts.length<=6)(hx:r.ex.length<=100)(hk:r.kind=1\/r.kind=2\/r.kind=3):aj Tryz.prog 106 [.dat (.fM p),.dat (.rule r),.dat (.elem e)] (aat (zf p r e)):=by
 rw[<- afg];generalize hres:aat (aff p r e)=res;have hvl:(rG p r e.value).length<2^21:=by
  unfold rG;cases decide (0<=r.write)&&r.write !=e.value
  ·cases decide (r.write<0)&&(decide (0<=r.read)&&r.read !=e.value)
   ·cases decide (0<=r.read)
    ·cases decide (r.write<0)
     ·show((List.range _).map _).length<_;rw[bh,ff]; omega
     ·exact(by decide:(1:Nat)<2^21)
    ·exact(by decide:(1:Nat)<2^21)
   ·exact(by decide:(0:Nat)<2^21)
  ·exact(by decide:(0:Nat)<2^21)
 have hcl:=Nu hp h0 hl;refine aj.of Bd.pU (by simp) rfl (by rw[<- hres]; rfl) ?_;refine ah.pure (S.jS p r e.value hv) rfl ?_;conv=>whnf
 have hC:aff p r e=bif (rG p r e.value).length==0 then(0,[]) else bif decide (100<(zH r e.counts).length)||decide (100<(zH r e.counts).length*(rG p r e.value).length) then(4,[]) else
  bif (wZ (rG p r e.value) (zH r e.counts) (rG p r e.value).length 0).any acY then(4,[]) else(0,cO (wZ (rG p r e.value) (zH r e.counts) (rG p r e.value).length 0)):=by rw[Uz]; rfl
 have hS:=S.jT r e.counts false hr hp h0 hl0 hl hx hk;generalize hvs:rG p r e.value=vs at hC hvl ⊢;generalize hcs:zH r e.counts=cs at hC hcl;refine⟨fun h1=>?_,fun h1=>?_⟩
 ·conv=>whnf
  have h1':(vs.length==0)=true:=by
   have:((vs.length:Int)==0)=true:=h1
   simpa using this
  rw[<- hres,hC,h1'];exact ak.EO
 have h1':(vs.length==0)=false:=by
  have:((vs.length:Int)==0)=false:=h1
  simpa using this
 rw[h1',bB] at hC;refine ah.pure hS PX ?_;unfold Nq;rw[hcs];cases h2:decide (cs.length<=100) with
 |false =>
  have h2':=aR h2;rw[cY (by omega:100<cs.length),Bool.true_or,bS] at hC;repeat(refine VC.mk (by first|exact id|(intro h; rw[h]; rfl)|(intro h; simp_all; done)) ?_)
  refine Fork.mk (fun _=>?_) (fun q=>absurd (q.symm.trans (rfl)) aM);conv=>whnf
  rw[<- hres,hC];exact ak.EO
 |true =>
  have h2':=aq h2;rw[cH (by omega: ¬ 100<cs.length),cv] at hC;have hmul:cs.length*vs.length<=100*2^21:=eT h2' (Nat.le_of_lt hvl);repeat(refine VC.mk (by first|(intro _; refine⟨rfl,rfl,?_⟩; show okI ((cs.length:Int)*(vs.length:Int)); rw[<- gO]; simp only[okI]; omega)|exact fun h=>h|(intro h; rw[h]; rfl)) ?_)
  refine⟨fun h3=>?_,fun h3=>?_⟩
  ·have h3':100<cs.length*vs.length:=by
    replace h3:decide (100<(cs.length:Int)*(vs.length:Int))=true:=h3;have:=aq h3;rw[<- gO] at this;omega
   rw[cY h3',bS] at hC;conv=>whnf
   rw[<- hres,hC];exact ak.EO
  have h3':cs.length*vs.length<=100:=by
   replace h3:decide (100<(cs.length:Int)*(vs.length:Int))=false:=h3;have:=aR h3;rw[<- gO] at this;omega
  rw[cH (by omega: ¬ 100<cs.length*vs.length),bB] at hC;rw[gF] at h3';refine aF.nil 11 40 3 (by rfl) rfl rfl rfl ?_;refine aF.objs 3 [41,42,9] (fun i:Nat=>[(43,.int i),(11,.own 2)]) (fun i=>[(2,bT (wZ vs cs i 0))]) (fun i=>i<=vs.length/\(wZ vs cs i 0).any acY=false) (fun i=>vs.length-i) 0 [37] rfl (by decide) (fun _=>rfl) ⟨ap _,rfl⟩ (sR rfl) ⟨gK rfl rfl,trivial⟩ ?_;refine⟨(sR rfl),rfl,?_⟩;rintro i ⟨hi,hno⟩;have hN0:=Uy hi (ap cs.length);have hN0':i*cs.length<=100:=dg (cn _ hi) h3';refine⟨fun h4=>?_,fun h4=>?_⟩
  ·have hi':i<vs.length:=by simpa using h4
   refine .mk (by simp only[Rw.rng] at *; omega) ?_;refine aF.afZ 3 [47,48,13,41,42,43,9] (fun j:Nat=>[(49,.int j),(11,.own 2)]) (fun j=>[(2,bT (wZ vs cs i j))]) (fun j=>j<=cs.length/\(wZ vs cs i j).any acY=false) (fun j=>cs.length-j) 0 [2] [(2,some (bT (wZ vs cs i 0)))] rfl (by decide) (fun _=>rfl) ⟨ap _,hno⟩ (sR rfl) ⟨fun _=>False,sV (Z:=fun _=>False) rfl (fun q=>q),trivial⟩ ⟨qG rfl rfl,trivial⟩ ?_;refine⟨(sR rfl),rfl,?_⟩;rintro j ⟨hj,ahr⟩;have hNj:=Uy hi hj;have ahp:i*cs.length+j<=100:=by
    have:=cn cs.length hi';rw[eL] at this;omega
   refine⟨fun h5=>?_,fun h5=>?_⟩
   ·have hj':j<cs.length:=by simpa using h5
    have hst:=aar (vs:=vs) (i:=i) hj';have hcj:=hcl (cs.getD j []) (by rw[getD_some hj']; exact bR hj');replace hcj:(cs.getD ((j:Int)).toNat []).length=e.counts.length:=hcj;repeat(refine VC.mk (by first|(first|(simp only[mD,mV,Rw.len]; omega)|(show((wZ vs cs i j).length+(0+1))*32<=140737488355328/\(wZ vs cs i j).length+(0+1)<=1152921504606846976; omega))|(simp only[Rw.rng] at *; omega)) ?_)
    refine ah.pure (S.kV (cs.getD j []) false (by show(cs.getD ((j:Int)).toNat []).length<_; omega)) rfl ?_;refine⟨fun h6=>?_,fun h6=>?_⟩
    ·conv=>whnf
     have hb:(wZ vs cs vs.length 0).any acY=true:=by
      rw[di];refine⟨⟨vs.getD i 0,cs.getD j []⟩,?_,h6⟩;rw[Uz];exact ck.2 ⟨vs.getD i 0,by rw[getD_some hi']; exact bR hi',bA.2 ⟨cs.getD j [],by rw[getD_some hj']; exact bR hj',rfl⟩⟩
     rw[hb,bS] at hC;rw[<- hres,hC];exact ak.EO
    ·conv=>whnf
     refine .mk (by simp only[okI] at *; omega) ?_;refine⟨[(13,some (bT (wZ vs cs i j++[⟨vs.getD i 0,cs.getD j []⟩])))],j+1,[13],⟨fun i=>i=10,RP (Z:=fun i=>i=10) (i:=13) (j:=10) rfl (by decide) rfl rfl,trivial⟩,⟨hj',?_⟩,by omega,(sR rfl),(sR rfl),okF rfl nofun rfl rfl rfl ⟨rfl,rfl⟩ (by rw[hst]),trivial⟩;rw[hst,dz,ahr];show(acY _||false)=false;rw[fk];exact h6
   ·have hj':j=cs.length:=by have:=aR h5; omega
    subst hj';rw[<- aas hi'] at ahr ⊢;refine .mk (by simp only[okI] at *; omega) ?_;exact⟨i+1,[2],⟨hi',ahr⟩,by omega,(sR rfl),(sR rfl),gK rfl rfl,trivial⟩
  ·have hi':i=vs.length:=by have:=aR h4; omega
   subst hi';rw[hno,bB] at hC;rw[<- hres,hC];refine ah.shut (fun _=>True) (h2:=[]) trivial (S.lI (wZ vs cs vs.length 0) false (by omega) (fun x hx=>by have:=hcl _ (acX hx); omega)) ⟨KY trivial rfl,trivial⟩ ?_;exact ak.eqv rfl
theorem afk: ∀ {l:List Int},Ii l=true->l.Pairwise (· < ·):=by
 intro l;induction l with
 |nil=>intro _; exact .nil
 |cons a r ih =>
  intro h;cases r with
  |nil=>exact List.pairwise_singleton ..
  |cons b r =>
   simp only[Ii,aD,ab] at h;have h2:=ih h.2;refine dT.2 ⟨fun x hx=>?_,h2⟩;rcases bm.1 hx with rfl|hx
   ·exact h.1
   ·have:=(dT.1 h2).1 x hx; omega
theorem ahs{n:Int}: ∀ {l:List Int} {k:Int},l.Pairwise (· < ·)->(∀ x∈l,k<=x/\x<n)->k<=n->k+l.length<=n:=by
 intro l;induction l with
 |nil=>intro k _ _ h; simp; exact h
 |cons a r ih =>
  intro k hp hx hk;have ha:=hx a (by simp);have:=ih (k:=a+1) (dT.1 hp).2 (fun x h=>⟨(dT.1 hp).1 x h,(hx x (by simp[h])).2⟩) (by omega);rw[bN]; omega
theorem afl{l:List Int}{n:Int}(h:jr l n=0):Ii l=true:=by
 unfold jr at h;obtain⟨_,h⟩:=bz (fun _=>by decide) h;cases hb:Ii l with
 |true=>rfl
 |false=>rw[hb] at h; exact absurd h (by decide)
structure agk(n:Nat)(p:aB)(r:Rule):Prop where
 rf:Gp n p r
 nd:r.ex.Nodup
 xl:r.ex.length<=n
theorem UA{p:aB}{i:Nat}(hv:CO p)(ht:p.topology=1)(hi:i<p.rules.length):agk p.states.length p (p.rules.getD i default):=by
 have hf:=YtbdbmfccbpfeoaaGreatDoor.OH hv ht hi
 suffices hh:(p.rules.getD i default).ex.Nodup/\(p.rules.getD i default).ex.length<=p.states.length from⟨hf,hh.1,hh.2⟩
 by_cases hk:(p.rules.getD i default).kind=1
 ·have h:=hv.rule i hi;simp only[gQ] at h;obtain⟨_,h⟩:=bz (fun _=>by decide) h;obtain⟨_,h⟩:=bz (fun _=>by decide) h;obtain⟨_,h⟩:=bz nz h;rw[hk] at h;have g:=jq h;have hs:=afk (afl (g (jr (p.rules.getD i default).ex p.states.length) (by simp)));refine⟨hs.imp fun h=>by omega,?_⟩;have:=ahs (k:=0) hs (fun x hx=>hf.place.exs x hx) (by omega);omega
 ·rw[(hf.ex1 hk).1];exact⟨List.nodup_nil,ap _⟩
theorem Gs.UA{p:aB}{e:Elem}(h:Gs p e){r:Rule}(hr:r∈p.rules):agk e.counts.length p r:=by
 obtain⟨i,hi,rfl⟩:=de hr;have:=YtbdbmfccbpfeoaaGreatDoor.UA h.valid (OI h.plain) hi;rw[getD_some hi] at this;rw[h.len]; exact this
theorem acZ{n:Nat}{p:aB}{r:Rule}{v:Int}(hr:Gp n p r)(hv:0<=v/\v<max 1 (p.values.length:Int)): ∀ u∈rG p r v,0<=u/\u<max 1 (p.values.length:Int):=by
 have ho: ∀ x:Int,sO x p.values.length=false->0<=x/\x<max 1 (p.values.length:Int):=fun x h=>by
  have:=vC h;omega
 intro u hu;unfold rG at hu;cases h1:decide (0<=r.write)&&r.write !=v with
 |true=>rw[h1] at hu; cases hu
 |false =>
  rw[h1,bB] at hu;cases h2:decide (r.write<0)&&(decide (0<=r.read)&&r.read !=v) with
  |true=>rw[h2] at hu; cases hu
  |false =>
   rw[h2,bB] at hu;cases h3:decide (0<=r.read) with
   |true =>
    rw[h3,bS,bt] at hu;subst hu;have:=aq h3;rcases hr.rd with h|h
    ·exact ho _ h
    ·omega
   |false =>
    rw[h3,bB] at hu;cases h4:decide (r.write<0) with
    |true=>rw[h4,bS,bt] at hu; subst hu; exact hv
    |false =>
     rw[h4,bB,bA] at hu;obtain⟨x,hx,rfl⟩:=hu;have:=cL.1 hx;omega
theorem ac0{p:aB}{r:Rule}{e:Elem}:(zf p r e).1=0\/(zf p r e).1=4:=by
 unfold zf;cases decide (100<(DT p r e).length)||(DT p r e).any fun x=> !(x.counts.all EH)
 ·exact .inl rfl
 ·exact .inr rfl
theorem Nv{p:aB}{r:Rule}{e:Elem}:(zf p r e).2.length<=100:=by
 unfold zf;cases h:decide (100<(DT p r e).length)||(DT p r e).any fun x=> !(x.counts.all EH) with
 |true=>exact ap _
 |false =>
  rw[bi] at h;have:=aR h.1;exact dg (FH _) (by omega)
theorem UC{p:aB}{r:Rule}{e x:Elem}(hF:Gs p e)(hr:r∈p.rules)(h:x∈(zf p r e).2):uF p x=false:=by
 have hX:=hF.UA hr;have h6:=hF.valid.states;have hl:=hF.len;unfold zf at h;cases hb:decide (100<(DT p r e).length)||(DT p r e).any fun x=> !(x.counts.all EH) with
 |true=>rw[hb] at h; cases h
 |false =>
  rw[hb,bB] at h;rw[bi] at hb;have h:=yu h;obtain⟨h1,h2⟩:=afc.1 h;have h3:=acZ hX.rf hF.val _ h1;have h4:=Nu hX.rf.place hF.nums (by omega) _ h2;have h5:=dv.1 hb.2 x h;unfold uF;rw[show((x.counts.length:Int) !=p.states.length)=false by simp; omega,show decide (x.value<0)=false by simp; omega,show decide (x.value>=max 1 (p.values.length:Int))=false by simp only[ao]; omega];simpa using h5
theorem ac1{p:aB}{e x:Elem}(hF:Gs p e)(h:uF p x=false):Gs p x:=by
 unfold uF at h;simp only[bi] at h;obtain⟨⟨⟨h1,h2⟩,h3⟩,h4⟩:=h;have h1':(x.counts.length:Int)=p.states.length:=by simpa using h1
 refine⟨hF.valid,hF.plain,by omega,fun y hy=>?_,?_⟩
 ·have:x.counts.all EH=true:=by simpa using h2
  have:=cA.1 this y hy;unfold EH at this;simpa using this
 ·have:=aR h3;have:=aR h4;omega
def Nw(p:aB):Int:=bif aW p !=0 then aW p else bif (iF p).cover then 0 else 7
theorem Rf{p:aB}{e:Elem}(h1:Nw p=0)(h2:uF p e=false):Gs p e:=by
 unfold Nw at h1;obtain⟨h0,h1⟩:=bz nz h1;have hv:aW p=0:=by simpa using h0
 refine ahN (Vt hv ?_ h2);cases hc:(iF p).cover with
 |true=>rfl
 |false=>rw[hc] at h1; exact absurd h1 (by decide)
theorem S.lS(p:aB)(hp:dJ p):aj Tryz.prog 112 [.dat (.fM p)] (.int (Nw p)):=by
 refine aj.of Bd.lS (by simp) rfl rfl ?_;refine ah.pure (S.iG p hp) rfl ?_;repeat(refine VC.mk id ?_)
 refine⟨fun h1=>?_,fun h1=>?_⟩
 ·replace h1:((aW p==0)&& !(bif aW p !=0 then Gw else iF p).cover)=true:=h1;refine ak.int ?_;rw[aD] at h1;have hv:(aW p !=0)=false:=by simpa using h1.1
  rw[hv] at h1;unfold Nw;rw[hv,show(iF p).cover=false by simpa using h1.2]; rfl
 ·replace h1:((aW p==0)&& !(bif aW p !=0 then Gw else iF p).cover)=false:=h1;refine ak.int ?_;unfold Nw;cases hv:(aW p !=0) with
  |true=>rfl
  |false =>
   have hz:aW p=0:=by simpa using hv
   rw[hv,hz] at h1;rw[bB,hz]
   have:(iF p).cover=true:=by simpa using h1
   rw[this]; rfl
def Xa(p:aB)(i:Int)(e:Elem):Int×List Elem:=bif Nw p !=0 then(Nw p,[]) else bif uF p e then(1,[]) else bif decide (i<0)||decide (i>=p.rules.length) then(6,[]) else zf p (p.rules.getD i.toNat default) e
theorem KN{b:Bool}:(eF b 1 !=0)=b:=by cases b<;>rfl
theorem aht{b:Bool}(h:(eF b 1 !=0)=true):eF b 1=1:=by cases b<;>first|rfl|cases h
set_option maxHeartbeats 1000000 in
theorem S.qP(p:aB)(i:Int)(e:Elem)(hp:dJ p)(he:e.counts.length<2^30):aj Tryz.prog 85 [.dat (.fM p),.int i,.dat (.elem e)] (aat (Xa p i e)):=by
 have hpr:=hp.rules;generalize hres:aat (Xa p i e)=res;refine aj.of Bd.qP (by simp) rfl (by rw[<- hres]; rfl) ?_;refine ah.pure (S.lS p hp) rfl ?_;refine⟨fun h1=>?_,fun h1=>?_⟩
 ·conv=>whnf
  rw[<- hres,Xa,h1];exact ak.EO
 refine ah.pure (S.gY p e hp he) rfl ?_;refine⟨fun h2=>?_,fun h2=>?_⟩
 ·replace h2:(eF (uF p e) 1 !=0)=true:=h2;conv=>whnf
  rw[aht h2];rw[KN] at h2;rw[<- hres,Xa,h1,h2];exact ak.EO
 replace h2:(eF (uF p e) 1 !=0)=false:=h2;rw[KN] at h2;have hF:=Rf (EP h1) h2;have h6:=hF.valid.states;have h0:=hF.valid.pos;have hl:=hF.len;repeat(refine VC.mk (by first|exact id|exact fun h=>⟨h,h⟩|(intro h; rw[h]; rfl)) ?_)
 refine⟨fun h3=>?_,fun h3=>?_⟩
 ·replace h3:(decide (i<0)||decide (i>=p.rules.length))=true:=h3;conv=>whnf
  rw[<- hres,Xa,h1,h2,h3];exact ak.EO
 ·replace h3:(decide (i<0)||decide (i>=p.rules.length))=false:=h3;have h3':=h3;simp only[bi,ao] at h3';have hi:i.toNat<p.rules.length:=by omega
  have hX:=hF.UA (r:=p.rules.getD i.toNat default) (by rw[getD_some hi]; exact bR hi);refine .mk (by simp only[Rw.rng]; omega) ?_;refine ah.pure (S.pU p (p.rules.getD i.toNat default) e hp.values (hp.rule _) hX.rf.place hF.nums (by omega) (by omega) (by have:=hX.xl; omega) hX.rf.kind) rfl ?_;conv=>whnf
  rw[<- hres,Xa,h1,h2,h3];exact ak.eqv rfl
def nT(p:aB)(e:Elem)(i:Nat):List Elem:=(p.rules.take i).flatMap fun r=>(zf p r e).2
def yU(p:aB)(e:Elem):Int×List Elem:=bif p.rules.any (fun r=>(zf p r e).1 !=0) then(4,[]) else bif decide (100<(cO (nT p e p.rules.length)).length) then(4,[]) else(0,cO (nT p e p.rules.length))
theorem UD{p:aB}{e:Elem}{i:Nat}(hi:i<p.rules.length):nT p e (i+1)=nT p e i++(zf p (p.rules.getD i default) e).2:=by
 unfold nT;rw[bq hi,dc,getD_some hi]; simp
theorem Xb{p:aB}{e:Elem}{i:Nat}:(nT p e i).length<=i*100:=by
 unfold nT
 have: ∀ L:List Rule,(L.flatMap fun r=>(zf p r e).2).length<=L.length*100:=by
  intro L;induction L with
  |nil=>simp
  |cons c L ih=>rw[en,aL,bN,eL]; have:=@Nv p c e; omega
 exact dg (this _) (cn _ (by rw[bL]; omega))
theorem Ny{p:aB}{e x:Elem}{i:Nat}(hF:Gs p e)(h:x∈nT p e i):uF p x=false:=by
 obtain⟨r,hr,h⟩:=ck.1 h;exact UC hF (dj hr) h
theorem Yo{p:aB}{x:Elem}(h:uF p x=false):x.counts.length=p.states.length:=by
 unfold uF at h;simp only[bi] at h
 have:(x.counts.length:Int)=p.states.length:=by simpa using h.1.1.1
 omega
set_option maxHeartbeats 1000000 in
theorem S.xI(p:aB)(e:Elem)(hp:dJ p)(hF:Gs p e):aj Tryz.prog 76 [.dat (.fM p),.dat (.elem e)] (aat (yU p e)):=by
 have hpr:=hp.rules;have h6:=hF.valid.states;have h8:=hF.valid.Qe;have h0:=hF.valid.pos;have hl:=hF.len;generalize hres:aat (yU p e)=res;refine aj.of Bd.xI (by simp) rfl (by rw[<- hres]; rfl) ?_;refine aF.nil 6 40 3 (by rfl) rfl rfl rfl ?_;refine aF.objs 3 [2,3,13,14] (fun i:Nat=>[(15,.int i),(6,.own 2)]) (fun i=>[(0,.box 27 11 (.dat (.fM p))),(1,.box 40 3 (.dat (.elem e))),(2,bT (nT p e i))]) (fun i=>i<=p.rules.length/\(p.rules.take i).any (fun r=>(zf p r e).1 !=0)=false) (fun i=>p.rules.length-i) 0 [0,1,9] rfl (by decide) (fun _=>rfl) ⟨ap _,rfl⟩ (sR rfl) ⟨gK rfl rfl,gK rfl rfl,gK rfl rfl,trivial⟩ ?_;refine⟨(sR rfl),rfl,?_⟩;rintro i ⟨hi,hno⟩;have hpl:=Xb (p:=p) (e:=e) (i:=i);refine⟨fun h1=>?_,fun h1=>?_⟩
 ·have hi':i<p.rules.length:=by simpa using h1
  have hst:=UD (e:=e) hi';have hmem:p.rules.getD i default∈p.rules:=by rw[getD_some hi']; exact bR hi'
  have hX:=hF.UA hmem;have hlen:=@Nv p (p.rules.getD i default) e;refine .mk (by simp only[Rw.rng] at *; omega) ?_;refine ah.pure (S.pU p (p.rules.getD i default) e hp.values (hp.rule _) hX.rf.place hF.nums (by omega) (by omega) (by have:=hX.xl; omega) hX.rf.kind) rfl ?_;have herr:=@ac0 p (p.rules.getD i default) e;generalize hq:zf p (p.rules.getD i default) e=q at hst hlen herr;refine⟨fun h2=>?_,fun h2=>?_⟩
  ·replace h2:(q.1 !=0)=true:=h2;conv=>whnf
   have h4:q.1=4:=by
    rcases herr with h|h
    ·rw[h] at h2; cases h2
    ·exact h
   have hany:p.rules.any (fun r=>(zf p r e).1 !=0)=true:=di.2 ⟨_,hmem,by rw[hq]; exact h2⟩;rw[<- hres,yU,hany,h4];exact ak.EO
  ·replace h2:(q.1 !=0)=false:=h2;repeat(refine VC.mk (by first|(show((nT p e i).length+q.2.length)*32<=140737488355328/\(nT p e i).length+q.2.length<=1152921504606846976; omega)|(simp only[okI] at *; omega)) ?_)
   refine⟨i+1,[0,1,21],⟨hi',?_⟩,by omega,(sR rfl),(sR rfl),gK rfl rfl,gK rfl rfl,⟨rfl,nofun,rfl,rfl,rfl,_,rfl,rfl,rfl,dH.of_eq (by rw[hst])⟩,trivial⟩;rw[bq hi',dz,hno,cv,<- getD_some (d:=default) hi'];show((zf p (p.rules.getD i default) e).1 !=0||false)=false;rw[hq,h2]; rfl
 ·have hi':i=p.rules.length:=by have:=aR h1; omega
  subst hi';rw[cB] at hno;have hX:yU p e=bif decide (100<(cO (nT p e p.rules.length)).length) then(4,[]) else(0,cO (nT p e p.rules.length)):=by unfold yU; rw[hno]; rfl
  refine ah.shut (fun c=>c=2) (h2:=[]) trivial (S.lI (nT p e p.rules.length) false (by omega) (fun x hx=>by have:=Yo (Ny hF hx); omega)) ⟨KY rfl rfl,trivial⟩ ?_;generalize cO (nT p e p.rules.length)=M at hX;refine⟨fun h2=>?_,fun h2=>?_⟩
  ·replace h2:decide (100<(M.length:Int))=true:=h2;have:=aq h2;rw[cY (by omega:100<M.length),bS] at hX;conv=>whnf
   rw[<- hres,hX];exact ak.EO
  ·replace h2:decide (100<(M.length:Int))=false:=h2;have:=aR h2;rw[cH (by omega: ¬ 100<M.length),bB] at hX;conv=>whnf
   rw[<- hres,hX];exact ak.eqv rfl
def upB(b:List Elem)(y:Elem):Bool:=b.any fun z=>uP z y
def aau(p:aB)(b:List Elem)(i:Int)(x:Elem):Bool:=(Xa p i x).1==0&&(Xa p i x).2.all (upB b)
def Nz(p:aB)(q:Prop')(b:List Elem)(i:Int):Bool:=(gq p q==0)&& !(decide (i<0)||decide (i>=p.rules.length))&&b.all (aau p b i)
theorem afm{p:aB}{i:Int}{e:Elem}:(Xa p i e).2.length<=100:=by
 unfold Xa;cases Nw p !=0
 ·cases uF p e
  ·cases decide (i<0)||decide (i>=p.rules.length)
   ·exact Nv
   ·exact ap _
  ·exact ap _
 ·exact ap _
theorem afn{p:aB}{i:Int}{e x:Elem}(h:x∈(Xa p i e).2):uF p x=false:=by
 unfold Xa at h;cases h1:(Nw p !=0) with
 |true=>rw[h1] at h; cases h
 |false =>
  rw[h1] at h;cases h2:uF p e with
  |true=>rw[h2] at h; cases h
  |false =>
   rw[h2] at h;cases h3:decide (i<0)||decide (i>=p.rules.length) with
   |true=>rw[h3] at h; cases h
   |false =>
    rw[h3] at h;simp only[bi,ao] at h3;have hi:i.toNat<p.rules.length:=by omega
    exact UC (Rf (EP h1) h2) (by rw[getD_some hi]; exact bR hi) h
theorem Ij{α:Type}{P:α->Bool}{l:List α}{i:Nat}{d:α}(h:i<l.length):(l.take (i+1)).all P=((l.take i).all P&&P (l.getD i d)):=by
 rw[bq h,List.all_append,getD_some h]; simp
theorem KO{α:Type}{P:α->Bool}{l:List α}{i:Nat}{d:α}(h:i<l.length)(hp:P (l.getD i d)=false):l.all P=false:=by
 rw[List.all_eq_false];exact⟨_,by rw[getD_some (d:=d) h] at hp; exact bR h,by rw[getD_some h] at hp; rw[hp]; decide⟩
def F7(b:List Elem):Prop:= ∀ x∈b,x.counts.length<2^30
theorem F7.E{b:List Elem}(h:F7 b):eG b:=fun x hx=>by have:=h x hx; omega
theorem F7.at{b:List Elem}(h:F7 b){i:Nat}(hi:i<b.length):(b.getD i default).counts.length<2^30:=by rw[getD_some hi]; exact h _ (bR hi)
abbrev EN(p:aB):OV:=.box 27 11 (.dat (.fM p))
abbrev Rh(q:Prop'):OV:=.box 69 7 (.dat (.prop q))
set_option maxHeartbeats 1000000 in
theorem S.nC(p:aB)(q:Prop')(b:List Elem)(i:Int)(f:Bool)(hp:dJ p)(hq:uN q)(hl:b.length<2^30)(hs:F7 b):aj Tryz.prog 52 [.dat (.fM p),.dat (.prop q),.row 3 f (.elems b),.int i] (.bool (Nz p q b i)):=by
 have hpr:=hp.rules;have hst:=hp.states;generalize hres:Nz p q b i=res;refine aj.of Bd.nC (by simp) rfl rfl ?_;refine ah.pure (S.oK p q hp hq) rfl ?_;refine⟨fun h1=>?_,fun h1=>?_⟩
 ·replace h1:(gq p q !=0)=true:=h1;refine ak.bool ?_;rw[<- hres]; unfold Nz;rw[show(gq p q==0)=false by simpa using h1]; rfl
 replace h1:(gq p q !=0)=false:=h1;have h1':(gq p q==0)=true:=by simpa using h1
 repeat(refine VC.mk (by first|exact id|exact fun h=>⟨h,h⟩|(intro h; rw[h]; rfl)) ?_)
 refine⟨fun h2=>?_,fun h2=>?_⟩
 ·replace h2:(decide (i<0)||decide (i>=p.rules.length))=true:=h2;refine ak.bool ?_;rw[<- hres]; unfold Nz;rw[h1',h2]; rfl
 replace h2:(decide (i<0)||decide (i>=p.rules.length))=false:=h2;have hR:Nz p q b i=b.all (aau p b i):=by unfold Nz; rw[h1',h2]; rfl
 refine aF.objs 4 [28,29,2,3,4] (fun k:Nat=>[(30,.int k)]) (fun _=>[(0,EN p),(1,Rh q)]) (fun k=>k<=b.length/\(b.take k).all (aau p b i)=true) (fun k=>b.length-k) 0 [0,1] rfl (by decide) (fun _=>rfl) ⟨ap _,rfl⟩ (sR rfl) ⟨gK rfl rfl,gK rfl rfl,trivial⟩ ?_;refine⟨(sR rfl),rfl,?_⟩;rintro k ⟨hk,hall⟩;refine⟨fun h3=>?_,fun h3=>?_⟩
 ·have hk':k<b.length:=by simpa using h3
  have hnx:=Ij (P:=aau p b i) (d:=default) hk';have hnot:=fun h=>KO (P:=aau p b i) (d:=default) hk' h
  have hle:=hs.at hk';generalize hX:b.getD k default=X at hnx hnot hle;refine .mk (by simp only[Rw.rng] at *; omega) ?_;conv=>whnf
  rw[show b.getD ((k:Int)).toNat default=X from hX];refine ah.pure (S.qP p i X hp hle) rfl ?_;have hlen:=@afm p i X;have hfit:=fun x=>@afn p i X x
  have hpo:aau p b i X=((Xa p i X).1==0&&(Xa p i X).2.all (upB b)):=rfl;generalize hY:Xa p i X=PY at hlen hfit hpo;refine⟨fun h4=>?_,fun h4=>?_⟩
  ·replace h4:(PY.1 !=0)=true:=h4;refine ak.bool ?_;rw[<- hres,hR]
   have:(PY.1==0)=false:=by simpa using h4
   exact hnot (by rw[hpo,this]; rfl)
  replace h4:(PY.1 !=0)=false:=h4;have h4':(PY.1==0)=true:=by simpa using h4
  refine aF.objs 4 [43,44,28,29,30,2,3,4] (fun j:Nat=>[(45,.int j)]) (fun _=>[(0,EN p),(1,Rh q)]) (fun j=>j<=PY.2.length/\(PY.2.take j).all (upB b)=true) (fun j=>PY.2.length-j) 0 [0,1] rfl (by decide) (fun _=>rfl) ⟨ap _,rfl⟩ (sR rfl) ⟨gK rfl rfl,gK rfl rfl,trivial⟩ ?_;refine⟨(sR rfl),rfl,?_⟩;rintro j ⟨hj,ac2⟩;refine⟨fun h5=>?_,fun h5=>?_⟩
  ·have hj':j<PY.2.length:=by simpa using h5
   have hfj:=Yo (hfit (PY.2.getD j default) (by rw[getD_some hj']; exact bR hj'));refine .mk (by simp only[Rw.rng] at *; omega) ?_;refine ah.pure (S.jL b (PY.2.getD j default) f (by omega) hs.E (by omega)) rfl ?_;refine⟨fun h6=>?_,fun h6=>?_⟩
   ·replace h6:(!upB b (PY.2.getD j default))=true:=h6;refine ak.bool ?_;rw[<- hres,hR];refine hnot ?_;rw[hpo,h4',cj];exact KO hj' (by simpa using h6)
   ·replace h6:(!upB b (PY.2.getD j default))=false:=h6;refine .mk (by simp only[okI] at *; omega) ?_;refine⟨j+1,[0,1],⟨hj',by rw[Ij (d:=default) hj',ac2,show upB b (PY.2.getD j default)=true by simpa using h6]; rfl⟩,by omega,(sR rfl),(sR rfl),gK rfl rfl,gK rfl rfl,trivial⟩
  ·have hj':j=PY.2.length:=by have:=aR h5; omega
   subst hj';rw[cB] at ac2;refine .mk (by simp only[okI] at *; omega) ?_;refine⟨k+1,[0,1],⟨hk',by rw[hnx,hall,hpo,h4',ac2]; rfl⟩,by omega,(sR rfl),(sR rfl),gK rfl rfl,gK rfl rfl,trivial⟩
 ·have hk':k=b.length:=by have:=aR h3; omega
  subst hk';rw[cB] at hall;exact ak.bool (by rw[<- hres,hR,hall])
def Ik(p:aB)(q:Prop')(x:Elem):Bool:= !(uF p x)&& !(Gx p q x)
def aav(p:aB)(q:Prop')(b:List Elem):Bool:=(gq p q==0)&&decide (b.length<=100)&&b.all (Ik p q)&&(lg p q).all (upB b)&&(List.range p.rules.length).all fun i:Nat=>Nz p q b i
set_option maxHeartbeats 1000000 in
theorem S.lU(p:aB)(q:Prop')(b:List Elem)(f:Bool)(hp:dJ p)(hq:uN q)(hl:b.length<2^30)(hs:F7 b):aj Tryz.prog 19 [.dat (.fM p),.dat (.prop q),.row 3 f (.elems b)] (.bool (aav p q b)):=by
 have hpr:=hp.rules;generalize hres:aav p q b=res;refine aj.of Bd.lU (by simp) rfl rfl ?_;refine ah.pure (S.oK p q hp hq) rfl ?_;repeat(refine VC.mk (by first|exact id|(intro h; rw[h]; rfl)) ?_)
 refine⟨fun h1=>?_,fun h1=>?_⟩
 ·replace h1:(gq p q !=0||decide (100<(b.length:Int)))=true:=h1;refine ak.bool ?_;rw[<- hres]; unfold aav;rw[cS] at h1;rcases h1 with h1|h1
  ·rw[show(gq p q==0)=false by simpa using h1]; rfl
  ·have:=aq h1;rw[cH (by omega: ¬ b.length<=100),Bool.and_false]; rfl
 replace h1:(gq p q !=0||decide (100<(b.length:Int)))=false:=h1;rw[bi] at h1;obtain⟨h1,h1b⟩:=h1;have hlen:=aR h1b;have h1':(gq p q==0)=true:=by simpa using h1
 have hc0:gq p q=0:=by simpa using h1
 have hB:aav p q b=(b.all (Ik p q)&&(lg p q).all (upB b)&&(List.range p.rules.length).all fun i:Nat=>Nz p q b i):=by
  unfold aav; rw[h1',cY (by omega:b.length<=100)]; simp
 obtain⟨_,b2,b3,_⟩:=Qh hc0;have hv:=CP b3;have v1:=hv.pos; have v2:=hv.states; have v3:=hv.values;have hbad:lg p q=cO (xZ q p.states.length (max 1 p.values.length) (4 ^ p.states.length)):=by rw[lg,h1,bad_law]; rfl
 obtain⟨l1,l2⟩:=JB p q hp;refine aF.objs 4 [21,22,2,3,4] (fun k:Nat=>[(23,.int k)]) (fun _=>[(0,EN p),(1,Rh q)]) (fun k=>k<=b.length/\(b.take k).all (Ik p q)=true) (fun k=>b.length-k) 0 [0,1] rfl (by decide) (fun _=>rfl) ⟨ap _,rfl⟩ (sR rfl) ⟨gK rfl rfl,gK rfl rfl,trivial⟩ ?_;refine⟨(sR rfl),rfl,?_⟩;rintro k ⟨hk,hall⟩;refine⟨fun h3=>?_,fun h3=>?_⟩
 ·have hk':k<b.length:=by simpa using h3
  have hnx:=Ij (P:=Ik p q) (d:=default) hk';have hnot:=fun h=>KO (P:=Ik p q) (d:=default) hk' h
  have hle:=hs.at hk';generalize hX:b.getD k default=X at hnx hnot hle;refine .mk (by simp only[Rw.rng] at *; omega) ?_;conv=>whnf
  rw[show b.getD ((k:Int)).toNat default=X from hX];refine ah.pure (S.gY p X hp hle) rfl ?_;refine .mk (by intro h; simp[h]; done) ?_;refine ah.eY (fun _=>S.nK p q X hp hq hle (Fv hc0)) rfl ?_;refine .mk (by intro h; rw[h]; rfl) ?_;refine⟨fun h4=>?_,fun h4=>?_⟩
  ·replace h4:(eF (uF p X) 1 !=0||Gx p q X)=true:=h4;refine ak.bool ?_;rw[<- hres,hB]
   have:Ik p q X=false:=by
    unfold Ik;rw[KN] at h4;rw[<- Bool.not_or,h4]; rfl
   rw[hnot this]; rfl
  ·replace h4:(eF (uF p X) 1 !=0||Gx p q X)=false:=h4;refine .mk (by simp only[okI] at *; omega) ?_;conv=>whnf
   have:Ik p q X=true:=by
    unfold Ik;rw[KN] at h4;rw[<- Bool.not_or,h4]; rfl
   exact⟨k+1,[0,1],⟨hk',by rw[hnx,hall,this]; rfl⟩,by omega,(sR rfl),(sR rfl),gK rfl rfl,gK rfl rfl,trivial⟩
 have hk':k=b.length:=by have:=aR h3; omega
 subst hk';rw[cB] at hall;rw[hall,cj] at hB;clear h3;refine ah.pure (S.jg p q p.states.length (max 1 p.values.length) hp hq rfl v1 v2 rfl (by omega) b2) rfl ?_;conv=>whnf
 rw[<- hbad];refine aF.objs 4 [40,41,2,3,4] (fun k:Nat=>[(42,.int k)]) (fun _=>[(0,EN p),(1,Rh q)]) (fun k=>k<=(lg p q).length/\((lg p q).take k).all (upB b)=true) (fun k=>(lg p q).length-k) 0 [0,1] rfl (by decide) (fun _=>rfl) ⟨ap _,rfl⟩ (sR rfl) ⟨gK rfl rfl,gK rfl rfl,trivial⟩ ?_;refine⟨(sR rfl),rfl,?_⟩;rintro k ⟨hk,ac3⟩;refine⟨fun h3=>?_,fun h3=>?_⟩
 ·have hk':k<(lg p q).length:=by simpa using h3
  have hle:=l2 ((lg p q).getD k default) (by rw[getD_some hk']; exact bR hk');refine .mk (by simp only[Rw.rng] at *; omega) ?_;refine ah.pure (S.jL b ((lg p q).getD k default) f (by omega) hs.E hle) rfl ?_;refine⟨fun h6=>?_,fun h6=>?_⟩
  ·replace h6:(!upB b ((lg p q).getD k default))=true:=h6;refine ak.bool ?_;rw[<- hres,hB,KO (P:=upB b) hk' (by simpa using h6)]; rfl
  ·replace h6:(!upB b ((lg p q).getD k default))=false:=h6;refine .mk (by simp only[okI] at *; omega) ?_;exact⟨k+1,[0,1],⟨hk',by rw[Ij (d:=default) hk',ac3,show upB b ((lg p q).getD k default)=true by simpa using h6]; rfl⟩,by omega,(sR rfl),(sR rfl),gK rfl rfl,gK rfl rfl,trivial⟩
 have hk':k=(lg p q).length:=by have:=aR h3; omega
 subst hk';rw[cB] at ac3;rw[ac3,cj] at hB;clear h3;refine aF.objs 4 [53,2,3,4] (fun k:Nat=>[(54,.int k)]) (fun _=>[(0,EN p),(1,Rh q)]) (fun k=>k<=p.rules.length/\((List.range k).all fun i:Nat=>Nz p q b i)=true) (fun k=>p.rules.length-k) 0 [0,1] rfl (by decide) (fun _=>rfl) ⟨ap _,rfl⟩ (sR rfl) ⟨gK rfl rfl,gK rfl rfl,trivial⟩ ?_;refine⟨(sR rfl),rfl,?_⟩;rintro k ⟨hk,agl⟩;refine⟨fun h3=>?_,fun h3=>?_⟩
 ·have hk':k<p.rules.length:=by simpa using h3
  refine ah.pure (S.nC p q b k f hp hq hl hs) rfl ?_;refine⟨fun h6=>?_,fun h6=>?_⟩
  ·replace h6:(!Nz p q b k)=true:=h6;refine ak.bool ?_;rw[<- hres,hB];rw[List.all_eq_false];exact⟨k,cL.2 hk',by simpa using h6⟩
  ·replace h6:(!Nz p q b k)=false:=h6;refine .mk (by simp only[okI] at *; omega) ?_;exact⟨k+1,[0,1],⟨hk',by rw[ce,List.all_append,agl]; simpa using h6⟩,by omega,(sR rfl),(sR rfl),gK rfl rfl,gK rfl rfl,trivial⟩
 ·have hk':k=p.rules.length:=by have:=aR h3; omega
  subst hk';exact ak.bool (by rw[<- hres,hB,agl])
end Go.Proofs.YtbdbmfccbpfeoaaGreatDoor
