/-
 What is before a step with a rule: the program's answer. No condition.
-/
import Derived.Test.YtdloaandiobgdaaGreatDoorQb
import Derived.Test.YtdloaandiobgdaaGreatDoorFa
namespace Go.Proofs.YtdloaandiobgdaaGreatDoor
open Go.Ab Go.Proofs
set_option maxRecDepth 100000
def yR(vs:List Int)(cs:List (List Int))(i j:Nat):List Elem:=((vs.take i).flatMap fun v=>cs.map fun c=>(⟨v,c⟩:Elem))++(cs.take j).map fun c=>⟨vs.getD i 0,c⟩
theorem Xg{vs:List Int}{cs:List (List Int)}{i j:Nat}(hi:i<=vs.length)(hj:j<=cs.length):(yR vs cs i j).length=i*cs.length+j:=by
 have: ∀ L:List Int,(L.flatMap fun v=>cs.map fun c=>(⟨v,c⟩:Elem)).length=L.length*cs.length:=by
  intro L;induction L with
  |nil=>simp
  |cons c L ih=>rw[ef,aL,ih,bL,bX,eM,gR]
 unfold yR;rw[aL,this,bL,bR,bR,em hi,em hj]
theorem acJ{vs:List Int}{cs:List (List Int)}{i j:Nat}(hj:j<cs.length):yR vs cs i (j+1)=yR vs cs i j++[⟨vs.getD i 0,cs.getD j []⟩]:=by
 unfold yR;rw[bw hj,cP,<- bO,getD_some hj]; rfl
theorem acK{vs:List Int}{cs:List (List Int)}{i:Nat}(hi:i<vs.length):yR vs cs (i+1) 0=yR vs cs i cs.length:=by
 unfold yR;rw[bw hi,db,bx,getD_some hi];simp
theorem Xh{vs:List Int}{cs:List (List Int)}:yR vs cs vs.length 0=vs.flatMap fun v=>cs.map fun c=>⟨v,c⟩:=by
 unfold yR;rw[bx]; simp
theorem afw{vs:List Int}{cs:List (List Int)}{i j:Nat}{x:Elem}(h:x∈yR vs cs i j):x.counts∈cs:=by
 unfold yR at h;rcases ci.1 h with h|h
 ·obtain⟨v,_,h⟩:=cX.1 h;obtain⟨c,hc,rfl⟩:=ax.1 h;exact hc
 ·obtain⟨c,hc,rfl⟩:=ax.1 h;exact eQ hc
def afx(x:Elem):Bool:= !(x.counts.all Ez)
def acL(x:Int×List Elem):V:=.dD [.row 3 false (.elems x.2),.int x.1]
theorem PL{r:Rule}{c:List Int}(hp:EG c.length r)(h0:X0 c)(hl:c.length<=6): ∀ l∈BG r c,l.length=c.length:=by
 intro l hl';obtain⟨d,hd,rfl⟩:=ax.1 hl';rw[kZ];exact(Hl hp h0 hl d hd).1
set_option maxHeartbeats 2000000 in
theorem S.ou(p:aF)(r:Rule)(e:Elem)(hv:p.values.length<2^20)(hr:wS r)(hp:EG e.counts.length r)(h0:X0 e.counts)(hl0:0<e.counts.length)(hl:e.counts.length<=6)(hx:r.ex.length<=100)(hk:r.kind=1\/r.kind=2\/r.kind=3):ak Tryz.prog 55 [.dat (.fM p),.dat (.rule r),.dat (.elem e)] (acL (vW p r e)):=by
 rw[<- aic];generalize hres:acL (aib p r e)=res;have hvl:(sK p r e.value).length<2^21:=by
  unfold sK;cases decide (0<=r.write)&&r.write !=e.value
  ·cases decide (r.write<0)&&(decide (0<=r.read)&&r.read !=e.value)
   ·cases decide (0<=r.read)
    ·cases decide (r.write<0)
     ·show((List.range _).map _).length<_;rw[bL,gC]; omega
     ·exact(by decide:(1:Nat)<2^21)
    ·exact(by decide:(1:Nat)<2^21)
   ·exact(by decide:(0:Nat)<2^21)
  ·exact(by decide:(0:Nat)<2^21)
 have hcl:=PL hp h0 hl;refine ak.of Bd.ou (by simp) rfl (by rw[<- hres]; rfl) ?_;refine ah.pure (S.je p r e.value hv) rfl ?_;conv=>whnf
 have hC:aib p r e=bif (sK p r e.value).length==0 then(0,[]) else bif decide (100<(BG r e.counts).length)||decide (100<(BG r e.counts).length*(sK p r e.value).length) then(4,[]) else
  bif (yR (sK p r e.value) (BG r e.counts) (sK p r e.value).length 0).any afx then(4,[]) else(0,bG (yR (sK p r e.value) (BG r e.counts) (sK p r e.value).length 0)):=by rw[Xh]; rfl
 have hS:=S.jf r e.counts false hr hp h0 hl0 hl hx hk;generalize hvs:sK p r e.value=vs at hC hvl ⊢;generalize hcs:BG r e.counts=cs at hC hcl;refine⟨fun h1=>?_,fun h1=>?_⟩
 ·conv=>whnf
  have h1':(vs.length==0)=true:=by
   have:((vs.length:Int)==0)=true:=h1
   simpa using this
  rw[<- hres,hC,h1'];exact ay.I8
 have h1':(vs.length==0)=false:=by
  have:((vs.length:Int)==0)=false:=h1
  simpa using this
 rw[h1',ap] at hC;refine ah.pure hS SX ?_;unfold PI;rw[hcs];cases h2:decide (cs.length<=100) with
 |false =>
  have h2':=aM h2;rw[cI (by omega:100<cs.length),Bool.true_or,bE] at hC;repeat(refine VC.mk (by first|exact id|(intro h; rw[h]; rfl)|(intro h; simp_all; done)) ?_)
  refine Fork.mk (fun _=>?_) (fun q=>absurd (q.symm.trans (rfl)) aR);conv=>whnf
  rw[<- hres,hC];exact ay.I8
 |true =>
  have h2':=ag h2;rw[cB (by omega: ¬ 100<cs.length),cz] at hC;have hmul:cs.length*vs.length<=100*2^21:=ek h2' (gn hvl);repeat(refine VC.mk (by first|(intro _; refine⟨rfl,rfl,?_⟩; show okI ((cs.length:Int)*(vs.length:Int)); rw[<- gA]; simp only[okI]; omega)|exact fun h=>h|(intro h; rw[h]; rfl)) ?_)
  refine⟨fun h3=>?_,fun h3=>?_⟩
  ·have h3':100<cs.length*vs.length:=by
    replace h3:decide (100<(cs.length:Int)*(vs.length:Int))=true:=h3;have:=ag h3;rw[<- gA] at this;omega
   rw[cI h3',bE] at hC;conv=>whnf
   rw[<- hres,hC];exact ay.I8
  have h3':cs.length*vs.length<=100:=by
   replace h3:decide (100<(cs.length:Int)*(vs.length:Int))=false:=h3;have:=aM h3;rw[<- gA] at this;omega
  rw[cB (by omega: ¬ 100<cs.length*vs.length),ap] at hC;rw[gm] at h3';refine aG.nil 11 47 3 (by rfl) rfl rfl rfl ?_;refine aG.objs 3 [41,42,9] (fun i:Nat=>[(43,.int i),(11,.own 2)]) (fun i=>[(2,dX (yR vs cs i 0))]) (fun i=>i<=vs.length/\(yR vs cs i 0).any afx=false) (fun i=>vs.length-i) 0 [37] rfl (by decide) (fun _=>rfl) ⟨ao _,rfl⟩ (sR rfl) ⟨mV rfl rfl,trivial⟩ ?_;refine⟨(sR rfl),rfl,?_⟩;rintro i ⟨hi,hno⟩;have hN0:=Xg hi (ao cs.length);have hN0':i*cs.length<=100:=di (cr _ hi) h3';refine⟨fun h4=>?_,fun h4=>?_⟩
  ·have hi':i<vs.length:=by simpa using h4
   refine .mk (by simp only[Rw.rng] at *; omega) ?_;refine aG.ZG 3 [47,48,13,41,42,43,9] (fun j:Nat=>[(49,.int j),(11,.own 2)]) (fun j=>[(2,dX (yR vs cs i j))]) (fun j=>j<=cs.length/\(yR vs cs i j).any afx=false) (fun j=>cs.length-j) 0 [2] [(2,some (dX (yR vs cs i 0)))] rfl (by decide) (fun _=>rfl) ⟨ao _,hno⟩ (sR rfl) ⟨fun _=>False,jR (Z:=fun _=>False) rfl (fun q=>q),trivial⟩ ⟨iD rfl rfl,trivial⟩ ?_;refine⟨(sR rfl),rfl,?_⟩;rintro j ⟨hj,akZ⟩;have hNj:=Xg hi hj;have akX:i*cs.length+j<=100:=by
    have:=cr cs.length hi';rw[eM] at this;omega
   refine⟨fun h5=>?_,fun h5=>?_⟩
   ·have hj':j<cs.length:=by simpa using h5
    have hst:=acJ (vs:=vs) (i:=i) hj';have hcj:=hcl (cs.getD j []) (by rw[getD_some hj']; exact bh hj');replace hcj:(cs.getD ((j:Int)).toNat []).length=e.counts.length:=hcj;repeat(refine VC.mk (by first|(first|(simp only[kT,qX,Rw.len]; omega)|(show((yR vs cs i j).length+(0+1))*32<=140737488355328/\(yR vs cs i j).length+(0+1)<=1152921504606846976; omega))|(simp only[Rw.rng] at *; omega)) ?_)
    refine ah.pure (S.kG (cs.getD j []) false (by show(cs.getD ((j:Int)).toNat []).length<_; omega)) rfl ?_;refine⟨fun h6=>?_,fun h6=>?_⟩
    ·conv=>whnf
     have hb:(yR vs cs vs.length 0).any afx=true:=by
      rw[cL];refine⟨⟨vs.getD i 0,cs.getD j []⟩,?_,h6⟩;rw[Xh];exact cX.2 ⟨vs.getD i 0,by rw[getD_some hi']; exact bh hi',ax.2 ⟨cs.getD j [],by rw[getD_some hj']; exact bh hj',rfl⟩⟩
     rw[hb,bE] at hC;rw[<- hres,hC];exact ay.I8
    ·conv=>whnf
     refine .mk (by simp only[okI] at *; omega) ?_;refine⟨[(13,some (dX (yR vs cs i j++[⟨vs.getD i 0,cs.getD j []⟩])))],j+1,[13],⟨fun i=>i=10,Vm (Z:=fun i=>i=10) (i:=13) (j:=10) rfl (by decide) rfl rfl,trivial⟩,⟨hj',?_⟩,by omega,(sR rfl),(sR rfl),okF rfl nofun rfl rfl rfl ⟨rfl,rfl⟩ (by rw[hst]),trivial⟩;rw[hst,eT,akZ];show(afx _||false)=false;rw[fL];exact h6
   ·have hj':j=cs.length:=by have:=aM h5; omega
    subst hj';rw[<- acK hi'] at akZ ⊢;refine .mk (by simp only[okI] at *; omega) ?_;exact⟨i+1,[2],⟨hi',akZ⟩,by omega,(sR rfl),(sR rfl),mV rfl rfl,trivial⟩
  ·have hi':i=vs.length:=by have:=aM h4; omega
   subst hi';rw[hno,ap] at hC;rw[<- hres,hC];refine ah.shut (fun _=>True) (h2:=[]) trivial (S.kK (yR vs cs vs.length 0) false (by omega) (fun x hx=>by have:=hcl _ (afw hx); omega)) ⟨Vx trivial rfl,trivial⟩ ?_;exact ay.eqv rfl
theorem aij: ∀ {l:List Int},JO l=true->l.Pairwise (· < ·):=by
 intro l;induction l with
 |nil=>intro _; exact .nil
 |cons a r ih =>
  intro h;cases r with
  |nil=>exact List.pairwise_singleton ..
  |cons b r =>
   simp only[JO,aD,aq] at h;have h2:=ih h.2;refine dp.2 ⟨fun x hx=>?_,h2⟩;rcases bv.1 hx with rfl|hx
   ·exact h.1
   ·have:=(dp.1 h2).1 x hx; omega
theorem ak0{n:Int}: ∀ {l:List Int} {k:Int},l.Pairwise (· < ·)->(∀ x∈l,k<=x/\x<n)->k<=n->k+l.length<=n:=by
 intro l;induction l with
 |nil=>intro k _ _ h; simp; exact h
 |cons a r ih =>
  intro k hp hx hk;have ha:=hx a (by simp);have:=ih (k:=a+1) (dp.1 hp).2 (fun x h=>⟨(dp.1 hp).1 x h,(hx x (by simp[h])).2⟩) (by omega);rw[bX]; omega
theorem aik{l:List Int}{n:Int}(h:jP l n=0):JO l=true:=by
 unfold jP at h;obtain⟨_,h⟩:=bz (fun _=>by decide) h;cases hb:JO l with
 |true=>rfl
 |false=>rw[hb] at h; exact absurd h (by decide)
structure ajD(n:Nat)(p:aF)(r:Rule):Prop where
 rf:N9 n p r
 nd:r.ex.Nodup
 xl:r.ex.length<=n
theorem Ri{p:aF}{i:Nat}(hv:Ho p)(ht:p.topology=1)(hi:i<p.rules.length):ajD p.states.length p (p.rules.getD i default):=by
 have hf:=YtdloaandiobgdaaGreatDoor.adx hv ht hi
 suffices hh:(p.rules.getD i default).ex.Nodup/\(p.rules.getD i default).ex.length<=p.states.length from⟨hf,hh.1,hh.2⟩
 by_cases hk:(p.rules.getD i default).kind=1
 ·have h:=hv.rule i hi;simp only[iW] at h;obtain⟨_,h⟩:=bz (fun _=>by decide) h;obtain⟨_,h⟩:=bz (fun _=>by decide) h;obtain⟨_,h⟩:=bz nz h;rw[hk] at h;have g:=jX h;have hs:=aij (aik (g (jP (p.rules.getD i default).ex p.states.length) (by simp)));refine⟨hs.imp fun h=>by omega,?_⟩;have:=ak0 (k:=0) hs (fun x hx=>hf.place.exs x hx) (by omega);omega
 ·rw[(hf.ex1 hk).1];exact⟨List.nodup_nil,ao _⟩
theorem EC.Ri{p:aF}{e:Elem}(h:EC p e){r:Rule}(hr:r∈p.rules):ajD e.counts.length p r:=by
 obtain⟨i,hi,rfl⟩:=dt hr;have:=YtdloaandiobgdaaGreatDoor.Ri h.valid (abd h.plain) hi;rw[getD_some hi] at this;rw[h.len]; exact this
theorem afy{n:Nat}{p:aF}{r:Rule}{v:Int}(hr:N9 n p r)(hv:0<=v/\v<max 1 (p.values.length:Int)): ∀ u∈sK p r v,0<=u/\u<max 1 (p.values.length:Int):=by
 have ho: ∀ x:Int,tu x p.values.length=false->0<=x/\x<max 1 (p.values.length:Int):=fun x h=>by
  have:=xH h;omega
 intro u hu;unfold sK at hu;cases h1:decide (0<=r.write)&&r.write !=v with
 |true=>rw[h1] at hu; cases hu
 |false =>
  rw[h1,ap] at hu;cases h2:decide (r.write<0)&&(decide (0<=r.read)&&r.read !=v) with
  |true=>rw[h2] at hu; cases hu
  |false =>
   rw[h2,ap] at hu;cases h3:decide (0<=r.read) with
   |true =>
    rw[h3,bE,br] at hu;subst hu;have:=ag h3;rcases hr.rd with h|h
    ·exact ho _ h
    ·omega
   |false =>
    rw[h3,ap] at hu;cases h4:decide (r.write<0) with
    |true=>rw[h4,bE,br] at hu; subst hu; exact hv
    |false =>
     rw[h4,ap,ax] at hu;obtain⟨x,hx,rfl⟩:=hu;have:=cD.1 hx;omega
theorem afz{p:aF}{r:Rule}{e:Elem}:(vW p r e).1=0\/(vW p r e).1=4:=by
 unfold vW;cases decide (100<(zk p r e).length)||(zk p r e).any fun x=> !(x.counts.all Ez)
 ·exact .inl rfl
 ·exact .inr rfl
theorem PN{p:aF}{r:Rule}{e:Elem}:(vW p r e).2.length<=100:=by
 unfold vW;cases h:decide (100<(zk p r e).length)||(zk p r e).any fun x=> !(x.counts.all Ez) with
 |true=>exact ao _
 |false =>
  rw[bk] at h;have:=aM h.1;exact di (Hy _) (by omega)
theorem Xi{p:aF}{r:Rule}{e x:Elem}(hF:EC p e)(hr:r∈p.rules)(h:x∈(vW p r e).2):uz p x=false:=by
 have hX:=hF.Ri hr;have h6:=hF.valid.states;have hl:=hF.len;unfold vW at h;cases hb:decide (100<(zk p r e).length)||(zk p r e).any fun x=> !(x.counts.all Ez) with
 |true=>rw[hb] at h; cases h
 |false =>
  rw[hb,ap] at h;rw[bk] at hb;have h:=zF h;obtain⟨h1,h2⟩:=Tz.1 h;have h3:=afy hX.rf hF.val _ h1;have h4:=PL hX.rf.place hF.nums (by omega) _ h2;have h5:=cq.1 hb.2 x h;unfold uz;rw[show((x.counts.length:Int) !=p.states.length)=false by simp; omega,show decide (x.value<0)=false by simp; omega,show decide (x.value>=max 1 (p.values.length:Int))=false by simp only[bA]; omega];simpa using h5
theorem afA{p:aF}{e x:Elem}(hF:EC p e)(h:uz p x=false):EC p x:=by
 unfold uz at h;simp only[bk] at h;obtain⟨⟨⟨h1,h2⟩,h3⟩,h4⟩:=h;have h1':(x.counts.length:Int)=p.states.length:=by simpa using h1
 refine⟨hF.valid,hF.plain,by omega,fun y hy=>?_,?_⟩
 ·have:x.counts.all Ez=true:=by simpa using h2
  have:=bj.1 this y hy;unfold Ez at this;simpa using this
 ·have:=aM h3;have:=aM h4;omega
def IL(p:aF):Int:=bif bV p !=0 then bV p else bif (kS p).cover then 0 else 7
theorem NS{p:aF}{e:Elem}(h1:IL p=0)(h2:uz p e=false):EC p e:=by
 unfold IL at h1;obtain⟨h0,h1⟩:=bz nz h1;have hv:bV p=0:=by simpa using h0
 refine ajM (X5 hv ?_ h2);cases hc:(kS p).cover with
 |true=>rfl
 |false=>rw[hc] at h1; exact absurd h1 (by decide)
theorem S.ku(p:aF)(hp:dW p):ak Tryz.prog 54 [.dat (.fM p)] (.int (IL p)):=by
 refine ak.of Bd.ku (by simp) rfl rfl ?_;refine ah.pure (S.iK p hp) rfl ?_;repeat(refine VC.mk id ?_)
 refine⟨fun h1=>?_,fun h1=>?_⟩
 ·replace h1:((bV p==0)&& !(bif bV p !=0 then ZE else kS p).cover)=true:=h1;refine ay.int ?_;rw[aD] at h1;have hv:(bV p !=0)=false:=by simpa using h1.1
  rw[hv] at h1;unfold IL;rw[hv,show(kS p).cover=false by simpa using h1.2]; rfl
 ·replace h1:((bV p==0)&& !(bif bV p !=0 then ZE else kS p).cover)=false:=h1;refine ay.int ?_;unfold IL;cases hv:(bV p !=0) with
  |true=>rfl
  |false =>
   have hz:bV p=0:=by simpa using hv
   rw[hv,hz] at h1;rw[ap,hz]
   have:(kS p).cover=true:=by simpa using h1
   rw[this]; rfl
def Vh(p:aF)(i:Int)(e:Elem):Int×List Elem:=bif IL p !=0 then(IL p,[]) else bif uz p e then(1,[]) else bif decide (i<0)||decide (i>=p.rules.length) then(6,[]) else vW p (p.rules.getD i.toNat default) e
theorem NT{b:Bool}:(fA b 1 !=0)=b:=by cases b<;>rfl
theorem ak1{b:Bool}(h:(fA b 1 !=0)=true):fA b 1=1:=by cases b<;>first|rfl|cases h
set_option maxHeartbeats 1000000 in
theorem S.oL(p:aF)(i:Int)(e:Elem)(hp:dW p)(he:e.counts.length<2^30):ak Tryz.prog 31 [.dat (.fM p),.int i,.dat (.elem e)] (acL (Vh p i e)):=by
 have hpr:=hp.rules;generalize hres:acL (Vh p i e)=res;refine ak.of Bd.oL (by simp) rfl (by rw[<- hres]; rfl) ?_;refine ah.pure (S.ku p hp) rfl ?_;refine⟨fun h1=>?_,fun h1=>?_⟩
 ·conv=>whnf
  rw[<- hres,Vh,h1];exact ay.I8
 refine ah.pure (S.gZ p e hp he) rfl ?_;refine⟨fun h2=>?_,fun h2=>?_⟩
 ·replace h2:(fA (uz p e) 1 !=0)=true:=h2;conv=>whnf
  rw[ak1 h2];rw[NT] at h2;rw[<- hres,Vh,h1,h2];exact ay.I8
 replace h2:(fA (uz p e) 1 !=0)=false:=h2;rw[NT] at h2;have hF:=NS (II h1) h2;have h6:=hF.valid.states;have h0:=hF.valid.pos;have hl:=hF.len;repeat(refine VC.mk (by first|exact id|exact fun h=>⟨h,h⟩|(intro h; rw[h]; rfl)) ?_)
 refine⟨fun h3=>?_,fun h3=>?_⟩
 ·replace h3:(decide (i<0)||decide (i>=p.rules.length))=true:=h3;conv=>whnf
  rw[<- hres,Vh,h1,h2,h3];exact ay.I8
 ·replace h3:(decide (i<0)||decide (i>=p.rules.length))=false:=h3;have h3':=h3;simp only[bk,bA] at h3';have hi:i.toNat<p.rules.length:=by omega
  have hX:=hF.Ri (r:=p.rules.getD i.toNat default) (by rw[getD_some hi]; exact bh hi);refine .mk (by simp only[Rw.rng]; omega) ?_;refine ah.pure (S.ou p (p.rules.getD i.toNat default) e hp.values (hp.rule _) hX.rf.place hF.nums (by omega) (by omega) (by have:=hX.xl; omega) hX.rf.kind) rfl ?_;conv=>whnf
  rw[<- hres,Vh,h1,h2,h3];exact ay.eqv rfl
def nV(p:aF)(e:Elem)(i:Nat):List Elem:=(p.rules.take i).flatMap fun r=>(vW p r e).2
def uy(p:aF)(e:Elem):Int×List Elem:=bif p.rules.any (fun r=>(vW p r e).1 !=0) then(4,[]) else bif decide (100<(bG (nV p e p.rules.length)).length) then(4,[]) else(0,bG (nV p e p.rules.length))
theorem Xj{p:aF}{e:Elem}{i:Nat}(hi:i<p.rules.length):nV p e (i+1)=nV p e i++(vW p (p.rules.getD i default) e).2:=by
 unfold nV;rw[bw hi,db,getD_some hi]; simp
theorem Ze{p:aF}{e:Elem}{i:Nat}:(nV p e i).length<=i*100:=by
 unfold nV
 have: ∀ L:List Rule,(L.flatMap fun r=>(vW p r e).2).length<=L.length*100:=by
  intro L;induction L with
  |nil=>simp
  |cons c L ih=>rw[ef,aL,bX,eM]; have:=@PN p c e; omega
 exact di (this _) (cr _ (by rw[bR]; omega))
theorem PO{p:aF}{e x:Elem}{i:Nat}(hF:EC p e)(h:x∈nV p e i):uz p x=false:=by
 obtain⟨r,hr,h⟩:=cX.1 h;exact Xi hF (eQ hr) h
theorem aaE{p:aF}{x:Elem}(h:uz p x=false):x.counts.length=p.states.length:=by
 unfold uz at h;simp only[bk] at h
 have:(x.counts.length:Int)=p.states.length:=by simpa using h.1.1.1
 omega
set_option maxHeartbeats 1000000 in
theorem S.vN(p:aF)(e:Elem)(hp:dW p)(hF:EC p e):ak Tryz.prog 63 [.dat (.fM p),.dat (.elem e)] (acL (uy p e)):=by
 have hpr:=hp.rules;have h6:=hF.valid.states;have h8:=hF.valid.X3;have h0:=hF.valid.pos;have hl:=hF.len;generalize hres:acL (uy p e)=res;refine ak.of Bd.vN (by simp) rfl (by rw[<- hres]; rfl) ?_;refine aG.nil 6 47 3 (by rfl) rfl rfl rfl ?_;refine aG.objs 3 [2,3,13,14] (fun i:Nat=>[(15,.int i),(6,.own 2)]) (fun i=>[(0,.box 27 11 (.dat (.fM p))),(1,.box 47 3 (.dat (.elem e))),(2,dX (nV p e i))]) (fun i=>i<=p.rules.length/\(p.rules.take i).any (fun r=>(vW p r e).1 !=0)=false) (fun i=>p.rules.length-i) 0 [0,1,9] rfl (by decide) (fun _=>rfl) ⟨ao _,rfl⟩ (sR rfl) ⟨mV rfl rfl,mV rfl rfl,mV rfl rfl,trivial⟩ ?_;refine⟨(sR rfl),rfl,?_⟩;rintro i ⟨hi,hno⟩;have hpl:=Ze (p:=p) (e:=e) (i:=i);refine⟨fun h1=>?_,fun h1=>?_⟩
 ·have hi':i<p.rules.length:=by simpa using h1
  have hst:=Xj (e:=e) hi';have hmem:p.rules.getD i default∈p.rules:=by rw[getD_some hi']; exact bh hi'
  have hX:=hF.Ri hmem;have hlen:=@PN p (p.rules.getD i default) e;refine .mk (by simp only[Rw.rng] at *; omega) ?_;refine ah.pure (S.ou p (p.rules.getD i default) e hp.values (hp.rule _) hX.rf.place hF.nums (by omega) (by omega) (by have:=hX.xl; omega) hX.rf.kind) rfl ?_;have herr:=@afz p (p.rules.getD i default) e;generalize hq:vW p (p.rules.getD i default) e=q at hst hlen herr;refine⟨fun h2=>?_,fun h2=>?_⟩
  ·replace h2:(q.1 !=0)=true:=h2;conv=>whnf
   have h4:q.1=4:=by
    rcases herr with h|h
    ·rw[h] at h2; cases h2
    ·exact h
   have hany:p.rules.any (fun r=>(vW p r e).1 !=0)=true:=cL.2 ⟨_,hmem,by rw[hq]; exact h2⟩;rw[<- hres,uy,hany,h4];exact ay.I8
  ·replace h2:(q.1 !=0)=false:=h2;repeat(refine VC.mk (by first|(show((nV p e i).length+q.2.length)*32<=140737488355328/\(nV p e i).length+q.2.length<=1152921504606846976; omega)|(simp only[okI] at *; omega)) ?_)
   refine⟨i+1,[0,1,21],⟨hi',?_⟩,by omega,(sR rfl),(sR rfl),mV rfl rfl,mV rfl rfl,⟨rfl,nofun,rfl,rfl,rfl,_,rfl,rfl,rfl,dB.of_eq (by rw[hst])⟩,trivial⟩;rw[bw hi',eT,hno,cz,<- getD_some (d:=default) hi'];show((vW p (p.rules.getD i default) e).1 !=0||false)=false;rw[hq,h2]; rfl
 ·have hi':i=p.rules.length:=by have:=aM h1; omega
  subst hi';rw[bx] at hno;have hX:uy p e=bif decide (100<(bG (nV p e p.rules.length)).length) then(4,[]) else(0,bG (nV p e p.rules.length)):=by unfold uy; rw[hno]; rfl
  refine ah.shut (fun c=>c=2) (h2:=[]) trivial (S.kK (nV p e p.rules.length) false (by omega) (fun x hx=>by have:=aaE (PO hF hx); omega)) ⟨Vx rfl rfl,trivial⟩ ?_;generalize bG (nV p e p.rules.length)=M at hX;refine⟨fun h2=>?_,fun h2=>?_⟩
  ·replace h2:decide (100<(M.length:Int))=true:=h2;have:=ag h2;rw[cI (by omega:100<M.length),bE] at hX;conv=>whnf
   rw[<- hres,hX];exact ay.I8
  ·replace h2:decide (100<(M.length:Int))=false:=h2;have:=aM h2;rw[cB (by omega: ¬ 100<M.length),ap] at hX;conv=>whnf
   rw[<- hres,hX];exact ay.eqv rfl
def IK(b:List Elem)(y:Elem):Bool:=b.any fun z=>pO z y
def Tv(p:aF)(b:List Elem)(i:Int)(x:Elem):Bool:=(Vh p i x).1==0&&(Vh p i x).2.all (IK b)
def Hf(p:aF)(q:Prop')(b:List Elem)(i:Int):Bool:=(fB p q==0)&& !(decide (i<0)||decide (i>=p.rules.length))&&b.all (Tv p b i)
theorem ail{p:aF}{i:Int}{e:Elem}:(Vh p i e).2.length<=100:=by
 unfold Vh;cases IL p !=0
 ·cases uz p e
  ·cases decide (i<0)||decide (i>=p.rules.length)
   ·exact PN
   ·exact ao _
  ·exact ao _
 ·exact ao _
theorem ain{p:aF}{i:Int}{e x:Elem}(h:x∈(Vh p i e).2):uz p x=false:=by
 unfold Vh at h;cases h1:(IL p !=0) with
 |true=>rw[h1] at h; cases h
 |false =>
  rw[h1] at h;cases h2:uz p e with
  |true=>rw[h2] at h; cases h
  |false =>
   rw[h2] at h;cases h3:decide (i<0)||decide (i>=p.rules.length) with
   |true=>rw[h3] at h; cases h
   |false =>
    rw[h3] at h;simp only[bk,bA] at h3;have hi:i.toNat<p.rules.length:=by omega
    exact Xi (NS (II h1) h2) (by rw[getD_some hi]; exact bh hi) h
theorem JQ{α:Type}{P:α->Bool}{l:List α}{i:Nat}{d:α}(h:i<l.length):(l.take (i+1)).all P=((l.take i).all P&&P (l.getD i d)):=by
 rw[bw h,en,getD_some h]; simp
theorem NU{α:Type}{P:α->Bool}{l:List α}{i:Nat}{d:α}(h:i<l.length)(hp:P (l.getD i d)=false):l.all P=false:=by
 rw[List.all_eq_false];exact⟨_,by rw[getD_some (d:=d) h] at hp; exact bh h,by rw[getD_some h] at hp; rw[hp]; decide⟩
def EF(b:List Elem):Prop:= ∀ x∈b,x.counts.length<2^30
theorem EF.E{b:List Elem}(h:EF b):gI b:=fun x hx=>by have:=h x hx; omega
theorem EF.at{b:List Elem}(h:EF b){i:Nat}(hi:i<b.length):(b.getD i default).counts.length<2^30:=by rw[getD_some hi]; exact h _ (bh hi)
abbrev UG(p:aF):OV:=.box 27 11 (.dat (.fM p))
abbrev UH(q:Prop'):OV:=.box 30 7 (.dat (.prop q))
set_option maxHeartbeats 1000000 in
theorem S.lJ(p:aF)(q:Prop')(b:List Elem)(i:Int)(f:Bool)(hp:dW p)(hq:lg q)(hl:b.length<2^30)(hs:EF b):ak Tryz.prog 14 [.dat (.fM p),.dat (.prop q),.row 3 f (.elems b),.int i] (.bool (Hf p q b i)):=by
 have hpr:=hp.rules;have hst:=hp.states;generalize hres:Hf p q b i=res;refine ak.of Bd.lJ (by simp) rfl rfl ?_;refine ah.pure (S.og p q hp hq) rfl ?_;refine⟨fun h1=>?_,fun h1=>?_⟩
 ·replace h1:(fB p q !=0)=true:=h1;refine ay.bool ?_;rw[<- hres]; unfold Hf;rw[show(fB p q==0)=false by simpa using h1]; rfl
 replace h1:(fB p q !=0)=false:=h1;have h1':(fB p q==0)=true:=by simpa using h1
 repeat(refine VC.mk (by first|exact id|exact fun h=>⟨h,h⟩|(intro h; rw[h]; rfl)) ?_)
 refine⟨fun h2=>?_,fun h2=>?_⟩
 ·replace h2:(decide (i<0)||decide (i>=p.rules.length))=true:=h2;refine ay.bool ?_;rw[<- hres]; unfold Hf;rw[h1',h2]; rfl
 replace h2:(decide (i<0)||decide (i>=p.rules.length))=false:=h2;have hR:Hf p q b i=b.all (Tv p b i):=by unfold Hf; rw[h1',h2]; rfl
 refine aG.objs 4 [28,29,2,3,4] (fun k:Nat=>[(30,.int k)]) (fun _=>[(0,UG p),(1,UH q)]) (fun k=>k<=b.length/\(b.take k).all (Tv p b i)=true) (fun k=>b.length-k) 0 [0,1] rfl (by decide) (fun _=>rfl) ⟨ao _,rfl⟩ (sR rfl) ⟨mV rfl rfl,mV rfl rfl,trivial⟩ ?_;refine⟨(sR rfl),rfl,?_⟩;rintro k ⟨hk,hall⟩;refine⟨fun h3=>?_,fun h3=>?_⟩
 ·have hk':k<b.length:=by simpa using h3
  have hnx:=JQ (P:=Tv p b i) (d:=default) hk';have hnot:=fun h=>NU (P:=Tv p b i) (d:=default) hk' h
  have hle:=hs.at hk';generalize hX:b.getD k default=X at hnx hnot hle;refine .mk (by simp only[Rw.rng] at *; omega) ?_;conv=>whnf
  rw[show b.getD ((k:Int)).toNat default=X from hX];refine ah.pure (S.oL p i X hp hle) rfl ?_;have hlen:=@ail p i X;have hfit:=fun x=>@ain p i X x
  have hpo:Tv p b i X=((Vh p i X).1==0&&(Vh p i X).2.all (IK b)):=rfl;generalize hY:Vh p i X=PY at hlen hfit hpo;refine⟨fun h4=>?_,fun h4=>?_⟩
  ·replace h4:(PY.1 !=0)=true:=h4;refine ay.bool ?_;rw[<- hres,hR]
   have:(PY.1==0)=false:=by simpa using h4
   exact hnot (by rw[hpo,this]; rfl)
  replace h4:(PY.1 !=0)=false:=h4;have h4':(PY.1==0)=true:=by simpa using h4
  refine aG.objs 4 [43,44,28,29,30,2,3,4] (fun j:Nat=>[(45,.int j)]) (fun _=>[(0,UG p),(1,UH q)]) (fun j=>j<=PY.2.length/\(PY.2.take j).all (IK b)=true) (fun j=>PY.2.length-j) 0 [0,1] rfl (by decide) (fun _=>rfl) ⟨ao _,rfl⟩ (sR rfl) ⟨mV rfl rfl,mV rfl rfl,trivial⟩ ?_;refine⟨(sR rfl),rfl,?_⟩;rintro j ⟨hj,afB⟩;refine⟨fun h5=>?_,fun h5=>?_⟩
  ·have hj':j<PY.2.length:=by simpa using h5
   have hfj:=aaE (hfit (PY.2.getD j default) (by rw[getD_some hj']; exact bh hj'));refine .mk (by simp only[Rw.rng] at *; omega) ?_;refine ah.pure (S.jE b (PY.2.getD j default) f (by omega) hs.E (by omega)) rfl ?_;refine⟨fun h6=>?_,fun h6=>?_⟩
   ·replace h6:(!IK b (PY.2.getD j default))=true:=h6;refine ay.bool ?_;rw[<- hres,hR];refine hnot ?_;rw[hpo,h4',cV];exact NU hj' (by simpa using h6)
   ·replace h6:(!IK b (PY.2.getD j default))=false:=h6;refine .mk (by simp only[okI] at *; omega) ?_;refine⟨j+1,[0,1],⟨hj',by rw[JQ (d:=default) hj',afB,show IK b (PY.2.getD j default)=true by simpa using h6]; rfl⟩,by omega,(sR rfl),(sR rfl),mV rfl rfl,mV rfl rfl,trivial⟩
  ·have hj':j=PY.2.length:=by have:=aM h5; omega
   subst hj';rw[bx] at afB;refine .mk (by simp only[okI] at *; omega) ?_;refine⟨k+1,[0,1],⟨hk',by rw[hnx,hall,hpo,h4',afB]; rfl⟩,by omega,(sR rfl),(sR rfl),mV rfl rfl,mV rfl rfl,trivial⟩
 ·have hk':k=b.length:=by have:=aM h3; omega
  subst hk';rw[bx] at hall;exact ay.bool (by rw[<- hres,hR,hall])
def Au(p:aF)(q:Prop')(x:Elem):Bool:= !(uz p x)&& !(BJ p q x)
def Ej(p:aF)(q:Prop')(b:List Elem):Bool:=(fB p q==0)&&decide (b.length<=100)&&b.all (Au p q)&&(mG p q).all (IK b)&&(List.range p.rules.length).all fun i:Nat=>Hf p q b i
set_option maxHeartbeats 1000000 in
theorem S.jl(p:aF)(q:Prop')(b:List Elem)(f:Bool)(hp:dW p)(hq:lg q)(hl:b.length<2^30)(hs:EF b):ak Tryz.prog 5 [.dat (.fM p),.dat (.prop q),.row 3 f (.elems b)] (.bool (Ej p q b)):=by
 have hpr:=hp.rules;generalize hres:Ej p q b=res;refine ak.of Bd.jl (by simp) rfl rfl ?_;refine ah.pure (S.og p q hp hq) rfl ?_;repeat(refine VC.mk (by first|exact id|(intro h; rw[h]; rfl)) ?_)
 refine⟨fun h1=>?_,fun h1=>?_⟩
 ·replace h1:(fB p q !=0||decide (100<(b.length:Int)))=true:=h1;refine ay.bool ?_;rw[<- hres]; unfold Ej;rw[cY] at h1;rcases h1 with h1|h1
  ·rw[show(fB p q==0)=false by simpa using h1]; rfl
  ·have:=ag h1;rw[cB (by omega: ¬ b.length<=100),Bool.and_false]; rfl
 replace h1:(fB p q !=0||decide (100<(b.length:Int)))=false:=h1;rw[bk] at h1;obtain⟨h1,h1b⟩:=h1;have hlen:=aM h1b;have h1':(fB p q==0)=true:=by simpa using h1
 have hc0:fB p q=0:=by simpa using h1
 have hB:Ej p q b=(b.all (Au p q)&&(mG p q).all (IK b)&&(List.range p.rules.length).all fun i:Nat=>Hf p q b i):=by
  unfold Ej; rw[h1',cI (by omega:b.length<=100)]; simp
 obtain⟨_,b2,b3,_⟩:=Bg hc0;have hv:=Dv b3;have v1:=hv.pos; have v2:=hv.states; have v3:=hv.values;have hbad:mG p q=bG (yB q p.states.length (max 1 p.values.length) (4 ^ p.states.length)):=by rw[mG,h1,bad_law]; rfl
 obtain⟨l1,l2⟩:=L8 p q hp;refine aG.objs 4 [21,22,2,3,4] (fun k:Nat=>[(23,.int k)]) (fun _=>[(0,UG p),(1,UH q)]) (fun k=>k<=b.length/\(b.take k).all (Au p q)=true) (fun k=>b.length-k) 0 [0,1] rfl (by decide) (fun _=>rfl) ⟨ao _,rfl⟩ (sR rfl) ⟨mV rfl rfl,mV rfl rfl,trivial⟩ ?_;refine⟨(sR rfl),rfl,?_⟩;rintro k ⟨hk,hall⟩;refine⟨fun h3=>?_,fun h3=>?_⟩
 ·have hk':k<b.length:=by simpa using h3
  have hnx:=JQ (P:=Au p q) (d:=default) hk';have hnot:=fun h=>NU (P:=Au p q) (d:=default) hk' h
  have hle:=hs.at hk';generalize hX:b.getD k default=X at hnx hnot hle;refine .mk (by simp only[Rw.rng] at *; omega) ?_;conv=>whnf
  rw[show b.getD ((k:Int)).toNat default=X from hX];refine ah.pure (S.gZ p X hp hle) rfl ?_;refine .mk (by intro h; simp[h]; done) ?_;refine ah.iJ (fun _=>S.mM p q X hp hq hle (rE hc0)) rfl ?_;refine .mk (by intro h; rw[h]; rfl) ?_;refine⟨fun h4=>?_,fun h4=>?_⟩
  ·replace h4:(fA (uz p X) 1 !=0||BJ p q X)=true:=h4;refine ay.bool ?_;rw[<- hres,hB]
   have:Au p q X=false:=by
    unfold Au;rw[NT] at h4;rw[<- Bool.not_or,h4]; rfl
   rw[hnot this]; rfl
  ·replace h4:(fA (uz p X) 1 !=0||BJ p q X)=false:=h4;refine .mk (by simp only[okI] at *; omega) ?_;conv=>whnf
   have:Au p q X=true:=by
    unfold Au;rw[NT] at h4;rw[<- Bool.not_or,h4]; rfl
   exact⟨k+1,[0,1],⟨hk',by rw[hnx,hall,this]; rfl⟩,by omega,(sR rfl),(sR rfl),mV rfl rfl,mV rfl rfl,trivial⟩
 have hk':k=b.length:=by have:=aM h3; omega
 subst hk';rw[bx] at hall;rw[hall,cV] at hB;clear h3;refine ah.pure (S.iL p q p.states.length (max 1 p.values.length) hp hq rfl v1 v2 rfl (by omega) b2) rfl ?_;conv=>whnf
 rw[<- hbad];refine aG.objs 4 [40,41,2,3,4] (fun k:Nat=>[(42,.int k)]) (fun _=>[(0,UG p),(1,UH q)]) (fun k=>k<=(mG p q).length/\((mG p q).take k).all (IK b)=true) (fun k=>(mG p q).length-k) 0 [0,1] rfl (by decide) (fun _=>rfl) ⟨ao _,rfl⟩ (sR rfl) ⟨mV rfl rfl,mV rfl rfl,trivial⟩ ?_;refine⟨(sR rfl),rfl,?_⟩;rintro k ⟨hk,afC⟩;refine⟨fun h3=>?_,fun h3=>?_⟩
 ·have hk':k<(mG p q).length:=by simpa using h3
  have hle:=l2 ((mG p q).getD k default) (by rw[getD_some hk']; exact bh hk');refine .mk (by simp only[Rw.rng] at *; omega) ?_;refine ah.pure (S.jE b ((mG p q).getD k default) f (by omega) hs.E hle) rfl ?_;refine⟨fun h6=>?_,fun h6=>?_⟩
  ·replace h6:(!IK b ((mG p q).getD k default))=true:=h6;refine ay.bool ?_;rw[<- hres,hB,NU (P:=IK b) hk' (by simpa using h6)]; rfl
  ·replace h6:(!IK b ((mG p q).getD k default))=false:=h6;refine .mk (by simp only[okI] at *; omega) ?_;exact⟨k+1,[0,1],⟨hk',by rw[JQ (d:=default) hk',afC,show IK b ((mG p q).getD k default)=true by simpa using h6]; rfl⟩,by omega,(sR rfl),(sR rfl),mV rfl rfl,mV rfl rfl,trivial⟩
 have hk':k=(mG p q).length:=by have:=aM h3; omega
 subst hk';rw[bx] at afC;rw[afC,cV] at hB;clear h3;refine aG.objs 4 [53,2,3,4] (fun k:Nat=>[(54,.int k)]) (fun _=>[(0,UG p),(1,UH q)]) (fun k=>k<=p.rules.length/\((List.range k).all fun i:Nat=>Hf p q b i)=true) (fun k=>p.rules.length-k) 0 [0,1] rfl (by decide) (fun _=>rfl) ⟨ao _,rfl⟩ (sR rfl) ⟨mV rfl rfl,mV rfl rfl,trivial⟩ ?_;refine⟨(sR rfl),rfl,?_⟩;rintro k ⟨hk,ajE⟩;refine⟨fun h3=>?_,fun h3=>?_⟩
 ·have hk':k<p.rules.length:=by simpa using h3
  refine ah.pure (S.lJ p q b k f hp hq hl hs) rfl ?_;refine⟨fun h6=>?_,fun h6=>?_⟩
  ·replace h6:(!Hf p q b k)=true:=h6;refine ay.bool ?_;rw[<- hres,hB];rw[List.all_eq_false];exact⟨k,cD.2 hk',by simpa using h6⟩
  ·replace h6:(!Hf p q b k)=false:=h6;refine .mk (by simp only[okI] at *; omega) ?_;exact⟨k+1,[0,1],⟨hk',by rw[cp,en,ajE]; simpa using h6⟩,by omega,(sR rfl),(sR rfl),mV rfl rfl,mV rfl rfl,trivial⟩
 ·have hk':k=p.rules.length:=by have:=aM h3; omega
  subst hk';exact ay.bool (by rw[<- hres,hB,ajE])
end Go.Proofs.YtdloaandiobgdaaGreatDoor
