/-
 Configurations of families without faults, messages and conditions in a clique: which are valid. No condition.
-/
import Derived.Test.YtdloaandiobgdaaGreatDoorQd
import Derived.Test.YtdloaandiobgdaaGreatDoorLh
namespace Go.Proofs.YtdloaandiobgdaaGreatDoor
open Go.Ab Go.Proofs
set_option maxRecDepth 100000
structure mF where
 shape:List Int
 states:List Int
 correct:Int
 sent:List Int
 sF:List Int
 value:Int
@[reducible] def tK(c:mF):V:=.agg [.row 0 false (.ints c.shape),.row 0 false (.ints c.states),.int c.correct,.row 0 false (.ints c.sent),.row 0 false (.ints c.sF),.int c.value]
@[reducible] def Zg(n:Int):V:=.agg [.int n,.int 0,.int 0]
structure D8(c:mF):Prop where
 shape:c.shape.length<2^30
 states:c.states.length<2^30
 sent:c.sent.length<2^30
 sF:c.sF.length<2^30
structure tN(p:aF):Prop where
 top:p.topology=1
 fault:p.fault=0
 msg:p.messages=[]
 res:p.dL=[]
theorem IY{p:aF}(h:Bj p=true):tN p:=by
 unfold Bj at h;simp only[aD,bt] at h;obtain⟨⟨⟨h1,h2⟩,h3⟩,h4⟩:=h;exact⟨h1,h2,ai (by omega),ai (by omega)⟩
def Xo(l:List Int)(m:Int):Bool:=l.all fun x=>iq x 0 m
theorem S.nG(p:aF)(n:Int)(hpl:tN p):ak Tryz.prog 99 [.dat (.fM p),Zg n] (.int n):=by
 refine ak.of Bd.nG (by simp) rfl rfl ?_;conv=>whnf
 refine Fork.mk (fun q=>absurd (q.symm.trans (show(p.fault==3)=false by rw[hpl.fault]; rfl)).symm aR) (fun _=>?_);conv=>whnf
 exact ay.int rfl
def ak2(n:Int):Bool:=iq n 1 1048576
def P6(n:Int):Int:=bif ak2 n then(bif decide (8<n) then 4 else 0) else 8
def Na(p:aF)(n:Int)(c:mF):Bool:=((c.states.length:Int)==n)&&Xo c.states ((p.states.length:Int)-1)&&(c.correct==n-0)&&((c.sent.length:Int)==0)&&Xo c.sent 1048576&&((c.sF.length:Int)==0)&&Xo c.sF 0&&decide (0<=c.value)&&decide (c.value<max 1 (p.values.length:Int))&&((c.shape.length:Int)==0)
theorem ais{n:Int}(h:(P6 n !=0)=false):1<=n/\n<=8:=by
 have h2:P6 n=0:=by simpa using h
 unfold P6 ak2 iq at h2;cases h3:decide (n>=1)&&decide (n<=1048576) with
 |false=>rw[h3] at h2; exact absurd (show(8:Int)=0 from h2) (by decide)
 |true =>
  rw[h3,bE] at h2;cases h4:decide (8<n) with
  |true=>rw[h4] at h2; exact absurd (show(4:Int)=0 from h2) (by decide)
  |false =>
   rw[aD] at h3;have h5:=ag h3.1;have h6:=aM h4;omega
def vcN(p:aF)(n:Int)(c:mF):Int:=bif P6 n !=0 then P6 n else bif Na p n c then 0 else 1
end Go.Proofs.YtdloaandiobgdaaGreatDoor
namespace Go.Proofs.YtdloaandiobgdaaGreatDoor
open Go.Ab Go.Proofs
set_option maxRecDepth 100000
theorem ait(c:Nat)(v:V): ∀ (cs:List V),V.aS (cs.set c v)=(V.aS cs).set c v.aI:=by
 induction c with
 |zero=>intro cs; cases cs<;>rfl
 |succ c ih =>
  intro cs;cases cs with
  |nil=>rfl
  |cons x r=>show x.aI::V.aS (r.set c v)=x.aI::(V.aS r).set c v.aI; rw[ih r]
theorem UK: ∀ (cs:List V),(V.aS cs).length=cs.length:=by
 intro cs;induction cs with
 |nil=>rfl
 |cons x r ih=>show(V.aS r).length+1=r.length+1; rw[ih]
theorem aG.anU{P:Program}{N pn nx:Nat}{b:aC}{Q:Qz}{m:Fm}{h:Hz}(j c ty k:Nat){k' oty:Nat}{cs:List V}(hj:h.get j=some (.box oty (cs.length+1) (.agg cs)))(hc:c<cs.length)(hg:(V.aS cs).getD c .any= .sl k' true [])(hk:Bv k=true)(hn:j<nx)
  (H:aG P N pn b Q m ((nx,some (.row ty k .nil []))::(j,some (.box oty (cs.length+1) (.agg (cs.set c (.own nx)))))::h) (nx+1)):aG P N pn b Q m h nx:=by
 refine⟨fun fr hl R=>?_⟩;have H':=H.ok fr hl R;have e:Hz.aj ((nx,some (.row ty k .nil []))::(j,some (.box oty (cs.length+1) (.agg (cs.set c (.own nx)))))::h)=upd (upd h.aj j (some ⟨oty,(V.aS cs).length+1,[.agg ((V.aS cs).set c (.own nx))]⟩)) nx (some ⟨ty,k,[]⟩):=by
  rw[bI,bI,UK];show upd (upd h.aj j (some ⟨oty,cs.length+1,[.agg (V.aS (cs.set c (.own nx)))]⟩)) nx (some ⟨ty,k,[]⟩)=_;rw[ait]; rfl
 rw[e] at H';obtain⟨I,μ,⟨s0,w0,i0⟩,round⟩:=H';have hj':h.aj j=some ⟨oty,(V.aS cs).length+1,[.agg (V.aS cs)]⟩:=by rw[UK]; exact aK hj
 exact⟨I,μ,⟨s0,Wk.ahw j c ty k hj' (by rw[UK]; exact hc) hg hk hn w0,i0⟩,round⟩
def ctS(a:List Int)(x:Int):List Int:=a.set x.toNat (a.getD x.toNat 0+1)
def kN(k:Nat)(l:List Int):List Int:=l.foldl ctS (List.replicate k 0)
theorem afI: ∀ {l a:List Int},(l.foldl ctS a).length=a.length:=by
 intro l;induction l with
 |nil=>intro a; rfl
 |cons x l ih=>intro a; rw[eB,ih]; simp[ctS]
theorem oC{k:Nat}{l:List Int}:(kN k l).length=k:=by unfold kN; rw[afI,List.length_replicate]
theorem acR{k i:Nat}{l:List Int}(hi:i<l.length):kN k (l.take (i+1))=ctS (kN k (l.take i)) (l.getD i 0):=by
 unfold kN;rw[cQ,eh];simp[hi]
theorem aiu: ∀ {l a:List Int} {j:Nat},a.getD j 0<=(l.foldl ctS a).getD j 0/\(l.foldl ctS a).getD j 0<=a.getD j 0+l.length:=by
 intro l;induction l with
 |nil=>intro a j; simp
 |cons x l ih =>
  intro a j;rw[eB];have h:=ih (a:=ctS a x) (j:=j);have e:a.getD j 0<=(ctS a x).getD j 0/\(ctS a x).getD j 0<=a.getD j 0+1:=by
   unfold ctS;rw[ab (l:=a.set _ _),List.getElem?_set];by_cases h1:x.toNat=j
   ·subst h1;rw[bc rfl];by_cases h2:x.toNat<a.length
    ·rw[bc h2]; simp only[eL]; omega
    ·rw[bB h2]
     have:a.getD x.toNat 0=0:=by simp[List.getD_eq_getElem?_getD,List.getElem?_eq_none (Nat.le_of_not_lt h2)]
     simp only[Option.getD_none]; omega
   ·rw[bB h1,<- ab]; omega
  simp only[bX];omega
theorem aaI{k j:Nat}{l:List Int}:0<=(kN k l).getD j 0/\(kN k l).getD j 0<=l.length:=by
 have h:=aiu (l:=l) (a:=List.replicate k 0) (j:=j);have e:(List.replicate k (0:Int)).getD j 0=0:=by
  rw[ab,List.getElem?_replicate]; split<;>rfl
 unfold kN;rw[e] at h;omega
def pU(p:aF)(c:mF):Elem:=⟨c.value,kN p.states.length c.states⟩
theorem Ti{p:aF}{n:Int}{c:mF}(h:vcN p n c=0):1<=n/\n<=8/\Na p n c=true:=by
 unfold vcN at h;cases h1:P6 n !=0 with
 |true=>rw[h1] at h; rw[show P6 n=0 from h] at h1; cases h1
 |false =>
  rw[h1,ap] at h;obtain⟨n1,n2⟩:=ais h1;refine⟨n1,n2,?_⟩;cases h7:Na p n c with
  |true=>rfl
  |false=>rw[h7] at h; exact absurd (show(1:Int)=0 from h) (by decide)
theorem Ac{p:aF}{n:Int}{c:mF}(h:Na p n c=true): ∀ x∈c.states,0<=x/\x<p.states.length:=by
 unfold Na Xo at h;simp only[aD,bj] at h;intro x hx;have:=h.1.1.1.1.1.1.1.1.2 x hx;unfold iq at this;simp only[aD,aq] at this;omega
abbrev aiv:V:=.row 0 true .nil
def Xp(n i:Nat):List Int:=List.replicate i (-1)++List.replicate (n-i) 0
theorem Xq{n i:Nat}(h:i<=n):(Xp n i).length=n:=by simp[Xp]; omega
theorem acS{n i:Nat}(h:i<n):(Xp n i).set i (-1)=Xp n (i+1):=by
 unfold Xp;rw[ga _ _ (by simp),List.length_replicate,eN,show n-i=(n-(i+1))+1 by omega,du,eV,List.replicate_succ',bO]; rfl
theorem S.oD(n:Nat)(h0:0<n)(hn:n<2^20):ak Tryz.prog 134 [.int n] (.row 0 false (.ints (List.replicate n (-1)))):=by
 refine ak.of Bd.oD (by simp) rfl rfl ?_;conv=>whnf
 have hmx:max (n:Int) 0=n:=by omega
 rw[hmx,I4 h0];conv=>whnf
 refine .mk (by omega) ?_;conv=>whnf
 refine aG.vK 30 [3,8,9] (fun i:Nat=>[(10,.int i)]) (fun i=>[(3,lq (Xp n i))]) (fun i=>i<=n) (fun i=>n-i) 0 [3] rfl (by decide) (fun _=>rfl) (ao _) ?_ ?_ ?_
 ·exact(sR rfl)
 ·exact⟨iD rfl rfl,trivial⟩
 conv=>whnf
 refine⟨(sR rfl),rfl,?_⟩;rintro i hi;have hl:=Xq hi;conv=>whnf
 refine⟨fun g1=>?_,fun g1=>?_⟩
 ·have hi':i<n:=by simpa using g1
  conv=>whnf
  repeat(refine VC.mk (by first|(simp only[Rw.rng,bN]; omega)|(simp only[okI] at *; omega)) ?_; conv=>whnf)
  refine⟨i+1,[3],by omega,by omega,(sR rfl),(sR rfl),okF rfl nofun rfl rfl rfl ⟨rfl,rfl⟩ ?_,trivial⟩;rw[<- acS hi']; rfl
 ·have hi':i=n:=by
   have: ¬ ((i:Int)<(n:Int)):=by simpa using g1
   omega
  subst hi';conv=>whnf
  have:=Xq (n:=i) (ba i);have hf:Xp i i=List.replicate i (-1):=by simp[Xp]
  rw[hf];exact⟨zl trivial rfl⟩
@[reducible] def anV(n:Nat):V:=.agg [.row 0 false (.ints (List.replicate n (-1))),.row 0 false (.ints (List.replicate n (-1))),.row 0 false (.ints (List.replicate n (-1)))]
theorem S.sG(l:List Int)(n:Nat)(h0:0<n)(hn:n<2^20):ak Tryz.prog 103 [.int 1,.row 0 false (.ints l),.int n] (.dD [anV n,.bool true]):=by
 refine ak.of Bd.sG (by simp) rfl rfl ?_;conv=>whnf
 refine ah.pure (S.oD n h0 hn) rfl ?_;conv=>whnf
 refine ah.pure (S.oD n h0 hn) rfl ?_;conv=>whnf
 refine ah.pure (S.oD n h0 hn) rfl ?_;conv=>whnf
 refine Fork.mk (fun q=>absurd (q.symm.trans (rfl)).symm aR) (fun _=>?_);conv=>whnf
 refine Fork.mk (fun q=>absurd (q.symm.trans (rfl)).symm aR) (fun _=>?_);conv=>whnf
 refine Fork.mk (fun q=>absurd (q.symm.trans (rfl)).symm aR) (fun _=>?_);conv=>whnf
 exact ay.eqv rfl
@[reducible] def ak3(n:Nat):V:=.row 0 false (.ints (List.replicate n (-1)))
@[reducible] def LQ(p:aF)(n:Nat)(c:mF):V:=.agg ((Dat.fM p).cells++[.int n,.int 0,.int 0,.row 0 false (.ints c.shape),.row 0 false (.ints c.states),.int c.correct,.row 0 false (.ints c.sent),.row 0 false (.ints c.sF),.int c.value,ak3 n,ak3 n,ak3 n])
theorem S.uV(p:aF)(n:Nat)(c:mF)(hp:p.topology=1)(hn:c.states.length=n)(h0:0<n)(h1:n<2^20):ak Tryz.prog 74 [.dat (.fM p),Zg n,tK c] (LQ p n c):=by
 refine ak.of Bd.uV (by simp) rfl rfl ?_;conv=>whnf
 rw[hp,hn];refine ah.pure (S.sG c.shape n h0 h1) rfl ?_;conv=>whnf
 exact ay.eqv rfl
theorem S.QU(p:aF)(n:Nat)(c:mF)(r:Rule)(b:Bool)(hg:r.guards=[]):ak Tryz.prog 137 [LQ p n c,.dat (.rule r),.bool b] (.bool true):=by
 refine ak.of Bd.lS (by simp) rfl rfl ?_;conv=>whnf
 refine aG.same [12,13] (fun i:Nat=>[(14,.int i)]) (fun i=>i=0) (fun _=>0) 0 rfl (by decide) rfl (fun _=>rfl) rfl ⟨⟨_,rfl,rfl⟩,trivial⟩ ?_;conv=>whnf
 refine⟨rfl,?_⟩;rintro i rfl;conv=>whnf
 refine Fork.mk (fun q=>absurd (q.symm.trans (by rw[hg]; rfl)).symm aR) (fun _=>?_);conv=>whnf
 exact ay.bool rfl
def exC(r:Rule)(st:List Int)(x:Int)(i:Nat):Bool:=(r.ex.length:Int)==0||(List.range i).any (fun j=> !((j:Int)==x)&&Gp r.ex (st.getD j 0))
def alC(r:Rule)(st:List Int)(x:Int)(i:Nat):Bool:=(List.range i).all (fun j=>((j:Int)==x)||((r.all.length:Int)==0||Gp r.all (st.getD j 0)))
def acT(r:Rule)(st:List Int)(x:Int):Bool:=exC r st x st.length&&alC r st x st.length
theorem Xr{r:Rule}{st:List Int}{x:Int}{i:Nat}:exC r st x (i+1)=(exC r st x i||(!((i:Int)==x)&&Gp r.ex (st.getD i 0))):=by
 simp only[exC,cp,eT,ez,List.any_nil,fL,Bool.or_assoc]
theorem Xt{r:Rule}{st:List Int}{x:Int}{i:Nat}:alC r st x (i+1)=(alC r st x i&&(((i:Int)==x)||((r.all.length:Int)==0||Gp r.all (st.getD i 0)))):=by
 simp only[alC,cp,en,eC,List.all_nil,eK]
theorem S.QV(p:aF)(n:Nat)(c:mF)(r:Rule)(x:Int)(hr:wS r)(hc:D8 c):ak Tryz.prog 138 [LQ p n c,.dat (.rule r),.int x] (.bool (acT r c.states x)):=by
 have g1:=hr.ex; have g2:=hr.all; have g3:=hc.states;refine ak.of Bd.lU (by simp) rfl rfl ?_;conv=>whnf
 refine aG.same [2,3,4,17,18] (fun i:Nat=>[(19,.int i),(7,.bool (exC r c.states x i)),(8,.bool (alC r c.states x i))]) (fun i=>i<=c.states.length) (fun i=>c.states.length-i) 0 rfl (by decide) rfl (fun _=>rfl) (ao _) ⟨⟨_,rfl,rfl⟩,⟨_,rfl,?_⟩,⟨_,rfl,rfl⟩,trivial⟩ ?_
 ·show(V.bool (exC r c.states x 0)).aI=(V.bool ((r.ex.length:Int)==0)).aI;rw[exC]; simp
 conv=>whnf
 refine⟨rfl,?_⟩;rintro i hi;conv=>whnf
 refine⟨fun h3=>?_,fun h3=>?_⟩
 ·have hi':i<c.states.length:=by simpa using h3
  conv=>whnf
  refine .mk (by simp only[Rw.rng] at *; first|omega|(simp_all; done)|(simp_all; omega)) ?_;conv=>whnf
  refine⟨fun h4=>?_,fun h4=>?_⟩
  ·replace h4:((i:Int)==x)=true:=h4;conv=>whnf
   refine .mk (by simp only[okI] at *; first|omega|(simp_all; done)|(simp_all; omega)) ?_;conv=>whnf
   refine⟨i+1,hi',by omega,⟨⟨_,rfl,rfl⟩,⟨_,rfl,?_⟩,⟨_,rfl,?_⟩,trivial⟩,?_,rfl⟩
   ·rw[Xr,h4]; simp[V.aI]
   ·rw[Xt,h4]; simp[V.aI]
   ·repeat' (first|exact trivial|exact⟨_,rfl,rfl⟩|constructor)
  ·replace h4:((i:Int)==x)=false:=h4;conv=>whnf
   repeat(refine VC.mk (by first|exact id|exact fun h=>⟨h,h⟩) ?_; conv=>whnf)
   refine ah.iJ (fun _=>S.slices_Contains_int r.ex (c.states.getD i 0) false (by omega)) rfl ?_;conv=>whnf
   repeat(refine VC.mk (by first|exact id|exact fun h=>⟨h,h⟩|(intro h; rw[h]; rfl)) ?_; conv=>whnf)
   refine ah.iJ (fun _=>S.slices_Contains_int r.all (c.states.getD i 0) false (by omega)) rfl ?_;conv=>whnf
   repeat(refine VC.mk (by first|exact id|(intro h; simp[h]; done)|(simp only[okI] at *; first|omega|(simp_all; done)|(simp_all; omega))) ?_; conv=>whnf)
   refine⟨i+1,hi',by omega,⟨⟨_,rfl,rfl⟩,⟨_,rfl,?_⟩,⟨_,rfl,?_⟩,trivial⟩,?_,rfl⟩
   ·rw[Xr,h4]; simp[V.aI,vS]
   ·rw[Xt,h4]; simp[V.aI,vS]
   ·repeat' (first|exact trivial|exact⟨_,rfl,rfl⟩|constructor)
 ·have hi':i=c.states.length:=by
   have: ¬ ((i:Int)<(c.states.length:Int)):=by simpa using h3
   omega
  subst hi';conv=>whnf
  refine VC.mk id ?_;conv=>whnf
  exact ay.bool rfl
structure afJ(p:aF):Prop where
 kind: ∀ r∈p.rules,r.kind=1\/r.kind=2\/r.kind=3
 guards: ∀ r∈p.rules,r.guards=[]
@[reducible] def acU(k w o:Int):V:=.agg [.int k,.int w,.int o]
def enR(r:Rule)(c:mF)(w o:Int):Bool :=
 bif (c.states.getD w.toNat 0 !=r.fr)||(decide (0<=r.read)&&c.value !=r.read) then false
 else bif r.kind==2 then !(decide (o<0)||decide ((c.states.length:Int)<=o)||o==w||c.states.getD o.toNat 0 !=r.dQ)
 else bif o != -1 then false
 else bif r.kind==1 then acT r c.states w
 else true
def enB(p:aF)(c:mF)(k w o:Int):Bool :=
 bif decide (k<0)||decide ((p.rules.length:Int)<=k)||decide (w<0)||decide ((c.states.length:Int)<=w) then false
 else enR (p.rules.getD k.toNat default) c w o
theorem aaJ{p:aF}{k:Int}(h1:0<=k)(h2:k<p.rules.length):p.rules.getD k.toNat default∈p.rules:=by
 have:k.toNat<p.rules.length:=by omega
 rw[getD_some this]; exact bh this
theorem S.P7(p:aF)(n:Nat)(c:mF)(k w o:Int)(b:Bool)(hp:dW p)(hc:D8 c)(hk:afJ p):ak Tryz.prog 105 [LQ p n c,acU k w o,.bool b] (.bool (enB p c k w o)):=by
 have g3:=hc.states;generalize hres:enB p c k w o=res;refine ak.of Bd.kP (by simp) rfl rfl ?_;conv=>whnf
 repeat(refine VC.mk (by first|exact id|exact fun h=>⟨h,h⟩|(intro h; rw[h]; rfl)) ?_; conv=>whnf)
 refine⟨fun h1=>?_,fun h1=>?_⟩
 ·conv=>whnf
  refine ay.bool ?_;rw[<- hres];unfold enB;rw[show(decide (k<0)||decide ((p.rules.length:Int)<=k)||decide (w<0)||decide ((c.states.length:Int)<=w))=true from h1]; rfl
 replace h1:(decide (k<0)||decide ((p.rules.length:Int)<=k)||decide (w<0)||decide ((c.states.length:Int)<=w))=false:=h1;have hres':enR (p.rules.getD k.toNat default) c w o=res:=by rw[<- hres]; unfold enB; rw[h1]; rfl
 simp only[bk,bA] at h1;obtain⟨⟨⟨k1,k2⟩,w1⟩,w2⟩:=h1;have hm:=aaJ (p:=p) (k:=k) (by omega) (by omega);have hkd:=hk.kind _ hm;have hgd:=hk.guards _ hm;have hsr:=hp.rule k.toNat;conv=>whnf
 repeat(refine VC.mk (by first|exact id|exact fun h=>⟨h,h⟩|(intro h; rw[h]; rfl)|(intro h; simp_all; done)|(simp only[Rw.rng] at *; first|omega|(simp_all; done)|(simp_all; omega))) ?_; conv=>whnf)
 revert hkd hgd hsr hres' hm;generalize p.rules.getD k.toNat default=r;intro hres' hm hkd hgd hsr;refine⟨fun h2=>?_,fun h2=>?_⟩
 ·conv=>whnf
  refine ay.bool ?_;rw[<- hres',enR,show(c.states.getD w.toNat 0 !=r.fr||decide (0<=r.read)&&c.value !=r.read)=true from h2]; rfl
 replace h2:(c.states.getD w.toNat 0 !=r.fr||decide (0<=r.read)&&c.value !=r.read)=false:=h2;rw[enR,h2,ap] at hres';conv=>whnf
 repeat(refine VC.mk (by first|exact id|(intro h; rw[h]; rfl)) ?_; conv=>whnf)
 refine⟨fun h3=>?_,fun h3=>?_⟩
 ·replace h3:(r.kind==2||r.kind==5)=true:=h3;have h3':(r.kind==2)=true:=by
   rcases hkd with h|h|h<;>simp_all
  rw[h3',bE] at hres';conv=>whnf
  repeat(refine VC.mk (by first|exact id|exact fun h=>⟨h,h⟩|(intro h; rw[h]; rfl)|(simp only[Rw.rng] at *; first|omega|(simp_all; done)|(simp_all; omega))) ?_; conv=>whnf)
  refine⟨fun h4=>?_,fun h4=>?_⟩
  ·conv=>whnf
   refine ay.bool ?_;rw[<- hres',show(decide (o<0)||decide ((c.states.length:Int)<=o)||o==w||c.states.getD o.toNat 0 !=r.dQ)=true from h4]; rfl
  replace h4:(decide (o<0)||decide ((c.states.length:Int)<=o)||o==w||c.states.getD o.toNat 0 !=r.dQ)=false:=h4;rw[h4] at hres';conv=>whnf
  repeat(refine VC.mk (by first|exact id|(intro h; simp[h]; done)) ?_; conv=>whnf)
  refine ah.iJ (res:=.bool true) (fun q=>by rw[h3'] at q; cases q) rfl ?_;conv=>whnf
  refine .mk (by intro h; rw[h]; rfl) ?_;conv=>whnf
  exact ay.bool (by rw[<- hres',h3']; rfl)
 replace h3:(r.kind==2||r.kind==5)=false:=h3;have h3':(r.kind==2)=false:=by simp_all
 rw[h3',ap] at hres';conv=>whnf
 refine⟨fun h4=>?_,fun h4=>?_⟩
 ·replace h4:(o != -1)=true:=h4;conv=>whnf
  rw[h4] at hres';exact ay.bool hres'.symm
 replace h4:(o != -1)=false:=h4;rw[h4,ap] at hres';conv=>whnf
 refine⟨fun h5=>?_,fun h5=>?_⟩
 ·replace h5:(r.kind==1)=true:=h5;rw[h5,bE] at hres';conv=>whnf
  refine ah.pure (S.QU p n c r b hgd) rfl ?_;conv=>whnf
  repeat(refine VC.mk (by first|exact id|(intro h; simp[]; done)) ?_; conv=>whnf)
  refine ah.iJ (fun _=>S.QV p n c r w hsr hc) rfl ?_;conv=>whnf
  refine VC.mk id ?_;conv=>whnf
  exact ay.bool hres'.symm
 replace h5:(r.kind==1)=false:=h5;rw[h5,ap] at hres';conv=>whnf
 have h6:(r.kind==4)=false:=by rcases hkd with h|h|h<;>simp_all
 refine Fork.mk (fun q=>absurd (q.symm.trans (h6)).symm aR) (fun _=>?_);conv=>whnf
 exact ay.bool hres'.symm
abbrev UL(c:mF)(n:Nat):V:=.agg [.row 0 false (.ints c.shape),.own n,.int c.correct,.row 0 false (.ints c.sent),.row 0 false (.ints c.sF),.int c.value]
theorem gq.Ai{h0 h:Hz}{n c j:Nat}{post:T->Hp->Prop}{v:V}{o:OV}{t:T}(hj:h.get j=some o)(hg:o.good (j+1)=true)(hf:o.zn=true)(hc:(h0.get c).isSome=true->j=c)(hc':(h0.get c).isSome=true\/c=n)
  (ht:t.ids (fun i=>i=c)) (hv:T.sub (fun i=>i≠j) h.aj (t.ren fun _=>j) v.aI) (hp:post t (Hz.aj [(c,some o)])):gq h0 n post v h:=by
 have hgood:=(OV.sS hg).2;have hM: ∀ i,i=c->(h0.aj i).isSome=true\/i=n:=by
  rintro i rfl;rcases hc' with h|h
  ·left; simpa [Hz.aj] using h
  ·exact .inr h
 have hx: ∀ i ob,Hz.aj [(c,some o)] i=some ob->i=c/\ob=o.au:=fun i ob hi=>by
  rw[Lm] at hi;split at hi
  ·cases hi; exact⟨by assumption,rfl⟩
  ·cases hi
 refine⟨fun i=>i≠j,fun _=>j,t,Hz.aj [(c,some o)],hp,hv,fun i ob hi=>?_,fun i i' hi hi' _=>?_,T.aW hM _ ht,fun i ob hi=>?_,fun i hi hi'=>?_⟩
 ·obtain⟨rfl,rfl⟩:=hx i ob hi;refine⟨o.au,aK hj,by simp,rfl,rfl,?_,uS hgood⟩;rw[OV.fC hf]; exact dR _
 ·obtain⟨oi,hi⟩:=am.1 hi;obtain⟨oj,hi'⟩:=am.1 hi';rw[(hx _ _ hi).1,(hx _ _ hi').1]
 ·obtain⟨rfl,rfl⟩:=hx i ob hi;exact⟨hM _ rfl,T.aA (fun _ h=>h.elim) _ (OV.xK hf)⟩
 ·obtain⟨oi,hi'⟩:=am.1 hi';obtain⟨rfl,_⟩:=hx _ _ hi';exact hc (by simpa [Hz.aj] using hi)
theorem UM(l:List Int)(ρ:Nat->Nat):(V.row 0 false (.ints l)).aI.ren ρ=(V.row 0 false (.ints l)).aI:=O7 _ (eY (V.jS _ rfl))
theorem aiw{c:mF}{n:Nat}{ρ:Nat->Nat}:(UL c n).aI.ren ρ=(UL c (ρ n)).aI:=by
 show T.agg [(V.row 0 false (.ints c.shape)).aI.ren ρ,.own (ρ n),.int c.correct,(V.row 0 false (.ints c.sent)).aI.ren ρ,(V.row 0 false (.ints c.sF)).aI.ren ρ,.int c.value]=_;rw[UM,UM,UM]; rfl
theorem UN(l:List Int)(M:Nat->Prop):(V.row 0 false (.ints l)).aI.ids M:=T.aW (fun _ h=>h.elim) _ (eY (V.jS (.row 0 false (.ints l)) rfl))
theorem aaK{c:mF}{n:Nat}:(UL c n).aI.ids (fun i=>i=n):=⟨UN _ _,rfl,trivial,UN _ _,UN _ _,trivial,trivial⟩
theorem S.qE(c:mF)(hc:D8 c)(n:Nat):aP Tryz.prog 73 (V.aS [tK c]) (Hz.aj []) n (fun t hp=>t=(UL c n).aI/\hp=Hz.aj [(n,some (lq c.states))]):=by
 have g1:=hc.shape; have g2:=hc.states; have g3:=hc.sent; have g4:=hc.sF;refine nT.of (nx:=0) Bd.qE (by simp) ⟨_,_,rfl,rfl⟩ rfl rfl ?_;conv=>whnf
 repeat(refine VC.mk (by simp only[kT,qX,Rw.len]; omega) ?_; conv=>whnf)
 refine gq.Ai (c:=n) (j:=9) (o:=lq c.states) (t:=(UL c n).aI) rfl rfl rfl nofun (.inr rfl) aaK ?_ ⟨rfl,rfl⟩;rw[aiw];exact⟨zl (by decide) rfl,aH _,aH _,zl (by decide) rfl,zl (by decide) rfl,aH _,trivial⟩
theorem S.G8(c:mF)(hc:D8 c):BU Tryz.prog 73 (V.aS [tK c]) (fun n=>(UL c n).aI) (some ⟨3,0,c.states.map T.int⟩):=by
 refine⟨by exact V.eG [tK c] rfl,fun n=>aaK,fun ob h=>?_,fun ob h=>?_,fun n=>?_⟩
 ·cases h;show T.bn (c.states.map T.int)=true;rw[iO]; intro t ht; obtain⟨x,_,rfl⟩:=ax.1 ht; rfl
 ·cases h; exact show(0:Nat)≠gK by decide
 ·have:=S.qE c hc n;have e1:Hz.aj [(n,some (lq c.states))]=jM no n (some ⟨3,0,c.states.map T.int⟩):=by
   rw[bI]; simp[jM,OV.au,Rw.aS,V.aS]; rfl
  rw[e1] at this;exact this
def Iu(r:Rule)(s:List Int)(w:Int)(a:List Int)(i:Nat):List Int:=(List.range i).foldl (fun a (j:Nat)=>bif (j:Int) !=w then a.set j (r.response.getD (s.getD j 0).toNat 0) else a) a
theorem JU{r:Rule}{s a:List Int}{w:Int}{i:Nat}:Iu r s w a (i+1)=bif (i:Int) !=w then(Iu r s w a i).set i (r.response.getD (s.getD i 0).toNat 0) else Iu r s w a i:=by
 unfold Iu; rw[cp,eh]; rfl
theorem NV{r:Rule}{s a:List Int}{w:Int}{i:Nat}:(Iu r s w a i).length=a.length:=by
 induction i with
 |zero=>rfl
 |succ i ih=>rw[JU]; cases ((i:Int) !=w) with
  |true=>rw[bE,dv,ih]
  |false=>exact ih
def FM(r:Rule)(s:List Int)(w o:Int):List Int :=
 let a:=s.set w.toNat r.to
 bif r.kind==2 then a.set o.toNat r.yT else bif r.kind==3 then Iu r s w a s.length else a
def BH(r:Rule)(c:mF)(w o:Int):mF:=⟨c.shape,FM r c.states w o,c.correct,c.sent,c.sF,bif decide (0<=r.write) then r.write else c.value⟩
theorem ay.acV{h:Hz}{j:Nat}{s l t f:List Int}{x v z:Int}(q:h.get j=some (lq l)):ay (.dD [tK ⟨s,l,x,t,f,v⟩,.int z]) (.dD [.agg [.row 0 false (.ints s),.own j,.int x,.row 0 false (.ints t),.row 0 false (.ints f),.int v],.int z]) h :=
 ⟨⟨⟨aH _,zl trivial q,aH _,aH _,aH _,aH _,trivial⟩,aH _,trivial⟩⟩
set_option maxHeartbeats 1000000 in
theorem S.UO(p:aF)(n:Nat)(c:mF)(k w o:Int)(r:Rule)(hc:D8 c)(hr:p.rules.getD k.toNat default=r)(h1:0<=k/\k<p.rules.length)(h2:0<=w/\w<c.states.length)(h3:r.kind=2->0<=o/\o<c.states.length)
  (hk:r.kind=1\/r.kind=2\/r.kind=3) (hs:r.send=[]) (hb:r.kind=3-> ∀ x∈c.states,0<=x/\x<r.response.length) (_hp:p.rules.length<2^30) (_hr2:r.response.length<2^30):ak Tryz.prog 76 [LQ p n c,acU k w o] (.dD [tK (BH r c w o),.int 0]):=by
 have g2:=hc.states;generalize hres:(V.dD [tK (BH r c w o),.int 0])=res;refine ak.of Bd.nH (by simp) rfl (by rw[<- hres]; rfl) ?_;conv=>whnf
 refine .mk (by simp only[Rw.rng] at *; first|omega|(simp_all; done)|(simp_all; omega)) ?_;conv=>whnf
 refine ah.heap (BU.frame (S.G8 c hc) _ _) ?_;rintro t hp' ⟨rfl,rfl⟩;refine⟨UL c 15,(15,some (lq c.states))::_,rfl,ZA,?_⟩;rw[hr];obtain⟨w1,w2⟩:=h2;conv=>whnf
 repeat(refine VC.mk (by first|(simp only[Rw.rng]; omega)|(simp only[okI] at *; omega)) ?_; conv=>whnf)
 rcases hk with hk|hk|hk
 ·have hN:FM r c.states w o=c.states.set w.toNat r.to:=by unfold FM; rw[hk]; rfl
  rw[hk];refine Fork.mk (fun q=>absurd (q.symm.trans (rfl)).symm aR) (fun _=>?_);conv=>whnf
  refine Fork.mk (fun q=>absurd (q.symm.trans (rfl)).symm aR) (fun _=>?_);conv=>whnf
  refine Fork.mk (fun q=>absurd (q.symm.trans (rfl)).symm aR) (fun _=>?_);conv=>whnf
  refine⟨fun h5=>?_,fun h5=>?_⟩
  all_goals
   conv=>whnf
   refine aG.same [4,6,7,77,78] (fun i:Nat=>[(79,.int i)]) (fun i=>i=0) (fun _=>0) 0 rfl (by decide) rfl (fun _=>rfl) rfl ⟨⟨_,rfl,rfl⟩,trivial⟩ ?_;conv=>whnf
   refine⟨rfl,?_⟩;rintro i rfl;conv=>whnf
   refine Fork.mk (fun q=>absurd (q.symm.trans (by rw[hs]; rfl)).symm aR) (fun _=>?_);conv=>whnf
   refine⟨fun h6=>?_,fun h6=>?_⟩
   ·replace h6:decide (0<=r.write)=true:=h6;conv=>whnf
    rw[<- hres,BH,h6,hN];exact ay.acV rfl
   ·replace h6:decide (0<=r.write)=false:=h6;conv=>whnf
    rw[<- hres,BH,h6,hN];exact ay.acV rfl
 ·have hN:FM r c.states w o=(c.states.set w.toNat r.to).set o.toNat r.yT:=by unfold FM; rw[hk]; rfl
  obtain⟨o1,o2⟩:=h3 hk;rw[hk];refine Fork.mk (fun _=>?_) (fun q=>absurd (q.symm.trans (rfl)) aR);conv=>whnf
  refine Fork.mk (fun _=>?_) (fun q=>absurd (q.symm.trans (rfl)) aR);conv=>whnf
  repeat(refine VC.mk (by simp only[Rw.rng] at *; first|omega|(simp_all; done)|(simp_all; omega)) ?_; conv=>whnf)
  conv=>whnf
  refine⟨fun h5=>?_,fun h5=>?_⟩
  all_goals
   conv=>whnf
   refine aG.same [4,6,7,77,78] (fun i:Nat=>[(79,.int i)]) (fun i=>i=0) (fun _=>0) 0 rfl (by decide) rfl (fun _=>rfl) rfl ⟨⟨_,rfl,rfl⟩,trivial⟩ ?_;conv=>whnf
   refine⟨rfl,?_⟩;rintro i rfl;conv=>whnf
   refine Fork.mk (fun q=>absurd (q.symm.trans (by rw[hs]; rfl)).symm aR) (fun _=>?_);conv=>whnf
   refine⟨fun h6=>?_,fun h6=>?_⟩
   ·replace h6:decide (0<=r.write)=true:=h6;conv=>whnf
    rw[<- hres,BH,h6,hN];exact ay.acV rfl
   ·replace h6:decide (0<=r.write)=false:=h6;conv=>whnf
    rw[<- hres,BH,h6,hN];exact ay.acV rfl
 ·rw[hk];refine Fork.mk (fun q=>absurd (q.symm.trans (rfl)).symm aR) (fun _=>?_);conv=>whnf
  refine Fork.mk (fun q=>absurd (q.symm.trans (rfl)).symm aR) (fun _=>?_);conv=>whnf
  refine Fork.mk (fun _=>?_) (fun q=>absurd (q.symm.trans (rfl)) aR);conv=>whnf
  refine aG.vK 80 [2,3,4,6,7,46,47] (fun i:Nat=>[(48,.int i)]) (fun i=>[(0,.box 131 23 (LQ p n c)),(1,.box 100 4 (acU k w o)),(2,.box 39 7 (.agg [aiv,aiv,.int 0,aiv,aiv,.int 0])),(11,.box 85 19 (.dat (.rule r))),(15,lq (Iu r c.states w (c.states.set w.toNat r.to) i)),(16,.box 39 7 (UL c 15))]) (fun i=>i<=c.states.length) (fun i=>c.states.length-i) 0 [0,1,2,11,15,16] rfl (by decide) (fun _=>rfl) (ao _) ?_ ?_ ?_
  ·exact(sR rfl)
  ·exact⟨iD rfl rfl,iD rfl rfl,iD rfl rfl,iD rfl rfl,iD rfl rfl,BI rfl rfl rfl ⟨rfl,rfl⟩ (dB.of_eq rfl),trivial⟩
  conv=>whnf
  refine⟨(sR rfl),rfl,?_⟩;rintro i hi;have hbl:=NV (r:=r) (s:=c.states) (w:=w) (a:=c.states.set w.toNat r.to) (i:=i);rw[dv] at hbl;conv=>whnf
  refine⟨fun g1=>?_,fun g1=>?_⟩
  ·have hi':i<c.states.length:=by simpa using g1
   obtain⟨x1,x2⟩:=hb hk (c.states.getD i 0) (by rw[getD_some hi']; exact bh hi');conv=>whnf
   refine .mk (by simp only[Rw.rng] at *; first|omega|(simp_all; done)|(simp_all; omega)) ?_;conv=>whnf
   refine⟨fun g4=>?_,fun g4=>?_⟩
   ·replace g4:((i:Int) !=w)=true:=g4;conv=>whnf
    repeat(refine VC.mk (by first|(simp only[Rw.rng,bN]; omega)|(simp only[okI] at *; omega)) ?_; conv=>whnf)
    refine⟨i+1,[0,1,2,11,15,16],by omega,by omega,(sR rfl),(sR rfl),iD rfl rfl,iD rfl rfl,iD rfl rfl,iD rfl rfl,okF rfl nofun rfl rfl rfl ⟨rfl,rfl⟩ ?_,BI rfl rfl rfl ⟨rfl,rfl⟩ (dB.of_eq rfl),trivial⟩;rw[JU,g4]; rfl
   ·replace g4:((i:Int) !=w)=false:=g4;conv=>whnf
    refine .mk (by simp only[okI] at *; first|omega|(simp_all; done)|(simp_all; omega)) ?_;conv=>whnf
    refine⟨i+1,[0,1,2,11,15,16],by omega,by omega,(sR rfl),(sR rfl),iD rfl rfl,iD rfl rfl,iD rfl rfl,iD rfl rfl,okF rfl nofun rfl rfl rfl ⟨rfl,rfl⟩ ?_,BI rfl rfl rfl ⟨rfl,rfl⟩ (dB.of_eq rfl),trivial⟩;rw[JU,g4]; rfl
  ·have hi':i=c.states.length:=by
    have: ¬ ((i:Int)<(c.states.length:Int)):=by simpa using g1
    omega
   subst hi';have hN:FM r c.states w o=Iu r c.states w (c.states.set w.toNat r.to) c.states.length:=by unfold FM; rw[hk]; rfl
   conv=>whnf
   refine⟨fun h5=>?_,fun h5=>?_⟩
   all_goals
    conv=>whnf
    refine aG.same [4,6,7,77,78] (fun i:Nat=>[(79,.int i)]) (fun i=>i=0) (fun _=>0) 0 rfl (by decide) rfl (fun _=>rfl) rfl ⟨⟨_,rfl,rfl⟩,trivial⟩ ?_;conv=>whnf
    refine⟨rfl,?_⟩;rintro i rfl;conv=>whnf
    refine Fork.mk (fun q=>absurd (q.symm.trans (by rw[hs]; rfl)).symm aR) (fun _=>?_);conv=>whnf
    refine⟨fun h6=>?_,fun h6=>?_⟩
    ·replace h6:decide (0<=r.write)=true:=h6;conv=>whnf
     rw[<- hres,BH,h6,hN];exact ay.acV rfl
    ·replace h6:decide (0<=r.write)=false:=h6;conv=>whnf
     rw[<- hres,BH,h6,hN];exact ay.acV rfl
theorem amM{l:List Int}(h:vX 0 l):l=[]:=by
 cases l with
 |nil=>rfl
 |cons x r=>have:=h x (by simp); omega
theorem afK{p:aF}(hm:p.messages=[]): ∀ {l:List DR},kY p l=0->l=[]:=by
 intro l;cases l with
 |nil=>intro _; rfl
 |cons g r =>
  intro h;simp only[kY] at h;split at h
  ·rename_i h0;have:=Dw (jX h0 (dK g.message p.messages.length) (by simp));rw[hm] at this;simp at this;omega
  ·rename_i h0; exact absurd h h0
structure ajF(n:Nat)(p:aF)(r:Rule):Prop where
 f:N9 n p r
 guards:r.guards=[]
 send:r.send=[]
theorem amN{p:aF}{i:Nat}(hv:Ho p)(hpl:tN p)(hi:i<p.rules.length):ajF p.states.length p (p.rules.getD i default):=by
 suffices hs:(p.rules.getD i default).guards=[]/\(p.rules.getD i default).send=[] from⟨adx hv hpl.top hi,hs.1,hs.2⟩
 have hF:=adx hv hpl.top hi;have h:=hv.rule i hi;simp only[iW,uw] at h;revert hF;generalize (p.rules.getD i default)=r at h ⊢;intro hF;obtain⟨_,h⟩:=bz (fun _=>by decide) h;obtain⟨hb,h⟩:=bz (fun _=>by decide) h;obtain⟨_,h⟩:=bz nz h;rw[hpl.top,bk] at hb;by_cases hk:r.kind=1
 ·rw[hk] at h;have g:=jX h;have g1:=g (xO p r.guards) (by simp);have g2:=g (jP r.send p.messages.length) (by simp);rw[hpl.msg] at g2;refine⟨?_,amM (BN (n:=0) g2)⟩;unfold xO at g1;split at g1
  ·exact afK hpl.msg (by assumption)
  ·rename_i h0; exact absurd g1 h0
 ·have hu:oU r 1=false:=by rw[zq (by have:=hF.kind; omega)]; exact hb.2
  obtain⟨u0,_,_,u3⟩:=(Ky hu).1 hk;exact⟨u0,u3⟩
theorem P8{p:aF}(hv:Ho p)(hpl:tN p): ∀ r∈p.rules,ajF p.states.length p r:=by
 intro r hr;obtain⟨i,hi,rfl⟩:=dt hr;have:=amN hv hpl hi;rwa [getD_some hi] at this
theorem amO{p:aF}(hv:Ho p)(hpl:tN p):afJ p:=⟨fun r hr=>(P8 hv hpl r hr).f.kind,fun r hr=>(P8 hv hpl r hr).guards⟩
theorem afL{p:aF}{c:mF}{k w o:Int}(h:enB p c k w o=true):(0<=k/\k<p.rules.length)/\(0<=w/\w<c.states.length)/\enR (p.rules.getD k.toNat default) c w o=true:=by
 unfold enB at h;cases h1:decide (k<0)||decide ((p.rules.length:Int)<=k)||decide (w<0)||decide ((c.states.length:Int)<=w) with
 |true=>rw[h1] at h; cases h
 |false =>
  rw[h1,ap] at h;simp only[bk,bA] at h1;exact⟨⟨by omega,by omega⟩,⟨by omega,by omega⟩,h⟩
theorem aix{r:Rule}{c:mF}{w o:Int}(h:enR r c w o=true)(hk:r.kind=2):0<=o/\o<c.states.length:=by
 unfold enR at h;cases h1:(c.states.getD w.toNat 0 !=r.fr)||(decide (0<=r.read)&&c.value !=r.read) with
 |true=>rw[h1] at h; cases h
 |false =>
  rw[h1,ap,hk] at h;simp only[beq_self_eq_true,bE,bq,bk,bA] at h;omega
abbrev Nb(p:aF)(n:Nat)(c:mF):OV:=.box 131 23 (LQ p n c)
abbrev aiy(m:Nat):V:=.fn 104 [.ptr m 0 0]
theorem S.QW(p:aF)(n:Nat)(c:mF)(m:Nat):aP Tryz.prog 75 (V.aS [LQ p n c]) (Hz.aj []) m (fun t hp=>t=(aiy m).aI/\hp=Hz.aj [(m,some (Nb p n c))]):=by
 refine nT.of (nx:=0) Bd.nI (by simp) ⟨_,_,rfl,rfl⟩ rfl rfl ?_;conv=>whnf
 exact gq.one (c:=m) (j:=0) (o:=Nb p n c) (t:=(aiy m).aI) rfl rfl rfl nofun (.inr rfl) ⟨rfl,trivial⟩ (.eq rfl) ⟨rfl,rfl⟩
theorem afM(p:aF)(n:Nat)(c:mF):(LQ p n c).free=true:=rfl
theorem S.QX(p:aF)(n:Nat)(c:mF):BU Tryz.prog 75 (V.aS [LQ p n c]) (fun m=>(aiy m).aI) (some (Nb p n c).au):=by
 refine⟨V.eG [LQ p n c] rfl,fun m=>⟨rfl,trivial⟩,fun ob h=>?_,fun ob h=>?_,fun m=>?_⟩
 ·cases h;show T.bn [(LQ p n c).aI]=true;simp only[T.bn,eK];exact V.jS _ (afM p n c)
 ·cases h; exact show(23:Nat)≠gK by decide
 ·have:=S.QW p n c m;have e1:Hz.aj [(m,some (Nb p n c))]=jM no m (some (Nb p n c).au):=by
   rw[bI]; rfl
  rw[e1] at this;exact this
theorem ak4{h:Hz}{n:Nat}{o:OV}:jM h.aj n (some o.au)=Hz.aj ((n,some o)::h):=by
 rw[bI]; rfl
def tvS(t:Nat×Nat×Nat):V:=acU t.1 t.2.1 ((t.2.2:Int)-1)
def enT(p:aF)(c:mF)(t:Nat×Nat×Nat):Bool:=enB p c t.1 t.2.1 ((t.2.2:Int)-1)
def s3(p:aF)(c:mF)(k w i:Nat):List (Nat×Nat×Nat):=((List.range i).map fun j=>(k,w,j)).filter (enT p c)
def s2(p:aF)(c:mF)(k i:Nat):List (Nat×Nat×Nat):=(List.range i).flatMap fun w=>s3 p c k w (c.states.length+1)
def s1(p:aF)(c:mF)(i:Nat):List (Nat×Nat×Nat):=(List.range i).flatMap fun k=>s2 p c k c.states.length
theorem aaL{p:aF}{c:mF}{k w i:Nat}:s3 p c k w (i+1)=s3 p c k w i++(bif enT p c (k,w,i) then [(k,w,i)] else []):=by
 unfold s3;rw[cp,cP,List.filter_append];cases h:enT p c (k,w,i)<;>simp[h]
theorem aaM{p:aF}{c:mF}{k i:Nat}:s2 p c k (i+1)=s2 p c k i++s3 p c k i (c.states.length+1):=by
 unfold s2; rw[cp,db]; simp
theorem aaN{p:aF}{c:mF}{i:Nat}:s1 p c (i+1)=s1 p c i++s2 p c i c.states.length:=by
 unfold s1; rw[cp,db]; simp
theorem afN{p:aF}{c:mF}{k w i:Nat}:(s3 p c k w i).length<=i:=by
 unfold s3;refine di (fw _ _) (by simp)
theorem afO{p:aF}{c:mF}{k:Nat}: ∀ i,(s2 p c k i).length<=i*(c.states.length+1):=by
 intro i;induction i with
 |zero=>simp[s2]
 |succ i ih =>
  have:=afN (p:=p) (c:=c) (k:=k) (w:=i) (i:=c.states.length+1);rw[aaM,aL,eM]; omega
theorem afP{p:aF}{c:mF}: ∀ i,(s1 p c i).length<=i*(c.states.length*(c.states.length+1)):=by
 intro i;induction i with
 |zero=>simp[s1]
 |succ i ih =>
  have:=afO (p:=p) (c:=c) (k:=i) c.states.length;rw[aaN,aL,eM]; omega
theorem ak5{p:aF}{c:mF}{k w i:Nat}(hk:k<=8)(hN:c.states.length<=8)(hw:w<=c.states.length)(hi:i<=10):(s1 p c k++s2 p c k w++s3 p c k w i).length<=1000:=by
 have h1:=afP (p:=p) (c:=c) k;have h2:=afO (p:=p) (c:=c) (k:=k) w;have h3:=afN (p:=p) (c:=c) (k:=k) (w:=w) (i:=i);have e1:c.states.length*(c.states.length+1)<=8*9:=ek hN (by omega);have e2:k*(c.states.length*(c.states.length+1))<=8*(8*9):=ek hk e1;have e3:w*(c.states.length+1)<=8*9:=ek (by omega) (by omega);rw[aL,aL]; omega
theorem gq.mono{h0 h:Hz}{n:Nat}{post post':T->Hp->Prop}{v:V}(hp: ∀ t q,post t q->post' t q)(H:gq h0 n post v h):gq h0 n post' v h:=by
 obtain⟨Z,ρ,t,h',c1,c2⟩:=H.ok;exact⟨⟨Z,ρ,t,h',hp _ _ c1,c2⟩⟩
theorem gq.afQ{h0 h:Hz}{m:Nat}{post:T->Hp->Prop}{v:V}(objs:List (Nat×OV))(nw:List Nat)(hg:tq m h0=true)(hM: ∀ q∈objs,((h0.aj q.1).isSome=true\/q.1=m)/\T.aO (fun i=>(h0.aj i).isSome=true\/i=m) q.2.au.l)
  (ho:okR (gU objs nw) (m+1) m h objs nw) (hv:v.free=true) (hp:post v.aI (rD objs).aj):gq h0 m post v h:=by
 have hfr:=V.jS v hv;have hL:=Fj (Z:=fun i=> ¬ Gs (xF objs nw) i) ho;have hG:=zX hg;have e:Ep (xF objs nw)=gU objs nw:=funext fun _=>CX
 have hin: ∀ {i:Nat} {ob:Ob},(rD objs).aj i=some ob-> ∃ q∈objs,q.1=i/\q.2.au=ob:=by
  clear hM ho hp hL e;induction objs with
  |nil=>intro i ob h; cases h
  |cons q r ih =>
   intro i ob h;replace h:Hz.aj ((q.1,some q.2)::rD r) i=some ob:=h;rw[ny] at h;split at h
   ·rename_i hi; cases h; exact⟨q,by simp,hi.symm,rfl⟩
   ·obtain⟨x,h1,h2⟩:=ih h;exact⟨x,by simp[h1],h2⟩
 refine⟨fun i=> ¬ Gs (xF objs nw) i,gU objs nw,v.aI,(rD objs).aj,hp,by rw[AZ hfr]; exact aH _,fun i ob hi=>?_,fun i j hi hj q=>?_,T.aW (fun _ h=>h.elim) _ (eY hfr),fun i ob hi=>?_,fun i hi hs=>?_⟩
 ·rw[<- qO ho] at hi;obtain⟨h1,h2⟩:=sQ hi;obtain⟨_,_,_,h4,l',h5,h6⟩:=wF hL h1;rw[e] at h2 h5;exact⟨_,h5,fun hz=>hz h2,rfl,rfl,h6,uS h4⟩
 ·rw[<- qO ho] at hi hj;obtain⟨oi,hi⟩:=am.1 hi;obtain⟨oj,hj⟩:=am.1 hj;exact NI hL hi hj (by rw[e]; exact q)
 ·obtain⟨q,q1,rfl,rfl⟩:=hin hi;exact hM q q1
 ·rw[<- qO ho] at hs;obtain⟨ob,hob⟩:=am.1 hs;obtain⟨_,h2,_⟩:=wF hL (sQ hob).1;rw[e] at h2;obtain⟨XT,h0'⟩:=am.1 hi;exact h2 (hG i XT h0').1
theorem anW{k nt n:Nat}{aa bb:aC}{ps:List Nat}{cap args:List V}{h:Hz}{K:V->Hz->Prop}(hY: ∀ ts h n post,FB Tryz.prog aa bb ps (V.aS cap) ts h n post->yD Tryz.prog (.fn (8192+k) (V.aS cap)) ts h n post)(nx:Nat)
  (hnt:cap.length=nt) (c1:(V.gV cap&&V.gV args&&LG h&&T.Em nx (V.aS cap)&&T.Em nx (V.aS args)&&tq nx h&&Nat.beq args.length ps.length&&WQ nt ps&&oQ nt aa&&oQ nt bb)=true) (h':Hz) (hK:K (.bool true) h')
  (H:K (.bool true) h'->az Tryz.prog nt nx aa (QN fun m h1 nx1=>az Tryz.prog nt nx bb (QN fun _ h2 _=>gq h n (fun t hp=>t= .dD []/\ ∃ h':Hz,hp=h'.aj/\K (.bool true) h') (.dD []) h2) m h1 nx1) (Pz ps args (tJ 0 cap)) h nx):abX Tryz.prog (8192+k) cap args h n K :=
 abX.round hY nx hnt c1 ⟨h',hK⟩ (H hK)
theorem JV{a:List Int}{i q:Nat}{v:Int}:(a.set i v).getD q 0=if q=i/\q<a.length then v else a.getD q 0:=by
 simp only[ab,List.getElem?_set];by_cases h:i=q
 ·subst h;by_cases hl:i<a.length
  ·simp[hl]
  ·simp[hl]
 ·simp[h,Ne.symm h]
theorem aiz{q:Nat}: ∀ {s a:List Int},(∀ x∈s,0<=x/\x<a.length)->q<a.length->(s.foldl ctS a).getD q 0=a.getD q 0+(s.count (q:Int):Int):=by
 intro s;induction s with
 |nil=>intro a _ _; simp
 |cons x r ih =>
  intro a hs hq;have hx:=hs x (by simp);rw[eB,ih (by intro y hy; have:=hs y (by simp[hy]); simpa [ctS] using this) (by simpa [ctS] using hq)];unfold ctS;rw[JV,List.count_cons];by_cases e:q=x.toNat
  ·have:x=(q:Int):=by omega
   subst this;simp[hq]; omega
  ·have: ¬ (x=(q:Int)):=by omega
   simp[e,this]
theorem A8{k q:Nat}{s:List Int}(hs: ∀ x∈s,0<=x/\x<k)(hq:q<k):(kN k s).getD q 0=(s.count (q:Int):Int):=by
 unfold kN;rw[aiz (by simpa using hs) (by simpa using hq)];simp[List.getD_eq_getElem?_getD,hq]
theorem aaO{k:Nat}{s:List Int}{a:List Int}(hs: ∀ x∈s,0<=x/\x<k)(ha:a.length=k)(h: ∀ q,q<k->a.getD q 0=(s.count (q:Int):Int)):kN k s=a:=by
 refine eW (by rw[oC,ha]) fun q h1 h2=>?_
 have hq:q<k:=by rwa [oC] at h1
 have e1:=A8 hs hq;have e2:=h q hq;rw[getD_some h1] at e1;rw[getD_some h2] at e2;rw[e1,e2]
theorem Iw{s:List Int}{w:Nat}{t q:Int}(hw:w<s.length):((s.set w t).count q:Int)=(s.count q:Int)-(if s.getD w 0=q then 1 else 0)+(if t=q then 1 else 0):=by
 have h:=List.count_set (l:=s) (i:=w) (a:=t) (b:=q) hw;rw[h,getD_some hw];have hp:s[w]=q->1<=s.count q:=fun e=>by
  have:q∈s:=by rw[<- e]; exact bh hw
  exact List.count_pos_iff.2 this
 generalize s[w]=y at hp ⊢;generalize s.count q=z at hp ⊢;by_cases e1:y=q<;>by_cases e2:t=q
 ·have:=hp e1;rw[bc (bt.2 e1),bc (bt.2 e2),bc e1,bc e2]; omega
 ·have:=hp e1;rw[bc (bt.2 e1),bB (fun h=>e2 (bt.1 h)),bc e1,bB e2]; omega
 ·rw[bB (fun h=>e1 (bt.1 h)),bc (bt.2 e2),bB e1,bc e2]; omega
 ·rw[bB (fun h=>e1 (bt.1 h)),bB (fun h=>e2 (bt.1 h)),bB e1,bB e2]; omega
theorem Gl{s:List Int}{w:Nat}{t:Int}{k:Nat}(hs: ∀ x∈s,0<=x/\x<k)(ht:0<=t/\t<k): ∀ x∈s.set w t,0<=x/\x<k:=by
 intro x hx;rcases List.mem_or_eq_of_mem_set hx with h|rfl
 ·exact hs x h
 ·exact ht
theorem P9{k:Nat}{s:List Int}{w:Nat}{f t:Int}(hs: ∀ x∈s,0<=x/\x<k)(hw:w<s.length)(hf:s.getD w 0=f)(ht:0<=t/\t<k):kN k (s.set w t)=aV (jc (kN k s) f) t 1:=by
 have hfk:0<=f/\f<k:=by rw[<- hf,getD_some hw]; exact hs _ (bh hw)
 refine aaO (Gl hs ht) (by simp[aV,jc,oC]) fun q hq=>?_
 rw[qR,I9,qR,BO,oC,A8 hs hq,Iw hw,hf];by_cases e1:q=t.toNat<;>by_cases e2:q=f.toNat
 ·rw[bc ⟨e1,hq⟩,bc ⟨e2,hq⟩,bc (by omega),bc (by omega)]; omega
 ·rw[bc ⟨e1,hq⟩,bB (fun h=>e2 h.1),bB (by omega),bc (by omega)]; omega
 ·rw[bB (fun h=>e1 h.1),bc ⟨e2,hq⟩,bc (by omega),bB (by omega)]; omega
 ·rw[bB (fun h=>e1 h.1),bB (fun h=>e2 h.1),bB (by omega),bB (by omega)]; omega
theorem count_erase{s:List Int}{w:Nat}{q:Int}(hw:w<s.length):((s.eraseIdx w).count q:Int)=(s.count q:Int)-(if s.getD w 0=q then 1 else 0):=by
 have h:=Iw (s:=s) (w:=w) (t:=s.getD w 0) (q:=q) hw;have e:s=s.take w++s.getD w 0::s.drop (w+1):=by
  rw[getD_some hw,List.getElem_cons_drop,cK]
 have e2:s.eraseIdx w=s.take w++s.drop (w+1):=List.eraseIdx_eq_take_drop_succ ..;have c1:s.count q=(s.take w).count q+((s.drop (w+1)).count q+if s.getD w 0=q then 1 else 0):=by
  conv=>lhs; rw[e]
  rw[List.count_append,List.count_cons];simp only[bt]
 rw[e2,List.count_append,c1];split<;>omega
theorem aiA{k q:Nat}{s:List Int}{w:Nat}{f:Int}(hs: ∀ x∈s,0<=x/\x<k)(hw:w<s.length)(hf:s.getD w 0=f)(hq:q<k):(jc (kN k s) f).getD q 0=((s.eraseIdx w).count (q:Int):Int):=by
 have hfk:0<=f/\f<k:=by rw[<- hf,getD_some hw]; exact hs _ (bh hw)
 rw[I9,qR,oC,A8 hs hq,count_erase hw,hf];by_cases e2:q=f.toNat
 ·rw[bc ⟨e2,hq⟩,bc (by omega)]; omega
 ·rw[bB (fun h=>e2 h.1),bB (by omega)]; omega
theorem aiB{s:List Int}{w:Nat}{x:Int}:x∈s.eraseIdx w↔ ∃ j,j<s.length/\j≠w/\s.getD j 0=x:=by
 rw[List.mem_eraseIdx_iff_getElem];constructor
 ·rintro⟨j,h,hj,e⟩; exact⟨j,h,hj,by rw[getD_some h]; exact e⟩
 ·rintro⟨j,h,hj,e⟩; exact⟨j,h,hj,by rw[getD_some h] at e; exact e⟩
theorem UQ{k q:Nat}{s:List Int}{w:Nat}{f:Int}(hs: ∀ x∈s,0<=x/\x<k)(hw:w<s.length)(hf:s.getD w 0=f)(hq:q<k):((jc (kN k s) f).getD q 0==0)=false↔ ∃ j,j<s.length/\j≠w/\s.getD j 0=q:=by
 rw[<- aiB,aiA hs hw hf hq,<- List.count_pos_iff,cE];omega
theorem acW{k:Nat}{s:List Int}{w:Nat}{r:Rule}(hs: ∀ x∈s,0<=x/\x<k)(hw:w<s.length)(hf:s.getD w 0=r.fr):acT r s w=oW r (jc (kN k s) r.fr):=by
 have hlen:(jc (kN k s) r.fr).length=k:=by rw[Rl,oC]
 have hj: ∀ j,j<s.length-> ∃ q:Nat,q<k/\s.getD j 0=q:=fun j hj=>by
  have:=hs (s.getD j 0) (by rw[getD_some hj]; exact bh hj);exact⟨(s.getD j 0).toNat,by omega,by omega⟩
 have key: ∀ P:Int->Bool,((List.range s.length).any fun j=> !((j:Int)==(w:Int))&&P (s.getD j 0))=((List.range k).any fun q=> !((jc (kN k s) r.fr).getD q 0==0)&&P q):=fun P=>by
  rw[cR,sJ,sJ];constructor
  ·rintro⟨j,h1,h2⟩;rw[aD,bq,cE] at h2;obtain⟨q,q1,q2⟩:=hj j h1;refine⟨q,q1,?_⟩;rw[aD,bq,UQ hs hw hf q1];exact⟨⟨j,h1,by omega,q2⟩,by rw[<- q2]; exact h2.2⟩
  ·rintro⟨q,q1,q2⟩;rw[aD,bq,UQ hs hw hf q1] at q2;obtain⟨⟨j,h1,h2,h3⟩,h4⟩:=q2;refine⟨j,h1,?_⟩;rw[aD,bq,cE,h3];exact⟨by omega,h4⟩
 have hex:exC r s w s.length=uD r.ex (jc (kN k s) r.fr) k:=by
  unfold exC uD;rw[key fun x=>Gp r.ex x]
 have hal:alC r s w s.length= !(Bh r.all (jc (kN k s) r.fr) k):=by
  have e1:alC r s w s.length= !((List.range s.length).any fun j=> !((j:Int)==(w:Int))&& !((r.all.length:Int)==0||Gp r.all (s.getD j 0))):=by
   unfold alC;rw[List.not_any_eq_all_not]
   congr 1
   funext j;cases ((j:Int)==(w:Int))<;>simp
  rw[e1,key fun x=> !((r.all.length:Int)==0||Gp r.all x)];unfold Bh
  congr 2
  funext q
  congr 1
  cases h:Gp r.all q
  ·cases hl:r.all with
   |nil=>simp
   |cons x l=>simp; omega
  ·simp
 unfold acT oW;rw[hlen,hex,hal,Bool.and_comm]
theorem aiC{r:Rule}{s a:List Int}{w:Nat}: ∀ {i q:Nat},q<a.length->(Iu r s w a i).getD q 0=if q<i/\q≠w then r.response.getD (s.getD q 0).toNat 0 else a.getD q 0:=by
 intro i;induction i with
 |zero=>intro q _; simp[Iu]
 |succ i ih =>
  intro q hq;rw[JU];cases hw:((i:Int) !=(w:Int)) with
  |true =>
   have hw':i≠w:=by
    have:(i:Int)≠(w:Int):=by simpa using hw
    omega
   rw[bE,JV,NV];by_cases e:q=i
   ·subst e;rw[bc ⟨rfl,hq⟩,bc ⟨by omega,hw'⟩]
   ·rw[bB (fun h=>e h.1),ih hq];by_cases e2:q<i/\q≠w
    ·rw[bc e2,bc ⟨by omega,e2.2⟩]
    ·rw[bB e2,bB (fun h=>e2 ⟨by omega,h.2⟩)]
  |false =>
   have hw':i=w:=by
    have:(i:Int)=(w:Int):=by simpa using hw
    omega
   rw[ap,ih hq];by_cases e2:q<i/\q≠w
   ·rw[bc e2,bc ⟨by omega,e2.2⟩]
   ·rw[bB e2,bB (fun h=>e2 ⟨by omega,h.2⟩)]
theorem afR{r:Rule}{s:List Int}{w:Nat}{t:Int}(hw:w<s.length):Iu r s w (s.set w t) s.length=(s.map fun x=>r.response.getD x.toNat 0).set w t:=by
 refine eW (by rw[NV]; simp) fun q h1 h2=>?_
 have hq:q<s.length:=by simpa using h2
 have e:=aiC (r:=r) (s:=s) (a:=s.set w t) (w:=w) (i:=s.length) (q:=q) (by simpa using hq);rw[getD_some h1] at e;rw[e,List.getElem_set];by_cases e1:q=w
 ·subst e1;rw[bB (fun h=>h.2 rfl),bc rfl,JV,bc ⟨rfl,hq⟩]
 ·rw[bc ⟨hq,e1⟩,bB (fun h=>e1 h.symm),ep,getD_some hq]
def toQ(r:Rule)(c:List Int)(q:Int):Nat->Int
 |0=>0
 |i+1=>toQ r c q i+if r.response.getD i 0=q then c.getD i 0 else 0
theorem afS{r:Rule}{c:List Int}{q:Nat}(hr: ∀ i,i<c.length->0<=r.response.getD i 0)(hq:q<c.length): ∀ i,i<=c.length->(xP r c i).getD q 0=toQ r c q i:=by
 intro i;induction i with
 |zero=>intro _; simp[xP,toQ,List.getD_eq_getElem?_getD,hq]
 |succ i ih =>
  intro hi;rw[Kt,qR,zh,ih (by omega),toQ];have:=hr i (by omega);by_cases e:r.response.getD i 0=(q:Int)
  ·rw[bc ⟨by omega,hq⟩,bc e]
  ·rw[bB (fun h=>e (by omega)),bB e,Int.add_zero]
theorem toQ_add{r:Rule}{c d:List Int}{q x:Int}{y:Nat}(h: ∀ i,d.getD i 0=c.getD i 0+if i=y then x else 0): ∀ i,toQ r d q i=toQ r c q i+if y<i/\r.response.getD y 0=q then x else 0:=by
 intro i;induction i with
 |zero=>simp[toQ]
 |succ i ih =>
  rw[toQ,toQ,ih,h i];by_cases e1:i=y
  ·subst e1;rw[bB (fun h=>gw _ h.1),bc rfl];by_cases e2:r.response.getD i 0=q
   ·simp[]<;>omega
   ·simp[]<;>omega
  ·rw[bB e1,Int.add_zero];have e3:(y<i+1/\r.response.getD y 0=q)↔(y<i/\r.response.getD y 0=q):=⟨fun h=>⟨by omega,h.2⟩,fun h=>⟨by omega,h.2⟩⟩
   simp only[e3]; omega
theorem aiD{r:Rule}{k:Nat}{q:Int}: ∀ {s:List Int},(∀ x∈s,0<=x/\x<k)->toQ r (kN k s) q k=((s.map fun x=>r.response.getD x.toNat 0).count q:Int):=by
 have hz: ∀ i,toQ r (List.replicate k 0) q i=0:=fun i=>by
  induction i with
  |zero=>rfl
  |succ i ih =>
   rw[toQ,ih]
   have:(List.replicate k (0:Int)).getD i 0=0:=by
    rw[ab];by_cases h:i<k
    ·simp[h]
    ·simp[h]
   rw[this]; split<;>rfl
 intro s;induction s with
 |nil=>intro _; simp[kN,hz]
 |cons x t ih =>
  intro hs;have hx:=hs x (by simp);have ht: ∀ y∈t,0<=y/\y<k:=fun y hy=>hs y (by simp[hy])
  have hg: ∀ i,(kN k (x::t)).getD i 0=(kN k t).getD i 0+if i=x.toNat then 1 else 0:=fun i=>by
   by_cases hi:i<k
   ·rw[A8 hs hi,A8 ht hi,List.count_cons];by_cases e:i=x.toNat
    ·rw[bc (bt.2 (by omega)),bc e]; omega
    ·rw[bB (fun h=>e (by have:=bt.1 h; omega)),bB e]; omega
   ·rw[bB (by omega),Int.add_zero];have o: ∀ s:List Int,(kN k s).getD i 0=0:=fun s=>by
     rw[ab,cv (by rw[oC]; omega)]; rfl
    rw[o,o]
  rw[toQ_add (c:=kN k t) hg,ih ht,bl,List.count_cons];by_cases e:r.response.getD x.toNat 0=q
  ·rw[bc ⟨by omega,e⟩,bc (bt.2 e)]; omega
  ·rw[bB (fun h=>e h.2),bB (fun h=>e (bt.1 h))]; omega
theorem aiE{k:Nat}{s:List Int}{w:Nat}{t:Int}{r:Rule}(hs: ∀ x∈s,0<=x/\x<k)(hw:w<s.length)(hf:s.getD w 0=r.fr)(ht:0<=t/\t<k)(hl:r.response.length=k)(hp:vX k r.response) :
  kN k (Iu r s w (s.set w t) s.length)=aV (xP r (jc (kN k s) r.fr) (jc (kN k s) r.fr).length) t 1:=by
 have hfk:0<=r.fr/\r.fr<k:=by rw[<- hf,getD_some hw]; exact hs _ (bh hw)
 have hrr: ∀ i,i<k->0<=r.response.getD i 0/\r.response.getD i 0<k:=fun i hi=>hp _ (by rw[getD_some (show i<r.response.length by omega)]; exact bh _)
 have hdl:(jc (kN k s) r.fr).length=k:=by rw[Rl,oC]
 rw[afR hw,hdl];have hm: ∀ x∈s.map (fun x=>r.response.getD x.toNat 0),0<=x/\x<k:=fun x hx=>by
  obtain⟨y,hy,rfl⟩:=ax.1 hx;have:=hs y hy;exact hrr _ (by omega)
 refine aaO (Gl hm ht) (by rw[BO,zh,hdl]) fun q hq=>?_
 rw[qR,zh,hdl,afS (fun i hi=>(hrr i (by omega)).1) (by omega) k (by omega)];have hg: ∀ i,(jc (kN k s) r.fr).getD i 0=(kN k s).getD i 0+if i=r.fr.toNat then -1 else 0:=fun i=>by
  rw[I9,qR,oC];by_cases e:i=r.fr.toNat
  ·rw[bc ⟨e,by omega⟩,bc e]
  ·rw[bB (fun h=>e h.1),bB e,Int.add_zero]
 rw[toQ_add (c:=kN k s) hg,aiD hs,Iw (by simpa using hw)];have e0:(s.map fun x=>r.response.getD x.toNat 0).getD w 0=r.response.getD r.fr.toNat 0:=by
  rw[getD_some (by simpa using hw),ep,<- hf,getD_some hw]
 rw[e0];by_cases e1:r.response.getD r.fr.toNat 0=(q:Int)<;>by_cases e2:q=t.toNat
 ·rw[bc ⟨e2,hq⟩,bc ⟨by omega,e1⟩,bc e1,bc (by omega)]; omega
 ·rw[bB (fun h=>e2 h.1),bc ⟨by omega,e1⟩,bc e1,bB (by omega)]; omega
 ·rw[bc ⟨e2,hq⟩,bB (fun h=>e1 h.2),bB e1,bc (by omega)]; omega
 ·rw[bB (fun h=>e2 h.1),bB (fun h=>e1 h.2),bB e1,bB (by omega)]; omega
end Go.Proofs.YtdloaandiobgdaaGreatDoor
