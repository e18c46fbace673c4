/-
 The initial configurations. No condition.
-/
import Derived.Test.YtdloaandiobgdaaGreatDoorQh
import Derived.Test.YtdloaandiobgdaaGreatDoorFa
import Derived.Test.YtdloaandiobgdaaGreatDoorLh
import Derived.Test.YtdloaandiobgdaaGreatDoorQf
import Derived.Test.YtdloaandiobgdaaGreatDoorBd
namespace Go.Proofs.YtdloaandiobgdaaGreatDoor
open Go.Ab Go.Proofs
set_option maxRecDepth 100000
theorem ac2{p:aF}(h:bV p=0)(ht:p.topology=1):p.leader=[]:=by
 unfold bV at h;obtain⟨_,h⟩:=bz (fun _=>by decide) h;obtain⟨_,h⟩:=bz (fun _=>by decide) h;obtain⟨_,h⟩:=bz (fun _=>by decide) h;obtain⟨_,h⟩:=bz (fun _=>by decide) h;obtain⟨_,h⟩:=bz nz h;obtain⟨hm,_⟩:=bz (fun _=>by decide) h;unfold UU at hm;rw[bk] at hm;have h2:=hm.2;rw[show(p.topology==1)=true by rw[ht]; rfl,cV] at h2;have:=aM h2;exact ai (by omega)
@[reducible] def agd(l:List mF):V:=.Am 7 false (l.map tK)
abbrev Nh(l:List mF):OV:=.gen 39 7 (l.map tK)
theorem Tm: ∀ l:List mF,V.bn (l.map tK)=true:=by
 intro l;induction l with
 |nil=>rfl
 |cons o l ih=>simp only[bl,V.bn,aD]; exact⟨rfl,ih⟩
theorem aiV: ∀ l:List mF,AB 7 (l.map tK)=true:=by
 intro l;induction l with
 |nil=>rfl
 |cons o l ih=>simp only[bl,AB,aD]; exact⟨rfl,ih⟩
theorem aiW(n:Nat): ∀ l:List mF,T.Em n (V.aS (l.map tK))=true:=by
 intro l;induction l with
 |nil=>rfl
 |cons o l ih=>simp only[bl,V.aS,T.Em,aD]; exact⟨rfl,ih⟩
theorem ac3(l:List mF)(nx:Nat):(Nh l).good nx=true:=by
 simp only[OV.good,aiV,aiW]; rfl
theorem aaV(l:List mF)(nx:Nat):((Nh l).good nx&&(Nh l).zn)=true:=by
 rw[ac3,cV]; exact Tm l
theorem amY{h:Hz}{j:Nat}{Z:Nat->Prop}{l:List mF}(hz:Z j)(q:h.get j=some (Nh l)):T.sub Z h.aj (agd l).aI (V.own j).aI:=by
 show T.sub Z h.aj (.sl 7 false (V.aS (l.map tK))) (.own j);simp only[T.sub];exact⟨trivial,hz,V.eG _ (Tm l),by decide,39,aK q⟩
theorem agf{h:Hz}{j:Nat}{Z:Nat->Prop}(hz:Z j)(q:h.get j=some (.row 3 0 .nil [])):T.sub Z h.aj (V.row 0 false (.ints [])).aI (V.own j).aI:=by
 show T.sub Z h.aj (.sl 0 false []) (.own j);simp only[T.sub];exact⟨trivial,hz,rfl,by decide,3,aK q⟩
theorem ac4{Z:Nat->Prop}{h:Hz}{i a b c:Nat}{l:List mF}{s:List Int}{k:Int}(q:h.get i=some (.gen 39 7 (l.map tK++([]++[.agg [.own a,.row 0 false (.ints s),.int k,.own b,.own c,.int 0]]))))(hi: ¬ Z i)(ha:Z a)(hb:Z b)(hc:Z c)
  (qa:h.get a=some (.row 3 0 .nil [])) (qb:h.get b=some (.row 3 0 .nil [])) (qc:h.get c=some (.row 3 0 .nil [])) :
  ∃ o',h.get i=some o'/\ ¬ Z i/\o'.au.ty=(Nh (l++[⟨[],s,k,[],[],0⟩])).au.ty/\o'.au.k=(Nh (l++[⟨[],s,k,[],[],0⟩])).au.k/\T.dY Z h.aj (Nh (l++[⟨[],s,k,[],[],0⟩])).au.l o'.au.l/\(Nh (l++[⟨[],s,k,[],[],0⟩])).au.l.map T.kd=o'.au.l.map T.kd/\(Nh (l++[⟨[],s,k,[],[],0⟩])).au.l.map iw=o'.au.l.map iw:=by
 have e1:(Nh (l++[⟨[],s,k,[],[],0⟩])).au.l=V.aS (l.map tK)++[(tK ⟨[],s,k,[],[],0⟩).aI]:=by
  show V.aS ((l++[(⟨[],s,k,[],[],0⟩:mF)]).map tK)=_;rw[cP,rW]; rfl
 have e2:V.aS (l.map tK++([]++[V.agg [.own a,.row 0 false (.ints s),.int k,.own b,.own c,.int 0]]))=V.aS (l.map tK)++[(V.agg [.own a,.row 0 false (.ints s),.int k,.own b,.own c,.int 0]).aI]:=by
  rw[rW]; rfl
 refine⟨_,q,hi,rfl,rfl,?_,?_,?_⟩
 ·rw[e1];show T.dY Z h.aj _ (V.aS _);rw[e2];exact EJ (dR _) ⟨⟨agf ha qa,aH _,aH _,agf hb qb,agf hc qc,aH _,trivial⟩,trivial⟩
 ·rw[e1];show _=List.map T.kd (V.aS _);rw[e2,cP,cP]; rfl
 ·rw[e1];show _=List.map iw (V.aS _);rw[e2,cP,cP]; rfl
def Dj(l:List Int)(n i:Nat):List V:=List.replicate i (.row 0 false (.ints l))++List.replicate (n-i) (.row 0 true .nil)
theorem Tn{l:List Int}{n i:Nat}(h:i<=n):(Dj l n i).length=n:=by simp[Dj]; omega
theorem Zk{l:List Int}{n i:Nat}(h:i<n):(Dj l n i).set i (.row 0 false (.ints l))=Dj l n (i+1):=by
 unfold Dj;rw[ga _ _ (by simp),List.length_replicate,eN,show n-i=(n-(i+1))+1 by omega,du,eV,List.replicate_succ',bO]; rfl
theorem Xz{v:V}(h:v.free=true): ∀ n,V.bn (List.replicate n v)=true:=by
 intro n;induction n with
 |zero=>rfl
 |succ n ih=>rw[du]; simp only[V.bn,h,ih]; rfl
theorem Lu: ∀ {a b:List V},V.bn a=true->V.bn b=true->V.bn (a++b)=true:=by
 intro a;induction a with
 |nil=>intro b _ h; exact h
 |cons v a ih =>
  intro b h1 h2;simp only[V.bn,aD,cj] at h1 ⊢;exact⟨h1.1,ih h1.2 h2⟩
theorem aiX{k:Nat}: ∀ {a b:List V},AB k a=true->AB k b=true->AB k (a++b)=true:=by
 intro a;induction a with
 |nil=>intro b _ h; exact h
 |cons v a ih =>
  intro b h1 h2;simp only[AB,aD,cj] at h1 ⊢;exact⟨h1.1,ih h1.2 h2⟩
theorem agh{k:Nat}{v:V}(h:AB k [v]=true): ∀ n,AB k (List.replicate n v)=true:=by
 intro n;induction n with
 |zero=>rfl
 |succ n ih =>
  rw[du];simp only[AB,aD] at h ih ⊢;exact⟨h.1,ih⟩
theorem aiY{n:Nat}: ∀ {a b:List V},T.Em n (V.aS a)=true->T.Em n (V.aS b)=true->T.Em n (V.aS (a++b))=true:=by
 intro a;induction a with
 |nil=>intro b _ h; exact h
 |cons v a ih =>
  intro b h1 h2;simp only[V.aS,T.Em,aD,cj] at h1 ⊢;exact⟨h1.1,ih h1.2 h2⟩
theorem agi{v:V}{m:Nat}(h:T.lt m v.aI=true): ∀ n,T.Em m (V.aS (List.replicate n v))=true:=by
 intro n;induction n with
 |zero=>rfl
 |succ n ih=>rw[du]; simp only[V.aS,T.Em,h,ih]; rfl
abbrev alf(l:List Int)(n i:Nat):OV:=.gen 24 0 (Dj l n i)
theorem aaW(l:List Int)(n i nx:Nat):((alf l n i).good nx&&(alf l n i).zn)=true:=by
 have h1:AB 0 (Dj l n i)=true:=aiX (agh rfl _) (agh rfl _);have h2:V.bn (Dj l n i)=true:=Lu (Xz rfl _) (Xz rfl _);have h3:T.Em nx (V.aS (Dj l n i))=true:=aiY (agi rfl _) (agi rfl _);simp only[OV.good,OV.zn,h1,h2,h3]; rfl
theorem ac5{l:List Int}{n:Nat}:V.aS (Dj l n n)=(List.replicate n l).map Go.Ab.ints:=by
 unfold Dj;rw[eN,List.replicate_zero,cS,jG,fu,fu]; rfl
theorem Qk{k:Nat}{h:Hz}{i:Nat}{o:OV}(e:h.get i=some o)(hz:Nat.beq i k=false): ∃ o',h.get i=some o'/\ ¬ (fun c=>c=k) i/\o'.au.ty=o.au.ty/\o'.au.k=o.au.k/\T.dY (fun c=>c=k) h.aj o.au.l o'.au.l/\o.au.l.map T.kd=o'.au.l.map T.kd/\o.au.l.map iw=o'.au.l.map iw :=
 jR (Z:=fun c=>c=k) e (by intro q; have q':i=k:=q; rw[q'] at hz; simp at hz)
abbrev aiZ(c:Nat):Prop:=(Nat.beq c 148||Nat.beq c 149||Nat.beq c 150)=true
theorem ai0{n:Nat}(h:1<=n):isZero (.int n)=false:=by
 cases n with
 |zero=>exact absurd h (by decide)
 |succ n=>rfl
@[reducible] def XA(p:aF)(q:Prop')(n:Nat):V:=bif decide (4000<(fE p q).length ^ n) then .dD [.row 0 true .nil,.int 4] else .dD [agd ((iC (fE p q) n).map (Ad n)),.int 0]
abbrev ac6(n:Nat):OV:=.box 37 4 (Zg n)
set_option maxHeartbeats 1000000 in
theorem S.kR(p:aF)(q:Prop')(n:Nat)(hp:dW p)(hq:lg q)(hv:gW p q=0)(hpl:tN p)(h1:1<=n)(h8:n<=8):ak Tryz.prog 69 [.dat (.fM p),.dat (.prop q),Zg n] (XA p q n):=by
 have hld:=ac2 (rJ hv) hpl.top;have an2:=hpl.msg;have htop:=hpl.top;obtain⟨hne,_⟩:=Qg hv;have hsl:=KC hp hq;generalize hres:XA p q n=res;have hfr:res.free=true:=by
  rw[<- hres]; unfold XA;cases decide (4000<(fE p q).length ^ n) with
  |true=>rfl
  |false=>simp only[ap,V.free,V.bn]; rfl
 have hS:=S.jJ p q hp hq hv;have hM:=S.nG p n hpl;unfold XA at hres;generalize fE p q=l at *;refine ak.of Bd.kR (by simp) rfl hfr ?_;conv=>whnf
 refine ah.pure hS rfl ?_;conv=>whnf
 refine ah.pure hM rfl ?_;conv=>whnf
 rw[ai0 h1];simp only[ap,adw];conv=>whnf
 refine .mk (by omega) ?_;conv=>whnf
 refine aG.vK 60 [3,4,5,8,10,31,32] (fun i:Nat=>[(33,.int i)]) (fun i=>[(0,.box 27 11 (.dat (.fM p))),(1,.box 30 7 (.dat (.prop q))),(2,ac6 n),(16,alf l n i)]) (fun i=>i<=n) (fun i=>n-i) 0 [0,1,2,16] rfl (by decide) (fun _=>rfl) (ao _) ?_ ?_ ?_
 ·exact(sR rfl)
 ·exact⟨iD rfl rfl,iD rfl rfl,iD rfl rfl,okF rfl nofun rfl (aaW l n 0 _) rfl ⟨rfl,rfl⟩ rfl,trivial⟩
 conv=>whnf
 refine⟨(sR rfl),rfl,?_⟩;have hrl:((List.replicate ((n:Int).toNat) (E9 T.nil)).length:Int)=n:=by simp
 rintro i hi;conv=>whnf
 refine⟨fun g1=>?_,fun g1=>?_⟩
 ·have hi':i<n:=by have:=ag g1; rw[hrl] at this; omega
  conv=>whnf
  repeat(refine VC.mk id ?_; conv=>whnf)
  refine Fork.mk (fun q=>absurd (q.symm.trans (by rw[hld]; exact Bool.and_false _)).symm aR) (fun _=>?_);conv=>whnf
  refine .mk (by simp only[okI] at *; first|omega|(simp_all; done)|(simp_all; omega)) ?_;conv=>whnf
  have hlt:decide ((i:Int)<(n:Int)-0)=true:=cI (by omega);refine Fork.mk (fun _=>?_) (fun q=>absurd (q.symm.trans (hlt)) aR);conv=>whnf
  conv=>whnf
  repeat(refine VC.mk (by first|(rw[Tn hi]; omega)|(simp only[okI] at *; first|omega|(simp_all; done)|(simp_all; omega))) ?_; conv=>whnf)
  refine⟨i+1,[0,1,2,16],by omega,by omega,(sR rfl),(sR rfl),iD rfl rfl,iD rfl rfl,iD rfl rfl,okF rfl nofun rfl (aaW l n (i+1) _) rfl ⟨rfl,rfl⟩ ?_,trivial⟩;show V.aS (Dj l n (i+1))=_;rw[<- Zk hi']; rfl
 ·have hi':n=i:=by
   have:=aM g1;rw[hrl] at this; omega
  subst hi';conv=>whnf
  refine Fork.mk (fun q=>absurd (q.symm.trans (cE.2 (by rw[htop]; decide))).symm aR) (fun _=>?_);conv=>whnf
  have h01:1<=l.length:=fg.2 hne;have hfl:((Dj l n n).length:Int)=n:=by rw[Tn (ba _)]
  refine aG.vK 90 [3,5,10,12,77,78] (fun i:Nat=>[(79,.int i),(13,.int ((l.length ^ i:Nat):Int))]) (fun i=>[(0,.box 27 11 (.dat (.fM p))),(1,.box 30 7 (.dat (.prop q))),(2,ac6 n),(16,wQ (List.replicate n l)),(61,.gen 24 0 [.row 0 true .nil])]) (fun i=>i<=n/\l.length ^ i<=4000) (fun i=>n-i) 0 [0,1,2,16,61] rfl (by decide) (fun _=>rfl) ⟨ao _,by rw[Nat.pow_zero]; decide⟩ ?_ ?_ ?_
  ·exact(sR rfl)
  ·exact⟨iD rfl rfl,iD rfl rfl,iD rfl rfl,okF rfl nofun rfl rfl rfl ⟨rfl,rfl⟩ ((cS _).trans ac5.symm),iD rfl rfl,trivial⟩
  conv=>whnf
  refine⟨(sR rfl),rfl,?_⟩;rintro i ⟨hi,hcap⟩;conv=>whnf
  refine⟨fun g2=>?_,fun g2=>?_⟩
  ·have hi':i<n:=by have:=ag g2; rw[hfl] at this; omega
   conv=>whnf
   repeat(refine VC.mk (by simp only[Rw.rng,bN,List.length_replicate]; omega) ?_; conv=>whnf)
   rw[Xy (show((i:Int)).toNat<n by rw[bN]; exact hi')];have hok:okI (((l.length ^ i:Nat):Int)*(l.length:Int)):=by
    have hm:(((l.length ^ i:Nat):Int)*(l.length:Int))=((l.length ^ i*l.length:Nat):Int):=by rw[gA]
    rw[hm];have:=cr l.length hcap;simp only[okI]; omega
   have hpw:((l.length ^ (i+1):Nat):Int)=((l.length ^ i:Nat):Int)*(l.length:Int):=by rw[fk,gA]
   conv=>whnf
   refine .mk (by exact hok) ?_;conv=>whnf
   refine⟨fun g3=>?_,fun g3=>?_⟩
   ·have g3':4000<l.length ^ (i+1):=by have:=ag g3; omega
    have hb:4000<l.length ^ n:=cU g3' (fy h01 hi');rw[cI hb,bE] at hres;conv=>whnf
    exact ay.eqv (by rw[<- hres]; rfl)
   ·have g3':l.length ^ (i+1)<=4000:=by have:=aM g3; omega
    conv=>whnf
    refine .mk (by simp only[okI] at *; first|omega|(simp_all; done)|(simp_all; omega)) ?_;conv=>whnf
    refine⟨i+1,[0,1,2,16,61],⟨by omega,g3'⟩,by omega,⟨⟨_,rfl,.eq rfl⟩,⟨_,rfl,.eq (dC T.int hpw)⟩,trivial⟩,(sR rfl),iD rfl rfl,iD rfl rfl,iD rfl rfl,iD rfl rfl,iD rfl rfl,trivial⟩
  ·have hi':n=i:=by
    have:=aM g2;rw[hfl] at this; omega
   subst hi';have hb: ¬ 4000<l.length ^ n:=by omega
   rw[cB hb,ap] at hres;have hl4:l.length<=4000:=di (Nat.le_self_pow (by omega) _) hcap;have hPl:(iC l n).length=l.length ^ n:=JY;have hPm:=fun s=>@Dc l n s
   have hPr:=S.nJ l n false hne h8 hcap hl4;generalize iC l n=P at *;conv=>whnf
   refine aG.nil 16 39 7 (by rfl) rfl rfl rfl ?_;refine aG.times 2 rfl ?_;conv=>whnf
   refine Fork.mk (fun _=>?_) (fun q=>absurd (q.symm.trans (rfl)) aR);conv=>whnf
   conv=>whnf
   refine .mk (by exact⟨by decide,by decide⟩) ?_;conv=>whnf
   refine⟨_,rfl,?_⟩;conv=>whnf
   refine ah.shut (fun c=>c=16) (h2:=[(0,some (.box 27 11 (.dat (.fM p)))),(1,some (.box 30 7 (.dat (.prop q)))),(2,some (ac6 n)),(61,some (.gen 24 0 [.row 0 true .nil])),(95,some (.row 39 7 .nil []))]) ⟨Qk rfl rfl,Qk rfl rfl,Qk rfl rfl,Qk rfl rfl,Qk rfl rfl,trivial⟩ hPr ⟨adG rfl rfl,trivial⟩ ?_;conv=>whnf
   refine aG.ZG 130 [3,5,18,91,92,97,98] (fun i:Nat=>[(99,.int i),(16,.own 95)]) (fun i=>[(0,.box 27 11 (.dat (.fM p))),(2,ac6 n),(95,Nh ((P.take i).map (Ad n)))]) (fun i=>i<=P.length) (fun i=>P.length-i) 0 [0,2,95] [(0,some (.box 27 11 (.dat (.fM p)))),(2,some (ac6 n)),(95,some (.row 39 7 .nil []))] rfl (by decide) (fun _=>rfl) (ao _) ?_ ?_ ?_ ?_
   ·exact(sR rfl)
   ·exact⟨fun _=>False,jR (Z:=fun _=>False) rfl (fun q=>q),jR (Z:=fun _=>False) rfl (fun q=>q),jR (Z:=fun _=>False) rfl (fun q=>q),trivial⟩
   ·exact⟨iD rfl rfl,iD rfl rfl,okF rfl nofun rfl (aaV _ _) rfl ⟨rfl,rfl⟩ rfl,trivial⟩
   conv=>whnf
   refine⟨(sR rfl),rfl,?_⟩;rintro i hi;conv=>whnf
   refine⟨fun g4=>?_,fun g4=>?_⟩
   ·have hi':i<P.length:=by have:=ag g4; omega
    conv=>whnf
    repeat(refine VC.mk (by first|(simp only[Rw.rng]; omega)|(simp only[okI] at *; first|omega|(simp_all; done)|(simp_all; omega))) ?_; conv=>whnf)
    rw[an2];conv=>whnf
    repeat(refine VC.mk (by first|(exact⟨by decide,by decide,by decide,by decide⟩)|(simp only[kT,qX,Rw.len]; omega)) ?_; conv=>whnf)
    refine .mk (show kT 112 (List.map tK (List.map (Ad n) (List.take i P))).length 1 from by rw[bL,bL,bR]; simp only[kT]; omega) ?_;conv=>whnf
    refine .mk (by simp only[okI] at *; first|omega|(simp_all; done)|(simp_all; omega)) ?_;conv=>whnf
    refine⟨[(0,some (.box 27 11 (.dat (.fM p)))),(2,some (ac6 n)),(153,some (Nh ((P.take i).map (Ad n)++[Ad n (P.getD i [])])))],i+1,[0,2,153],⟨aiZ,jR (Z:=aiZ) (i:=0) rfl (by decide),jR (Z:=aiZ) (i:=2) rfl (by decide),ac4 (Z:=aiZ) (i:=153) (a:=150) (b:=148) (c:=149) rfl (by decide) (by decide) (by decide) (by decide) rfl rfl rfl,trivial⟩,by omega,by omega,(sR rfl),(sR rfl),iD rfl rfl,iD rfl rfl,okF rfl nofun rfl (aaV _ _) rfl ⟨rfl,rfl⟩ ?_,trivial⟩;rw[cQ,cP,show P[i]? =some (P.getD i []) by rw[ab,bS hi']; rfl]; rfl
   ·have hi':i=P.length:=by
     have:=aM g4;omega
    subst hi';conv=>whnf
    refine .mk (by simp only[okI] at *; first|omega|(simp_all; done)|(simp_all; omega)) ?_;conv=>whnf
    refine Fork.mk (fun q=>absurd (q.symm.trans (rfl)).symm aR) (fun _=>?_);conv=>whnf
    rw[<- hres,bx];exact⟨amY trivial rfl,aH _,trivial⟩
theorem ah.ajH{p:aF}{n:Nat}{L:List pV}{o:pV}{h:Hz}{B m l k:Nat}{args:List V}{K:V->Hz->Prop}{KW:Nat->V->Hz->Prop}(ha:args=[.ptr B 0 0,yw o])(hp:p.topology=1)(hc:Di o.c)(hlen:L.length<2^30)(hB:h.get B=some (yu p n (.own m) (.own l)))(hm:h.get m=some (J6 L))(hl:h.get l=some (um L))(hk:h.get k=none)(nd:[B,m,l,k].Nodup)
  (h1:JW L o=L-> ∀ j,K (.int j) ((B,some (yu p n (.own m) (.own l)))::(m,some (J6 L))::(l,some (um L))::(k,none)::h))
  (h2:JW L o=L++[o]->K (.int L.length) ((B,some (yu p n (.own m) (.own k)))::(m,some (J6 (L++[o])))::(l,none)::(k,some (um (L++[o])))::h)):ah Tryz.prog false none 70 args h k K KW:=by
 subst ha;cases hh:QY L (yj o.c) with
 |true =>
  refine ah.DY (ts:=[.ptr 0 0 0,yw o]) (pre:=Iy p n L) [B,m,l] (S.af6 p n L o hp hc hh) rfl rfl rfl (Af p n L) rfl ⟨⟨_,hB,rfl⟩,⟨_,hm,Bc L _⟩,⟨_,hl,yx L _⟩,trivial⟩ hk nd ?_;rintro t q ⟨rfl,rfl⟩;exact⟨.int (aiT L (yj o.c)),[some (yu p n (.own m) (.own l)),some (J6 L),some (um L),none],rfl,rfl,⟨rfl,dC some (Bc L _).symm,dC some (yx L _).symm,rfl,trivial⟩,h1 (by unfold JW; rw[hh]; rfl) _⟩
 |false =>
  refine ah.DY (ts:=[.ptr 0 0 0,yw o]) (pre:=Iy p n L) [B,m,l] (S.af7 p n L o hp hc hlen hh) rfl rfl rfl (Af p n L) rfl ⟨⟨_,hB,rfl⟩,⟨_,hm,Bc L _⟩,⟨_,hl,yx L _⟩,trivial⟩ hk nd ?_;rintro t q ⟨rfl,rfl⟩;exact⟨.int L.length,[some (yu p n (.own m) (.own k)),some (J6 (L++[o])),none,some (um (L++[o]))],rfl,rfl,⟨rfl,dC some (Bc (L++[o]) _).symm,rfl,dC some (yx (L++[o]) _).symm,trivial⟩,h2 (by unfold JW; rw[hh]; rfl)⟩
theorem ac7{os L:List pV}{i:Nat}(h:i<os.length):C9 L (os.take (i+1))=JW (C9 L (os.take i)) (os.getD i FN):=by
 unfold C9;rw[cQ,eh]; simp[h]
theorem ai1{l:List mF}{d:mF}: ∀ {i:Nat},i<l.length->Wp (l.map tK) i=some (tK (l.getD i d)):=by
 induction l with
 |nil=>intro i h; simp at h
 |cons x r ih =>
  intro i h;cases i with
  |zero=>rfl
  |succ i=>exact ih (by simpa using h)
theorem Zl{m:Fm}{h:Hz}{k a b:Nat}{i:Int}{l:List V}{t:V}{f:Bool}(ha:y8 m (.t a)=some (.Am k f l))(hb:y8 m (.t b)=some (.int i))(hn:Wp l i.toNat=some t):qz m h (.ia k (.t a) (.t b))=some (.ref k t,.yes (0<=i)):=by
 simp only[qz,qz2,Qr,ha,hb,V.bare,iaZ,hn,dU,gS,bE];rfl
theorem agj{m:Fm}{h:Hz}{d k a b:Nat}{i:Int}{l:List V}{t:V}{f:Bool}(ha:y8 m (.t a)=some (.Am k f l))(hb:y8 m (.t b)=some (.int i))(hn:Wp l i.toNat=some t):qz m h (qi d k a b).op=some (.ref k t,.yes (0<=i)):=Zl ha hb hn
theorem alg{n:Nat}{s:List Int}(hs:s.length=n)(h1:1<=n)(h8:n<=8):Di (Ad n s) :=
 ⟨⟨show 0<_ by decide,show s.length<_ by omega,show 0<_ by decide,show 0<_ by decide⟩,by show(n:Int)=s.length; omega,fun e=>by have e':s=[]:=e; rw[e'] at hs; simp at hs; omega⟩
abbrev an3:V:=.raw (.lit (.pointer none))
theorem S.Q7(p:aF)(q:Prop')(n:Nat)(hp:dW p)(hq:lg q)(hv:gW p q=0)(hpl:tN p)(h1:1<=n)(h8:n<=8)(hbig:4000<(fE p q).length ^ n):ak Tryz.prog 38 [.dat (.fM p),.dat (.prop q),Zg n,.bool false] (.dD [an3,.int 4]):=by
 have hI:=S.kR p q n hp hq hv hpl h1 h8;rw[show XA p q n= .dD [.row 0 true .nil,.int 4] by unfold XA; rw[cI hbig]; rfl] at hI;refine ak.of Bd.oG (by simp) rfl rfl ?_;conv=>whnf
 refine ah.pure hI rfl ?_;conv=>whnf
 refine Fork.mk (fun _=>?_) (fun q=>absurd (q.symm.trans (rfl)) aR);conv=>whnf
 exact ay.eqv rfl
set_option maxHeartbeats 1000000 in
theorem S.oG(p:aF)(q:Prop')(n:Nat)(hp:dW p)(hq:lg q)(hv:gW p q=0)(hpl:tN p)(h1:1<=n)(h8:n<=8)(hbig: ¬ 4000<(fE p q).length ^ n) :
  jr Tryz.prog 38 (V.aS [.dat (.fM p),.dat (.prop q),Zg n,.bool false]) (Hz.aj []) 0 2 fun t hp=>t=(V.dD [.ptr 0 0 0,.int 0]).aI/\hp=(rD [(0,yu p n (.own 1) (.own 2)),(1,J6 (Xv p q n)),(2,um (Xv p q n))]).aj:=by
 have hI:=S.kR p q n hp hq hv hpl h1 h8;rw[show XA p q n= .dD [agd ((iC (fE p q) n).map (Ad n)),.int 0] by unfold XA; rw[cB hbig]; rfl] at hI;have hL:(iC (fE p q) n).length<=4000:=by rw[JY]; omega
 have hmem:=fun s=>@Dc (fE p q) n s
 have an4:Xv p q n=C9 [] ((iC (fE p q) n).map (Ew n)):=rfl;rw[an4];generalize iC (fE p q) n=P at *;refine amD.of Bd.oG (by simp) rfl ⟨show(0:Nat)<3 by decide,trivial,trivial⟩ ?_;conv=>whnf
 refine ah.pure hI rfl ?_;conv=>whnf
 refine Fork.mk (fun q=>absurd (q.symm.trans (rfl)).symm aR) (fun _=>?_);conv=>whnf
 refine aG.anU 21 15 102 11 (cs:=(Dat.fM p).cells++[.int n,.int 0,.int 0,.bool false,.own 19,.row 0 true .nil]) rfl (by show 15<16; decide) rfl rfl (by decide) ?_;refine aG.vK 60 [12,31,32] (fun i:Nat=>[(33,.int i)]) (fun i=>[(21,yu p n (.own 19) (.own 26)),(19,J6 (C9 [] ((P.map (Ew n)).take i))),(26,um (C9 [] ((P.map (Ew n)).take i)))]) (fun i=>i<=P.length) (fun i=>P.length-i) 0 [21,19,26] rfl (by decide) (fun _=>rfl) (ao _) ?_ ?_ ?_
 ·exact(sR rfl)
 ·exact⟨BI rfl rfl rfl ⟨rfl,rfl⟩ (dB.of_eq rfl),iD rfl rfl,okF rfl nofun rfl (jv _ _) rfl ⟨rfl,rfl⟩ rfl,trivial⟩
 conv=>whnf
 refine⟨(sR rfl),rfl,?_⟩;rintro i hi;have hcl:(((P.map (Ad n)).map tK).length:Int)=P.length:=by simp
 conv=>whnf
 refine⟨fun g1=>?_,fun g1=>?_⟩
 ·have hi':i<P.length:=by have:=ag g1; omega
  conv=>whnf
  have hin:i<(P.map (Ad n)).length:=by rw[bL]; exact hi'
  have hnt:=ai1 (d:=Ad n []) (show(i:Int).toNat<(P.map (Ad n)).length by rw[bN]; exact hin);first|rw[Zl (i:=i) rfl rfl hnt]|rw[agj (i:=i) rfl rfl hnt]
  have hgd:(P.map (Ad n)).getD ((i:Int)).toNat (Ad n [])=Ad n (P.getD i []):=by
   rw[bN,ab,ab,cM,bS hi']; rfl
  rw[hgd];have hgo:(P.map (Ew n)).getD i FN=Ew n (P.getD i []):=by
   rw[ab,ab,cM,bS hi']; rfl
  have hnx:=ac7 (L:=[]) (os:=P.map (Ew n)) (i:=i) (by rw[bL]; exact hi');rw[hgo] at hnx;have hln:(C9 [] ((P.map (Ew n)).take i)).length<=4000:=by
   have:=(Qe (os:=(P.map (Ew n)).take i) (L:=[])).2;rw[bR,cC,bL] at this; omega
  have hgm:P.getD i []∈P:=by rw[ab,bS hi']; exact bh hi'
  conv=>whnf
  refine .mk (by omega) ?_;conv=>whnf
  refine ah.ajH (p:=p) (n:=n) (L:=C9 [] ((P.map (Ew n)).take i)) (o:=Ew n (P.getD i [])) (B:=21) (m:=19) (l:=26) (k:=68) rfl hpl.top (alg ((hmem _).1 hgm).1 h1 h8) (by omega) rfl rfl rfl rfl (by decide) (fun hm j=>?_) (fun hm=>?_)
  ·conv=>whnf
   refine .mk (by simp only[okI] at *; first|omega|(simp_all; done)|(simp_all; omega)) ?_;conv=>whnf
   refine⟨i+1,[21,19,26],by omega,by omega,(sR rfl),(sR rfl),BI rfl rfl rfl ⟨rfl,rfl⟩ (dB.of_eq rfl),okF rfl nofun rfl rfl rfl ⟨rfl,rfl⟩ (by show(J6 (C9 [] ((P.map (Ew n)).take (i+1)))).au.l=_; rw[hnx,hm]),okF rfl nofun rfl (jv _ _) rfl ⟨rfl,rfl⟩ (by show(um (C9 [] ((P.map (Ew n)).take (i+1)))).au.l=_; rw[hnx,hm]),trivial⟩
  ·conv=>whnf
   refine .mk (by simp only[okI] at *; first|omega|(simp_all; done)|(simp_all; omega)) ?_;conv=>whnf
   refine⟨i+1,[21,19,68],by omega,by omega,(sR rfl),(sR rfl),BI rfl rfl rfl ⟨rfl,rfl⟩ (dB.of_eq rfl),okF rfl nofun rfl rfl rfl ⟨rfl,rfl⟩ (by show(J6 (C9 [] ((P.map (Ew n)).take (i+1)))).au.l=_; rw[hnx,hm]),okF rfl nofun rfl (jv _ _) rfl ⟨rfl,rfl⟩ (by show(um (C9 [] ((P.map (Ew n)).take (i+1)))).au.l=_; rw[hnx,hm]),trivial⟩
 ·have hi':i=P.length:=by
   have:=aM g1;omega
  subst hi';rw[show(P.map (Ew n)).take P.length=P.map (Ew n) from bm (by rw[bL]; exact ba _)];conv=>whnf
  exact⟨⟨[21,19,26],⟨BI rfl rfl rfl ⟨rfl,rfl⟩ (dB.of_eq rfl),iD rfl rfl,okF rfl nofun rfl (jv _ _) rfl ⟨rfl,rfl⟩ rfl,trivial⟩,dB.of_eq rfl⟩⟩
theorem XB{L:List pV}{i:Nat}(h:i<L.length):(L.map yw)[i]? =some (yw (L.getD i FN)):=by
 rw[cM,ab,bS h]; rfl
theorem Ql(L:List pV):V.gV (L.map yw)=true:=by
 induction L with
 |nil=>rfl
 |cons t r ih=>simp only[bl,V.gV,ih,eK]; rfl
abbrev amZ(p:aF)(n:Nat)(L:List pV):List (Nat×OV):=[(0,yu p n (.own 1) (.own 3)),(1,J6 L),(3,um L)]
theorem agk{p:aF}{n:Nat}{c:mF}(h:vcN p n c=0)(hl:c.states.length=n)(h1:1<=n)(h8:n<=8):Di c:=by
 obtain⟨_,_,hb⟩:=Ti h;unfold Na at hb;simp only[aD,bt,aq] at hb;exact⟨⟨by omega,by omega,by omega,by omega⟩,by omega,fun e=>by rw[e] at hl; simp at hl; omega⟩
theorem ai2{p:aF}{c:mF}{t:Nat×Nat×Nat}(h:Di c):Di (nxT p c t):=by
 have hl:(nxT p c t).states.length=c.states.length:=Qd;exact⟨⟨h.sm.shape,by rw[hl]; exact h.sm.states,h.sm.sent,h.sm.sF⟩,by rw[hl]; exact h.cor,fun e=>h.ne (ai (by rw[<- hl,e]; rfl))⟩
theorem agl{p:aF}{c:mF}{i:Nat}{L:List pV}{t:Nat×Nat×Nat}{ts:List (Nat×Nat×Nat)}:yt p c i L (ts++[t])=JW (yt p c i L ts) (afW p c i t):=by
 rw[afX]; rfl
abbrev frE:List V:=frV 44 [(5,.ptr 23 0 0),(4,.ptr 5 0 0),(3,.ptr 4 0 0),(2,.ptr 3 0 0)]
abbrev UW(p:aF)(n:Nat)(c:mF)(i:Nat)(L:List pV):List (Nat×OV):=[(0,yu p n (.own 1) (.own 27)),(1,J6 L),(3,.box 91 0 (.ptr 0 0 0)),(4,.box 3 0 (.int i)),(5,.box 43 0 (.int 0)),(23,Nb p n c),(26,Nb p n c),(27,um L)]
abbrev an5:V:=E9 (T.agg [T.lit (Value.string (bs [])),T.int 0,T.nil,T.nil,T.nil,T.int 0,T.nil,T.nil,T.nil,T.nil,T.int 0,T.int 0,T.int 0,T.nil,T.nil,T.int 0,T.nil,T.nil,T.int 0,T.nil,T.nil,T.nil])
abbrev h0E(p:aF)(n:Nat)(c:mF)(i:Nat)(L:List pV):Hz:=[(26,some (Nb p n c)),(23,some (Nb p n c)),(23,some (.box 131 23 an5)),(5,some (.box 43 0 (.int 0))),(4,some (.box 3 0 (.int i))),(3,some (.box 91 0 (.ptr 0 0 0))),(0,some (yu p n (.own 1) (.own 2))),(1,some (J6 L)),(2,some (um L))]
abbrev Zm(p:aF)(n:Nat)(c:mF)(i:Nat)(k w o:Nat)(L:List pV):List (Nat×OV):=[(78,um L),(0,yu p n (.own 1) (.own 78)),(1,J6 L),(70,.box 100 4 (acU k w ((o:Int)-1))),(3,.box 91 0 (.ptr 0 0 0)),(4,.box 3 0 (.int i)),(5,.box 43 0 (.int 0)),(23,Nb p n c),(26,Nb p n c)]
theorem UY{p:aF}{n m l:Nat}{Z:Nat->Prop}(hm:Z m)(hl:Z l):T.aO Z (yu p n (.own m) (.own l)).au.l:=by
 have e:(yu p n (.own m) (.own l)).au.l=[(amX p n (.own m) (.own l)).aI]:=rfl;rw[e];refine⟨?_,trivial⟩;show T.aO Z (V.aS ((Dat.fM p).cells++[.int n,.int 0,.int 0,.bool false,.own m,.own l]));have hc:T.bn (V.aS (Dat.fM p).cells)=true:=V.eG _ rfl;rw[rW];exact gB.2 ⟨T.aA (fun _ h=>h.elim) _ (dh hc),trivial,trivial,trivial,trivial,hm,hl,trivial⟩
theorem aaX{p:aF}{n:Nat}{c:mF}{i k w o:Nat}{L:List pV}{h0:Hz}(a1:(h0.aj 0).isSome=true)(a2:(h0.aj 1).isSome=true)(a3:(h0.aj 70).isSome=true)(a4:(h0.aj 3).isSome=true)(a5:(h0.aj 4).isSome=true)(a6:(h0.aj 5).isSome=true)(a7:(h0.aj 23).isSome=true)(a8:(h0.aj 26).isSome=true) :
  ∀ q∈Zm p n c i k w o L,((h0.aj q.1).isSome=true\/q.1=78)/\T.aO (fun i=>(h0.aj i).isSome=true\/i=78) q.2.au.l:=by
 have fr: ∀ o:OV,o.zn=true->T.aO (fun i=>(h0.aj i).isSome=true\/i=78) o.au.l:=fun o ho=>T.aA (fun _ h=>h.elim) _ (OV.xK ho)
 intro q hq;simp only[Zm,bv,dx,gp] at hq;rcases hq with rfl|rfl|rfl|rfl|rfl|rfl|rfl|rfl|rfl
 ·exact⟨.inr rfl,fr _ (Dh L)⟩
 ·exact⟨.inl a1,UY (.inl a2) (.inr rfl)⟩
 ·exact⟨.inl a2,fr _ rfl⟩
 ·exact⟨.inl a3,fr _ rfl⟩
 ·exact⟨.inl a4,.inl a1,trivial⟩
 ·exact⟨.inl a5,fr _ rfl⟩
 ·exact⟨.inl a6,fr _ rfl⟩
 ·exact⟨.inl a7,fr _ rfl⟩
 ·exact⟨.inl a8,fr _ rfl⟩
theorem ai3{p:aF}{n:Nat}{c:mF}{i:Nat}{L L':List pV}: ∀ q∈UW p n c i L',(((h0E p n c i L).aj q.1).isSome=true\/q.1=27)/\T.aO (fun j=>((h0E p n c i L).aj j).isSome=true\/j=27) q.2.au.l:=by
 have fr: ∀ o:OV,o.zn=true->T.aO (fun j=>((h0E p n c i L).aj j).isSome=true\/j=27) o.au.l:=fun o ho=>T.aA (fun _ h=>h.elim) _ (OV.xK ho)
 intro q hq;simp only[UW,bv,dx,gp] at hq;rcases hq with rfl|rfl|rfl|rfl|rfl|rfl|rfl|rfl
 ·exact⟨.inl rfl,UY (.inl rfl) (.inr rfl)⟩
 ·exact⟨.inl rfl,fr _ rfl⟩
 ·exact⟨.inl rfl,.inl rfl,trivial⟩
 ·exact⟨.inl rfl,fr _ rfl⟩
 ·exact⟨.inl rfl,fr _ rfl⟩
 ·exact⟨.inl rfl,fr _ rfl⟩
 ·exact⟨.inl rfl,fr _ rfl⟩
 ·exact⟨.inr rfl,fr _ (Dh L')⟩
set_option maxHeartbeats 1000000 in
theorem S.alh(p:aF)(n:Nat)(c:mF)(j:Nat)(L:List pV)(hp:dW p)(ht1:p.topology=1)(hc:Di c)(hcn:c.states.length=n)(hk:afJ p)(hR:p.rules.length<=8)(hN:n<=8)(hL:L.length<=10000000)
  (hA: ∀ k w o:Nat,k<p.rules.length->w<c.states.length->enT p c (k,w,o)=true->ak Tryz.prog 76 [LQ p n c,tvS (k,w,o)] (.dD [tK (nxT p c (k,w,o)),.int 0]))
  (hY: ∀ ts h n post,FB Tryz.prog C.uo C.uq [28] (V.aS frE) ts h n post->yD Tryz.prog (.fn (8192+41) (V.aS frE)) ts h n post) :
  aP Tryz.prog 104 (V.aS [.fn (8192+41) frE,.ptr 26 0 0]) (h0E p n c j L).aj 27 (fun _ hp=> ∃ h':Hz,hp=h'.aj/\h'=rD (UW p n c j (yt p c j L (s1 p c p.rules.length)))):=by
 have hcs:=hc.sm.states;have hpr:=hp.rules;refine nT.of (nx:=27) (h0:=h0E p n c j L) Bd.jU (by simp) ⟨.dD [],_,_,rfl,rfl⟩ rfl (by simp only[tq,vP]; rfl) ?_;refine aG.vK 60 [0,1,10] (fun i:Nat=>[(11,.int i)]) (fun i=>UW p n c j (yt p c j L (s1 p c i))) (fun i=>i<=p.rules.length) (fun i=>p.rules.length-i) 0 [0,1,3,4,5,23,26,2] rfl (by decide) (fun _=>rfl) (ao _) ?_ ?_ ?_
 ·exact(sR rfl)
 ·exact⟨BI rfl rfl rfl ⟨rfl,rfl⟩ (dB.of_eq rfl),iD rfl rfl,BI rfl rfl rfl ⟨rfl,rfl⟩ (dB.of_eq rfl),iD rfl rfl,iD rfl rfl,iD rfl rfl,iD rfl rfl,okF rfl nofun rfl (jv _ _) rfl ⟨rfl,rfl⟩ rfl,trivial⟩
 conv=>whnf
 refine⟨(sR rfl),rfl,?_⟩;rintro k hk1;conv=>whnf
 refine⟨fun g1=>?_,fun g1=>?_⟩
 ·have hk2:k<p.rules.length:=by simpa using g1
  conv=>whnf
  refine aG.vK 60 [0,1,3,10,11,17] (fun i:Nat=>[(18,.int i)]) (fun i=>UW p n c j (yt p c j L (s1 p c k++s2 p c k i))) (fun i=>i<=c.states.length) (fun i=>c.states.length-i) 0 [0,1,3,4,5,23,26,27] rfl (by decide) (fun _=>rfl) (ao _) ?_ ?_ ?_
  ·exact(sR rfl)
  ·exact⟨BI rfl rfl rfl ⟨rfl,rfl⟩ (dB.of_eq rfl),okF rfl (fun _=>rfl) rfl rfl rfl ⟨rfl,rfl⟩ (by simp[s2]),BI rfl rfl rfl ⟨rfl,rfl⟩ (dB.of_eq rfl),iD rfl rfl,iD rfl rfl,iD rfl rfl,iD rfl rfl,okF rfl nofun rfl (jv _ _) rfl ⟨rfl,rfl⟩ (by simp[s2]),trivial⟩
  conv=>whnf
  refine⟨(sR rfl),rfl,?_⟩;rintro w hw1;conv=>whnf
  refine⟨fun g2=>?_,fun g2=>?_⟩
  ·have hw2:w<c.states.length:=by simpa using g2
   conv=>whnf
   refine aG.vK 60 [0,1,3,4,10,11,17,18] (fun i:Nat=>[(5,.int ((i:Int)-1))]) (fun i=>UW p n c j (yt p c j L (s1 p c k++s2 p c k w++s3 p c k w i))) (fun i=>i<=c.states.length+1) (fun i=>c.states.length+1-i) 0 [0,1,3,4,5,23,26,27] rfl (by decide) (fun _=>rfl) (ao _) ?_ ?_ ?_
   ·exact(sR rfl)
   ·exact⟨BI rfl rfl rfl ⟨rfl,rfl⟩ (dB.of_eq rfl),okF rfl (fun _=>rfl) rfl rfl rfl ⟨rfl,rfl⟩ (by simp[s3]),BI rfl rfl rfl ⟨rfl,rfl⟩ (dB.of_eq rfl),iD rfl rfl,iD rfl rfl,iD rfl rfl,iD rfl rfl,okF rfl nofun rfl (jv _ _) rfl ⟨rfl,rfl⟩ (by simp[s3]),trivial⟩
   conv=>whnf
   refine⟨(sR rfl),rfl,?_⟩;rintro o ho1;have hlen:=ak5 (p:=p) (c:=c) (k:=k) (w:=w) (i:=o) (by omega) (by omega) hw1 (by omega);have hel:=JX (p:=p) (c:=c) (i:=j) (L:=L) (ts:=s1 p c k++s2 p c k w++s3 p c k w o);conv=>whnf
   refine⟨fun g3=>?_,fun g3=>?_⟩
   ·have ho2:(o:Int)-1<c.states.length:=ag g3;conv=>whnf
    refine ah.pure (S.P7 p n c k w ((o:Int)-1) false hp hc.sm hk) rfl ?_;conv=>whnf
    refine .mk (by exact fun h=>⟨h,h⟩) ?_;conv=>whnf
    have hst:acU k w ((o:Int)-1)=tvS (k,w,o):=rfl;refine⟨fun g4=>?_,fun g4=>?_⟩
    ·replace g4:enT p c (k,w,o)=true:=g4;have hnx:yt p c j L (s1 p c k++s2 p c k w++s3 p c k w (o+1))=JW (yt p c j L (s1 p c k++s2 p c k w++s3 p c k w o)) (afW p c j (k,w,o)):=by
      rw[aaL,g4,bE,<- bO,agl]
     generalize yt p c j L (s1 p c k++s2 p c k w++s3 p c k w o)=M at *;refine anW hY 90 rfl ?_ (rD (Zm p n c j k w o (yt p c j L (s1 p c k++s2 p c k w++s3 p c k w (o+1))))) ?_ fun hK=>?_
     ·simp only[rD,List.map,tq,vP,LG,OV.tV,Ql]; rfl
     ·conv=>whnf
      refine VC.mk id ?_;conv=>whnf
      refine Fork.mk (fun q=>absurd (q.symm.trans (by rw[Bool.not_true,Bool.and_false])).symm aR) (fun _=>?_);conv=>whnf
      refine .mk (by simp only[okI] at *; first|omega|(simp_all; done)|(simp_all; omega)) ?_;conv=>whnf
      refine⟨o+1,[0,1,3,4,5,23,26,78],by omega,by omega,⟨⟨_,rfl,.eq (by show T.int _=T.int _; congr 1; omega)⟩,trivial⟩,(sR rfl),BI rfl rfl rfl ⟨rfl,rfl⟩ (dB.of_eq rfl),iD rfl rfl,BI rfl rfl rfl ⟨rfl,rfl⟩ (dB.of_eq rfl),iD rfl rfl,iD rfl rfl,iD rfl rfl,iD rfl rfl,okF rfl nofun rfl (jv _ _) rfl ⟨rfl,rfl⟩ rfl,trivial⟩
     ·conv=>whnf
      refine ah.pure (hA k w o hk2 hw2 g4) rfl ?_;conv=>whnf
      refine Fork.mk (fun q=>absurd (q.symm.trans (rfl)).symm aR) (fun _=>?_);conv=>whnf
      refine ah.ajH (p:=p) (n:=n) (L:=M) (o:=afW p c j (k,w,o)) (B:=0) (m:=1) (l:=27) (k:=108) rfl ht1 (ai2 hc) (by omega) rfl rfl rfl rfl (by decide) (fun hm j'=>?_) (fun hm=>?_)
      ·conv=>whnf
       refine gq.mono (post:=fun t hp=>t= .dD []/\hp=Hz.aj (rD (Zm p n c j k w o (yt p c j L (s1 p c k++s2 p c k w++s3 p c k w (o+1)))))) (fun t q h=>⟨h.1,_,h.2,hK⟩) (gq.afQ (Zm p n c j k w o (yt p c j L (s1 p c k++s2 p c k w++s3 p c k w (o+1)))) [27,0,1,70,3,4,5,23,26] ?_ ?_ ?_ rfl ⟨rfl,rfl⟩)
       ·simp only[rD,List.map,tq,vP]; rfl
       ·exact aaX rfl rfl rfl rfl rfl rfl rfl rfl
       ·rw[hnx,hm];exact⟨okF rfl nofun rfl (jv _ _) rfl ⟨rfl,rfl⟩ rfl,BI rfl rfl rfl ⟨rfl,rfl⟩ (dB.of_eq rfl),iD rfl rfl,iD rfl rfl,BI rfl rfl rfl ⟨rfl,rfl⟩ (dB.of_eq rfl),iD rfl rfl,iD rfl rfl,iD rfl rfl,iD rfl rfl,trivial⟩
      ·conv=>whnf
       refine gq.mono (post:=fun t hp=>t= .dD []/\hp=Hz.aj (rD (Zm p n c j k w o (yt p c j L (s1 p c k++s2 p c k w++s3 p c k w (o+1)))))) (fun t q h=>⟨h.1,_,h.2,hK⟩) (gq.afQ (Zm p n c j k w o (yt p c j L (s1 p c k++s2 p c k w++s3 p c k w (o+1)))) [108,0,1,70,3,4,5,23,26] ?_ ?_ ?_ rfl ⟨rfl,rfl⟩)
       ·simp only[rD,List.map,tq,vP]; rfl
       ·exact aaX rfl rfl rfl rfl rfl rfl rfl rfl
       ·rw[hnx,hm];exact⟨okF rfl nofun rfl (jv _ _) rfl ⟨rfl,rfl⟩ rfl,BI rfl rfl rfl ⟨rfl,rfl⟩ (dB.of_eq rfl),iD rfl rfl,iD rfl rfl,BI rfl rfl rfl ⟨rfl,rfl⟩ (dB.of_eq rfl),iD rfl rfl,iD rfl rfl,iD rfl rfl,iD rfl rfl,trivial⟩
    ·replace g4:enT p c (k,w,o)=false:=g4;conv=>whnf
     refine Fork.mk (fun q=>absurd (q.symm.trans (g4)).symm aR) (fun _=>?_);conv=>whnf
     refine .mk (by intro h; simp_all; done) ?_;conv=>whnf
     refine Fork.mk (fun q=>absurd (q.symm.trans (by rw[show enB p c k w ((o:Int)-1)=false from g4]; rfl)).symm aR) (fun _=>?_);conv=>whnf
     refine .mk (by simp only[okI] at *; first|omega|(simp_all; done)|(simp_all; omega)) ?_;conv=>whnf
     have hnx:s1 p c k++s2 p c k w++s3 p c k w (o+1)=s1 p c k++s2 p c k w++s3 p c k w o:=by rw[aaL,g4]; simp
     refine⟨o+1,[0,1,3,4,5,23,26,27],by omega,by omega,⟨⟨_,rfl,.eq (by show T.int _=T.int _; congr 1; omega)⟩,trivial⟩,(sR rfl),BI rfl rfl rfl ⟨rfl,rfl⟩ (dB.of_eq rfl),okF rfl (fun _=>rfl) rfl rfl rfl ⟨rfl,rfl⟩ (by dsimp only; rw[hnx]),BI rfl rfl rfl ⟨rfl,rfl⟩ (dB.of_eq rfl),iD rfl rfl,iD rfl rfl,iD rfl rfl,iD rfl rfl,okF rfl nofun rfl (jv _ _) rfl ⟨rfl,rfl⟩ (by dsimp only; rw[hnx]),trivial⟩
   ·have ho2:o=c.states.length+1:=by
     have: ¬ ((o:Int)-1<(c.states.length:Int)):=aM g3
     omega
    subst ho2;have hnx:s1 p c k++s2 p c k (w+1)=s1 p c k++s2 p c k w++s3 p c k w (c.states.length+1):=by rw[aaM,bO]
    conv=>whnf
    refine .mk (by simp only[okI] at *; first|omega|(simp_all; done)|(simp_all; omega)) ?_;conv=>whnf
    refine⟨w+1,[0,1,3,4,5,23,26,27],by omega,by omega,(sR rfl),(sR rfl),BI rfl rfl rfl ⟨rfl,rfl⟩ (dB.of_eq rfl),okF rfl (fun _=>rfl) rfl rfl rfl ⟨rfl,rfl⟩ (by dsimp only; rw[hnx]),BI rfl rfl rfl ⟨rfl,rfl⟩ (dB.of_eq rfl),iD rfl rfl,iD rfl rfl,iD rfl rfl,iD rfl rfl,okF rfl nofun rfl (jv _ _) rfl ⟨rfl,rfl⟩ (by dsimp only; rw[hnx]),trivial⟩
  ·have hw2:w=c.states.length:=by
    have: ¬ ((w:Int)<(c.states.length:Int)):=aM g2
    omega
   subst hw2;have hnx:=(aaN (p:=p) (c:=c) (i:=k))
   conv=>whnf
   refine .mk (by simp only[okI] at *; first|omega|(simp_all; done)|(simp_all; omega)) ?_;conv=>whnf
   refine⟨k+1,[0,1,3,4,5,23,26,27],by omega,by omega,(sR rfl),(sR rfl),BI rfl rfl rfl ⟨rfl,rfl⟩ (dB.of_eq rfl),okF rfl (fun _=>rfl) rfl rfl rfl ⟨rfl,rfl⟩ (by dsimp only; rw[hnx]),BI rfl rfl rfl ⟨rfl,rfl⟩ (dB.of_eq rfl),iD rfl rfl,iD rfl rfl,iD rfl rfl,iD rfl rfl,okF rfl nofun rfl (jv _ _) rfl ⟨rfl,rfl⟩ (by dsimp only; rw[hnx]),trivial⟩
 ·have hk2:k=p.rules.length:=by
   have: ¬ ((k:Int)<(p.rules.length:Int)):=aM g1
   omega
  subst hk2;conv=>whnf
  refine gq.mono (post:=fun t hp=>t= .dD []/\hp=Hz.aj (rD (UW p n c j (yt p c j L (s1 p c p.rules.length))))) (fun t q h=>⟨_,h.2,rfl⟩) (gq.afQ (UW p n c j (yt p c j L (s1 p c p.rules.length))) [0,1,3,4,5,23,26,27] (by simp only[tq,vP]; rfl) ai3 ?_ rfl ⟨rfl,rfl⟩);exact⟨BI rfl rfl rfl ⟨rfl,rfl⟩ (dB.of_eq rfl),iD rfl rfl,BI rfl rfl rfl ⟨rfl,rfl⟩ (dB.of_eq rfl),iD rfl rfl,iD rfl rfl,iD rfl rfl,iD rfl rfl,okF rfl nofun rfl (jv _ _) rfl ⟨rfl,rfl⟩ rfl,trivial⟩
set_option maxHeartbeats 1000000 in
theorem S.Q8(p:aF)(n:Nat)(L:List pV)(i:Nat)(hi:i<L.length)(hp:dW p)(hv:bV p=0)(hpl:tN p)(h1:1<=n)(h8:n<=8)(hL: ∀ o∈L,vcN p n o.c=0/\o.c.states.length=n)(hcap:L.length<=10000000):aP Tryz.prog 41 (V.aS [.ptr 0 0 0,.int i]) (Iy p n L).aj 3 (fun t hp=>t=(V.int 0).aI/\hp=(rD (amZ p n (Eu p L i))).aj):=by
 refine nT.ofR (nx:=3) (h0:=Iy p n L) Bd.Ey (by simp) ⟨_,_,rfl,rfl⟩ rfl (Af p n L) ?_;conv=>whnf
 refine .mk (by rw[bL]; omega) ?_;conv=>whnf
 obtain⟨Vf,hcn⟩:=hL _ (JZ hi);refine⟨_,by rw[bN]; exact XB hi,?_⟩;conv=>whnf
 unfold Eu;generalize (L.getD i FN).c=c at *;refine aag.pure (S.uV p n c hpl.top hcn (by omega) (by omega)) rfl ?_;conv=>whnf
 refine ah.heap (BU.frame (S.QX p n c) _ _) ?_;rintro t hp' ⟨rfl,rfl⟩;refine⟨aiy 26,(26,some (Nb p n c))::_,rfl,ak4,?_⟩;conv=>whnf
 refine aax.walk [2,3,4,5] (fun h'=>h'=rD (UW p n c i (yt p c i L (s1 p c p.rules.length)))) 104 [.ptr 26 0 0] rfl (by simp only[LG,OV.tV,Ql]; rfl) ?_;conv=>whnf
 have hvf:=Dv hv;have hok:=agk Vf hcn h1 h8;refine⟨rfl,fun hY=>S.alh p n c i L hp hpl.top hok hcn (amO hvf hpl) hvf.X3 h8 hcap (fun k w o hk hw he=>?_) hY,?_⟩
 ·have he':enB p c k w ((o:Int)-1)=true:=he;obtain⟨k1,w1,hR⟩:=afL he';have hm:=aaJ (p:=p) (k:=k) k1.1 k1.2;have hrp:=P8 hvf hpl _ hm;refine S.UO p n c k w ((o:Int)-1) (p.rules.getD (k:Int).toNat default) hok.sm rfl k1 w1 (fun hk=>aix hR hk) hrp.f.kind hrp.send (fun hk x hx=>?_) (by have:=hp.rules; omega) ?_
  ·rw[<- hcn] at Vf;obtain⟨x1,x2⟩:=Ac (Ti Vf).2.2 x hx;have:=(hrp.f.place.rsp hk).1;omega
  ·exact(hp.rule _).response
 rintro h' rfl;have hel:=JX (p:=p) (c:=c) (i:=i) (L:=L) (ts:=s1 p c p.rules.length);generalize yt p c i L (s1 p c p.rules.length)=M at *;refine⟨by simp only[rD,List.map,LG,OV.tV,Ql]; rfl,?_⟩;conv=>whnf
 exact gq.aaU (amZ p n M) [0,1,27] rfl ⟨BI rfl rfl rfl ⟨rfl,rfl⟩ (dB.of_eq rfl),iD rfl rfl,okF rfl nofun rfl (jv _ _) rfl ⟨rfl,rfl⟩ rfl,trivial⟩ rfl rfl ⟨rfl,rfl⟩
theorem ali{p:aF}{q:Prop'}(h:gW p q=0)(hk:q.kind=1)(ht:p.topology=1):q.adjacent=[]:=by
 have hp:=h;unfold gW at hp;obtain⟨_,hp⟩:=bz nz hp;obtain⟨_,hp⟩:=bz (fun _=>by decide) hp;obtain⟨_,hp⟩:=bz (fun _=>by decide) hp;obtain⟨_,hp⟩:=bz (fun _=>by decide) hp;obtain⟨_,hp⟩:=bz nz hp;obtain⟨_,hp⟩:=bz (fun _=>by decide) hp;rw[show(!(q.kind==1))=false by simp[hk]] at hp;have ha:=jX hp (Ja p q.adjacent) (by simp);unfold Ja at ha;rw[show(p.topology==1)=true by rw[ht]; rfl] at ha;cases hl:((q.adjacent.length:Int)==0) with
 |true=>exact ai (by simpa using hl)
 |false=>rw[hl] at ha; cases ha
def am0(c:List Int):Prop:= ∀ i,0<=c.getD i 0/\c.getD i 0<=8
theorem ac8{st c:List Int}(h:am0 c):0<=wP st c/\wP st c<=8*st.length:=by
 unfold wP;induction st with
 |nil=>simp
 |cons x r ih =>
  have:=h x.toNat;simp only[bl,eJ,bX]; omega
set_option maxHeartbeats 1000000 in
theorem S.oM(p:aF)(c:mF)(hp:dW p)(hk:0<p.states.length)(hc:Di c)(h8:c.states.length<=8)(hst: ∀ x∈c.states,0<=x/\x<p.states.length):ak Tryz.prog 71 [.dat (.fM p),tK c] (.row 0 false (.ints (kN p.states.length c.states))):=by
 have hps:=hp.states;have aon:=hc.cor;refine ak.of Bd.oM (by simp) rfl rfl ?_;conv=>whnf
 rw[I4 (n:=p.states.length) hk];conv=>whnf
 repeat(refine VC.mk (by first|(omega)|(simp only[Rw.vT]; omega)) ?_; conv=>whnf)
 have hct:c.correct.toNat=c.states.length:=by omega
 rw[hct,show Rw.take c.states.length (Rw.ints c.states)=Rw.ints c.states from by show Rw.ints (c.states.take _)=_; rw[bx],bx];refine aG.vK 30 [5,16,17] (fun i:Nat=>[(18,.int i)]) (fun i=>[(6,lq (kN p.states.length (c.states.take i)))]) (fun i=>i<=c.states.length) (fun i=>c.states.length-i) 0 [6] rfl (by decide) (fun _=>rfl) (ao _) ?_ ?_ ?_
 ·exact(sR rfl)
 ·exact⟨iD rfl rfl,trivial⟩
 conv=>whnf
 refine⟨(sR rfl),rfl,?_⟩;rintro i hi;have hln:=oC (k:=p.states.length) (l:=c.states.take i);conv=>whnf
 refine⟨fun g1=>?_,fun g1=>?_⟩
 ·have hi':i<c.states.length:=by simpa using g1
  have hx:c.states.getD i 0∈c.states:=by rw[getD_some hi']; exact bh hi'
  obtain⟨x1,x2⟩:=hst _ hx;have hb:=aaI (k:=p.states.length) (j:=(c.states.getD i 0).toNat) (l:=c.states.take i);have hlt:(c.states.take i).length<=i:=by rw[bR]; omega
  conv=>whnf
  repeat(refine VC.mk (by first|(simp only[Rw.rng,bN]; omega)|(simp only[okI,bN] at *; omega)) ?_; conv=>whnf)
  refine⟨i+1,[6],by omega,by omega,(sR rfl),(sR rfl),okF rfl nofun rfl rfl rfl ⟨rfl,rfl⟩ ?_,trivial⟩;rw[acR hi']; rfl
 ·have hi':i=c.states.length:=by
   have: ¬ ((i:Int)<(c.states.length:Int)):=aM g1
   omega
  subst hi';rw[bx];conv=>whnf
  exact⟨zl trivial rfl⟩
set_option maxHeartbeats 1000000 in
theorem S.uY(p:aF)(q:Prop')(c:mF)(hp:dW p)(hq:lg q)(hb:X7 p.states.length q)(ha:q.adjacent=[])(hk:0<p.states.length)(hc:Di c)(h8:c.states.length<=8)(hst: ∀ x∈c.states,0<=x/\x<p.states.length) :
  ak Tryz.prog 39 [.dat (.fM p),.dat (.prop q),tK c] (.bool (yA q (kN p.states.length c.states))):=by
 have q2:=hq.bad;have hS:=S.oM p c hp hk hc h8 hst;have hcl:=oC (k:=p.states.length) (l:=c.states);have aoo:=hp.states;have hf:am0 (kN p.states.length c.states):=fun i=>by
  have:=aaI (k:=p.states.length) (j:=i) (l:=c.states); omega
 generalize kN p.states.length c.states=ct at *;refine ak.of Bd.uY (by simp) rfl rfl ?_;conv=>whnf
 refine ah.pure hS rfl ?_;conv=>whnf
 refine aG.same [3,4,5,7,17,18] (fun i:Nat=>[(19,.int i)]) (fun i=>i<=q.bad.length/\(q.bad.take i).all (fun k=>decide (k.least<=wP k.states ct))=true) (fun i=>q.bad.length-i) 0 rfl (by decide) rfl (fun _=>rfl) ⟨by omega,by simp⟩ ⟨⟨_,rfl,rfl⟩,trivial⟩ ?_;conv=>whnf
 refine⟨rfl,?_⟩;rintro i ⟨hi,hall⟩;conv=>whnf
 refine⟨fun h3=>?_,fun h3=>?_⟩
 ·have hi':i<q.bad.length:=by simpa using h3
  have hk:=getD_mem (d:=default) hi';have hpl:=hb.place _ hk;have hsz:=hq.cnt i;conv=>whnf
  refine .mk (by simp only[Rw.rng] at *; first|omega|(simp_all; done)|(simp_all; omega)) ?_;conv=>whnf
  refine aG.same [3,4,5,7,9,17,18,19,24,25] (fun j:Nat=>[(26,.int j),(10,.int (wP ((q.bad.getD i default).states.take j) ct))]) (fun j=>j<=(q.bad.getD i default).states.length) (fun j=>(q.bad.getD i default).states.length-j) 0 rfl (by decide) rfl (fun _=>rfl) (ao _) ⟨⟨_,rfl,rfl⟩,⟨_,rfl,rfl⟩,trivial⟩ ?_;conv=>whnf
  refine⟨rfl,?_⟩;rintro j hj;have hs1:=ac8 (st:=(q.bad.getD i default).states.take j) hf;have hl1:((q.bad.getD i default).states.take j).length<=(q.bad.getD i default).states.length:=by rw[bR]; omega
  conv=>whnf
  refine⟨fun h4=>?_,fun h4=>?_⟩
  ·have hj':j<(q.bad.getD i default).states.length:=by simpa using h4
   have hst:=Ro (c:=ct) hj';have hg:=hf ((q.bad.getD i default).states.getD j 0).toNat;obtain⟨p1,p2⟩:=hpl _ (getD_mem (d:=0) hj');conv=>whnf
   repeat(refine VC.mk (by first|(simp only[Rw.rng,bN]; omega)|(simp only[okI,bN] at *; omega)) ?_; conv=>whnf)
   refine⟨j+1,by omega,by omega,⟨⟨_,rfl,rfl⟩,⟨_,rfl,?_⟩,trivial⟩,?_,rfl⟩
   ·rw[hst]; rfl
   ·repeat' (first|exact trivial|exact⟨_,rfl,rfl⟩|constructor)
  ·have hj':(q.bad.getD i default).states.length<=j:=by simpa using h4
   rw[bm hj'];conv=>whnf
   refine⟨fun h5=>?_,fun h5=>?_⟩
   ·conv=>whnf
    refine ay.bool ?_
    have: ¬ (q.bad.getD i default).least<=wP (q.bad.getD i default).states ct:=by
     simp only[bN] at h5;have:=ag h5; omega
    exact Hr (p:=fun k=>decide (k.least<=wP k.states ct)) (d:=default) hi' (cB this)
   ·conv=>whnf
    refine .mk (by simp only[okI] at *; first|omega|(simp_all; done)|(simp_all; omega)) ?_;conv=>whnf
    have:(q.bad.getD i default).least<=wP (q.bad.getD i default).states ct:=by
     simp only[bN] at h5;have:=aM h5; omega
    refine⟨i+1,⟨by omega,?_⟩,by omega,⟨⟨_,rfl,rfl⟩,trivial⟩,?_,rfl⟩
    ·rw[KD (d:=default) hi' hall]; exact cI this
    ·repeat' (first|exact trivial|exact⟨_,rfl,rfl⟩|constructor)
 ·have hi':q.bad.length<=i:=by simpa using h3
  rw[bm hi'] at hall;conv=>whnf
  repeat(refine VC.mk (by first|exact id|(intro h; simp[h]; done)) ?_; conv=>whnf)
  refine ah.iJ (res:=.bool true) (fun h=>by rw[ha] at h; cases h) rfl ?_;rw[ha];conv=>whnf
  refine .mk (by intro h; rw[h]; rfl) ?_;conv=>whnf
  exact ay.bool hall
theorem ah.ai4{p:aF}{n:Nat}{L:List pV}{i:Nat}{h:Hz}{B m l k:Nat}{args:List V}{K:V->Hz->Prop}{KW:Nat->V->Hz->Prop}(ha:args=[.ptr B 0 0,.int i])(hi:i<L.length)(hp:dW p)(hv:bV p=0)(hpl:tN p)(h1:1<=n)(h8:n<=8)(hL: ∀ o∈L,vcN p n o.c=0/\o.c.states.length=n)(hcap:L.length<=10000000)
  (hB:h.get B=some (yu p n (.own m) (.own l))) (hm:h.get m=some (J6 L)) (hl:h.get l=some (um L)) (hk:h.get k=none) (nd:[B,m,l,k].Nodup)
  (h2:K (.int 0) ((B,some (yu p n (.own m) (.own k)))::(m,some (J6 (Eu p L i)))::(l,none)::(k,some (um (Eu p L i)))::h)):ah Tryz.prog false none 41 args h k K KW:=by
 subst ha;refine ah.DY (ts:=[.ptr 0 0 0,.int i]) (pre:=Iy p n L) [B,m,l] (S.Q8 p n L i hi hp hv hpl h1 h8 hL hcap) rfl rfl rfl (Af p n L) rfl ⟨⟨_,hB,rfl⟩,⟨_,hm,Bc L _⟩,⟨_,hl,yx L _⟩,trivial⟩ hk nd ?_;rintro t q ⟨rfl,rfl⟩;exact⟨.int 0,[some (yu p n (.own m) (.own k)),some (J6 (Eu p L i)),none,some (um (Eu p L i))],rfl,rfl,⟨rfl,dC some (Bc (Eu p L i) _).symm,rfl,dC some (yx (Eu p L i) _).symm,trivial⟩,h2⟩
def an6:Fnd->Int
 | .no=>0
 | .yes _ _=>0
 | .big=>4
@[reducible] def ai5:V:=.agg [.row 0 true .nil,.row 0 true .nil,.int 0,.row 0 true .nil,.row 0 true .nil,.int 0,.row 0 true .nil]
def agm(p:aF)(q:Prop')(n:Nat):Int:=bif decide (4000<(fE p q).length ^ n) then 4 else an6 (Zh p (fun _=>false) 4002 (Xv p q n) 0)
theorem ac9{a b c d:Option OV}{m:Nat}(h:9<=m):Hz.get m [(3,a),(2,b),(1,c),(0,d)]=none:=by
 have e: ∀ i,i<9->Nat.beq i m=false:=fun i hi=>by
  cases h':Nat.beq i m with
  |false=>rfl
  |true=>have:=cw h'; omega
 have e': ∀ i,i<9->Nat.beq m i=false:=fun i hi=>by
  cases h':Nat.beq m i with
  |false=>rfl
  |true=>have:=cw h'; omega
 simp[Hz.get,e]
abbrev alj(p:aF)(q:Prop')(n:Nat)(L:List pV):List (Nat×OV):=[(0,.box 27 11 (.dat (.fM p))),(1,.box 30 7 (.dat (.prop q))),(3,.box 42 8 ai5),(9,yu p n (.own 10) (.own 11)),(10,J6 L),(11,um L)]
theorem agn{L:List pV}: ∀ {k a:Nat},ala (fun _=>false) L a k=none:=by
 intro k;induction k with
 |zero=>intro a; rfl
 |succ k ih=>intro a; exact ih
theorem alk{p:aF}{L:List pV}{i:Nat}(hR:p.rules.length<=8)(hn:(L.getD i FN).c.states.length<=8):(Eu p L i).length<=L.length+600:=by
 have h1:=(JX (p:=p) (c:=(L.getD i FN).c) (i:=i) (L:=L) (ts:=s1 p (L.getD i FN).c p.rules.length)).2;have h2:=afP (p:=p) (c:=(L.getD i FN).c) p.rules.length;have e1:(L.getD i FN).c.states.length*((L.getD i FN).c.states.length+1)<=8*9:=ek hn (by omega);have e2:p.rules.length*((L.getD i FN).c.states.length*((L.getD i FN).c.states.length+1))<=8*(8*9):=ek hR e1;unfold Eu;omega
theorem XC{p:aF}: ∀ {k a:Nat} {L:List pV},Gv p L a (k+1)=Eu p (Gv p L a k) (a+k):=by
 intro k;induction k with
 |zero=>intro a L; rfl
 |succ k ih =>
  intro a L;show Gv p (Eu p L a) (a+1) (k+1)=Eu p (Gv p (Eu p L a) (a+1) k) (a+(k+1));rw[ih,show a+1+k=a+(k+1) by omega]
theorem alm{p:aF}{q:Prop'}{n:Nat}(hR:p.rules.length<=8)(h8:n<=8){a:Nat}{L:List pV}(hL:QZ p q n L): ∀ {k:Nat},a+k<=L.length->L.length<=(Gv p L a k).length/\(Gv p L a k).length<=L.length+600*k:=by
 intro k;induction k with
 |zero=>intro _; exact⟨ba _,by show L.length<=_; omega⟩
 |succ k ih =>
  intro h;have h':=ih (by omega);have hr:=aaS (p:=p) hL (show a+k<=L.length by omega);have hn:=Ea (hr _ (JZ (show a+k<(Gv p L a k).length by omega)));have:=alk (L:=Gv p L a k) (i:=a+k) hR (by omega);have:=aaR (p:=p) (L:=Gv p L a k) (i:=a+k);rw[XC]; omega
set_option maxHeartbeats 1000000 in
theorem S.LV(p:aF)(q:Prop')(n:Nat)(hp:dW p)(hq:lg q)(hv:gW p q=0)(hk:q.kind=1)(hb:X7 p.states.length q)(hpl:tN p)(h1:1<=n)(h8:n<=8)(hgood: ∀ c,Rch p q n c->yA q (kN p.states.length c.states)=false) :
  ak Tryz.prog 22 [.dat (.fM p),.dat (.prop q),Zg n] (.dD [ai5,.bool false,.int (agm p q n)]):=by
 unfold agm;have adA:=ali hv hk hpl.top;refine ak.of Bd.qP (by simp) rfl rfl ?_;by_cases hbig:4000<(fE p q).length ^ n
 ·rw[cI hbig,bE];conv=>whnf
  refine ah.pure (S.Q7 p q n hp hq hv hpl h1 h8 hbig) rfl ?_;conv=>whnf
  refine Fork.mk (fun _=>?_) (fun q=>absurd (q.symm.trans (rfl)) aR);conv=>whnf
  exact ay.eqv rfl
 ·rw[cB hbig,ap];conv=>whnf
  have hL:=aiL (p:=p) (q:=q) (n:=n);have hbl:(Xv p q n).length<=4000:=by
   have:=(Qe (os:=(iC (fE p q) n).map (Ew n)) (L:=[])).2;rw[bL,JY] at this;unfold Xv;rw[cC] at this;omega
  have hB:=S.oG p q n hp hq hv hpl h1 h8 hbig;generalize Xv p q n=L0 at *;refine ah.anR (n:=9) (v:=.dD [.ptr 9 0 0,.int 0]) (o0':=yu p n (.own 10) (.own 11)) (o1:=J6 L0) (o2:=um L0) hB rfl rfl (Dh L0) rfl (UY (show 1<3 by decide) (show 2<3 by decide)) ⟨show 0<3 by decide,trivial,trivial⟩ rfl (fun m hm=>ac9 hm) ?_;conv=>whnf
  refine Fork.mk (fun q=>absurd (q.symm.trans (rfl)).symm aR) (fun _=>?_);conv=>whnf
  generalize hR:Zh p (fun _=>false) 4002 L0 0=R;refine aG.vK 60 [3,4,6,9] (fun x:Nat×List pV×Nat=>[(11,.int x.2.2)]) (fun x=>alj p q n x.2.1) (fun x=>4002<=x.1+x.2.2/\Zh p (fun _=>false) x.1 x.2.1 x.2.2=R/\QZ p q n x.2.1/\x.2.2<=4000/\x.2.1.length<=5000000) (fun x=>x.1) (4002,L0,0) [0,1,3,9,10,11] rfl (by decide) (fun _=>rfl) ⟨ba _,hR,hL,ao _,by show L0.length<=_; omega⟩ ?_ ?_ ?_
  ·exact(sR rfl)
  ·exact⟨iD rfl rfl,iD rfl rfl,iD rfl rfl,BI rfl rfl rfl ⟨rfl,rfl⟩ (dB.of_eq rfl),iD rfl rfl,okF rfl nofun rfl (jv _ _) rfl ⟨rfl,rfl⟩ rfl,trivial⟩
  conv=>whnf
  refine⟨(sR rfl),rfl,?_⟩;clear hL hR hbl hB;rintro⟨f,L,a⟩ ⟨hf,hR,hL,ha,hLl⟩;replace hf:4002<=f+a:=hf;replace hR:Zh p (fun _=>false) f L a=R:=hR;replace hL:QZ p q n L:=hL;replace ha:a<=4000:=ha;replace hLl:L.length<=5000000:=hLl;obtain⟨f,rfl⟩: ∃ k,f=k+1:=⟨f-1,by omega⟩
  conv=>whnf
  refine⟨fun g1=>?_,fun g1=>?_⟩
  ·have ha':a<L.length:=by have h:(a:Int)<((L.map yw).length:Int):=ag g1; rw[bL] at h; omega
   simp only[Zh] at hR;rw[cF.mpr ha',bE,agn] at hR;simp only at hR;have hml:((L.map yw).length:Int)=L.length:=by rw[bL]
   have hcf: ∀ i,i<L.length-> ∃ c,(L.getD i FN).c=c/\Rch p q n c/\vcN p n c=0/\c.states.length=n/\Di c/\(∀ x∈c.states,0<=x/\x<p.states.length)/\yA q (kN p.states.length c.states)=false:=fun i hi=>by
    have h:=hL _ (JZ hi);have Vf:=UR hv hpl h1 h8 h;have hcn:=Ea h;refine⟨_,rfl,h,Vf,hcn,agk Vf hcn h1 h8,fun x hx=>?_,hgood _ h⟩;rw[<- hcn] at Vf;have:=Ac (Ti Vf).2.2 x hx;omega
   have hkp:0<p.states.length:=by
    obtain⟨c,_,_,_,hcn,_,hst,_⟩:=hcf a ha';cases hs:c.states with
    |nil=>rw[hs] at hcn; simp at hcn; omega
    |cons x r=>have:=hst x (by rw[hs]; simp); omega
   conv=>whnf
   refine aG.vK 60 [3,4,6,9,11,12] (fun i:Nat=>[(13,.int i)]) (fun _=>alj p q n L) (fun i=>i<=L.length) (fun i=>L.length-i) a [0,1,3,9,10,11] rfl (by decide) (fun _=>rfl) (gn ha') ?_ ?_ ?_
   ·exact(sR rfl)
   ·exact⟨iD rfl rfl,iD rfl rfl,iD rfl rfl,BI rfl rfl rfl ⟨rfl,rfl⟩ (dB.of_eq rfl),iD rfl rfl,okF rfl nofun rfl (jv _ _) rfl ⟨rfl,rfl⟩ rfl,trivial⟩
   conv=>whnf
   refine⟨(sR rfl),rfl,?_⟩;rintro i hi;conv=>whnf
   refine⟨fun g2=>?_,fun g2=>?_⟩
   ·have hi':i<L.length:=by have h:(i:Int)<((L.map yw).length:Int):=ag g2; rw[hml] at h; omega
    conv=>whnf
    refine .mk (by rw[bL]; omega) ?_;conv=>whnf
    obtain⟨c,hc,hr,Vf,hcn,hok,hst,hbad⟩:=hcf i hi';refine⟨_,by rw[bN]; exact XB hi',?_⟩;conv=>whnf
    rw[hc];refine ah.pure (S.uY p q c hp hq hb adA hkp hok (by omega) hst) rfl ?_;rw[hbad];conv=>whnf
    refine Fork.mk (fun q=>absurd (q.symm.trans (rfl)).symm aR) (fun _=>?_);conv=>whnf
    refine .mk (by simp only[okI] at *; first|omega|(simp_all; done)|(simp_all; omega)) ?_;conv=>whnf
    refine⟨i+1,[0,1,3,9,10,11],by omega,by omega,(sR rfl),(sR rfl),iD rfl rfl,iD rfl rfl,iD rfl rfl,BI rfl rfl rfl ⟨rfl,rfl⟩ (dB.of_eq rfl),iD rfl rfl,okF rfl nofun rfl (jv _ _) rfl ⟨rfl,rfl⟩ rfl,trivial⟩
   ·conv=>whnf
    refine⟨fun g3=>?_,fun g3=>?_⟩
    ·have h4:4000<L.length:=by have h:(4000:Int)<((L.map yw).length:Int):=ag g3; rw[hml] at h; omega
     rw[cF.mpr h4,bE] at hR;subst hR;conv=>whnf
     exact ay.eqv rfl
    ·have h4: ¬ 4000<L.length:=by have h: ¬ (4000:Int)<((L.map yw).length:Int):=aM g3; rw[hml] at h; omega
     rw[show Nat.blt 4000 L.length=false from gb.2 fun h=>h4 (cF.mp h),ap] at hR;conv=>whnf
     refine aG.vK 60 [3,4,6,9,12] (fun k:Nat=>[(11,.int ((a+k:Nat):Int))]) (fun k=>alj p q n (Gv p L a k)) (fun k=>a+k<=L.length) (fun k=>L.length-(a+k)) 0 [0,1,3,9,10,11] rfl (by decide) (fun _=>rfl) (gn ha') ?_ ?_ ?_
     ·exact(sR rfl)
     ·exact⟨iD rfl rfl,iD rfl rfl,iD rfl rfl,BI rfl rfl rfl ⟨rfl,rfl⟩ (dB.of_eq rfl),iD rfl rfl,okF rfl nofun rfl (jv _ _) rfl ⟨rfl,rfl⟩ rfl,trivial⟩
     conv=>whnf
     refine⟨(sR rfl),rfl,?_⟩;rintro k hk';have hlr:=aaS hL hk';have hll:=alm (Dv (rJ hv)).X3 h8 hL hk';conv=>whnf
     refine⟨fun g4=>?_,fun g4=>?_⟩
     ·have hk2:a+k<L.length:=by have h:((a+k:Nat):Int)<((L.map yw).length:Int):=ag g4; rw[hml] at h; omega
      conv=>whnf
      refine ah.ai4 (p:=p) (n:=n) (L:=Gv p L a k) (i:=a+k) (B:=9) (m:=10) (l:=11) (k:=65) rfl (by omega) hp (rJ hv) hpl h1 h8 (fun o ho=>⟨UR hv hpl h1 h8 (hlr o ho),Ea (hlr o ho)⟩) (by omega) rfl rfl rfl rfl (by decide) ?_;rw[<- XC];conv=>whnf
      refine Fork.mk (fun q=>absurd (q.symm.trans (rfl)).symm aR) (fun _=>?_);conv=>whnf
      refine .mk (by simp only[okI] at *; first|omega|(simp_all; done)|(simp_all; omega)) ?_;conv=>whnf
      refine⟨k+1,[0,1,3,9,10,65],by omega,by omega,(sR rfl),(sR rfl),iD rfl rfl,iD rfl rfl,iD rfl rfl,BI rfl rfl rfl ⟨rfl,rfl⟩ (dB.of_eq rfl),iD rfl rfl,okF rfl nofun rfl (jv _ _) rfl ⟨rfl,rfl⟩ rfl,trivial⟩
     ·have hk2:a+k=L.length:=by have h: ¬ ((a+k:Nat):Int)<((L.map yw).length:Int):=aM g4; rw[hml] at h; omega
      have hk3:L.length-a=k:=by omega
      rw[hk3] at hR;conv=>whnf
      refine⟨(f,Gv p L a k,L.length),[0,1,3,9,10,11],⟨by show 4002<=f+L.length; omega,hR,hlr,by show L.length<=4000; omega,by show(Gv p L a k).length<=_; omega⟩,Nat.lt_succ_self f,⟨⟨_,rfl,.eq (by show T.int _=T.int _; rw[hk2])⟩,trivial⟩,(sR rfl),iD rfl rfl,iD rfl rfl,iD rfl rfl,BI rfl rfl rfl ⟨rfl,rfl⟩ (dB.of_eq rfl),iD rfl rfl,okF rfl nofun rfl (jv _ _) rfl ⟨rfl,rfl⟩ rfl,trivial⟩
  ·have ha': ¬ a<L.length:=by have h: ¬ (a:Int)<((L.map yw).length:Int):=aM g1; rw[bL] at h; omega
   have hR':R= .no:=by
    simp only[Zh] at hR;rw[show Nat.blt a L.length=false from gb.2 fun h=>ha' (cF.mp h)] at hR;exact hR.symm
   subst hR';conv=>whnf
   exact ay.eqv rfl
@[reducible] def Gw(n t f:Int):V:=.agg [.int n,.int t,.int f]
theorem S.Q9(p:aF)(n t f:Int)(hpl:tN p)(h1:1<=n)(h8:n<=8)(ht:0<=t/\t<=n)(hf:0<=f/\f<=n):ak Tryz.prog 68 [.dat (.fM p),Gw n t f] (.bool (t==0&&f==0)):=by
 have h1':=hpl.top; have h2:=hpl.fault; have h3:=hpl.res;obtain⟨nm,tp,st,ms,vs,ft,rs,ini,ld,rl⟩:=p;simp only at h1' h2 h3;subst h1' h2 h3;refine ak.of Bd.wM (by simp) rfl rfl ?_;conv=>whnf
 repeat(refine VC.mk (by first|exact id|exact fun h=>⟨h,h⟩|(intro h; rw[h]; rfl)) ?_; conv=>whnf)
 have e0:(decide (n<1)||decide (1048576<n)||decide (t<0)||decide (n<t)||decide (f<0)||decide (n<f))=false:=by
  simp; omega
 refine Fork.mk (fun q=>absurd (q.symm.trans (e0)).symm aR) (fun _=>?_);conv=>whnf
 repeat(refine VC.mk (by first|exact id|(intro h; simp[]; done)) ?_; conv=>whnf)
 refine⟨fun q=>?_,fun q=>?_⟩
 ·conv=>whnf
  refine ay.bool ?_;rw[cR];simp at q ⊢;omega
 ·conv=>whnf
  refine VC.mk id ?_;conv=>whnf
  refine Fork.mk (fun q=>absurd (q.symm.trans (rfl)).symm aR) (fun _=>?_);conv=>whnf
  repeat(refine VC.mk id ?_; conv=>whnf)
  refine Fork.mk (fun q=>absurd (q.symm.trans (rfl)).symm aR) (fun _=>?_);conv=>whnf
  refine aG.times 1 rfl ?_;conv=>whnf
  refine Fork.mk (fun q=>absurd (q.symm.trans (rfl)).symm aR) (fun _=>?_);conv=>whnf
  refine ay.bool ?_;rw[cR];simp at q ⊢;omega
def szL(n:Nat)(k:Nat):List V:=bif Nat.blt 0 k then [Gw n 0 0] else []
abbrev Qm(l:List V):OV:=.gen 37 4 l
theorem Qn(n k nx:Nat):((Qm (szL n k)).good nx&&(Qm (szL n k)).zn)=true:=by
 unfold szL;cases Nat.blt 0 k<;>rfl
theorem agp{h:Hz}{j:Nat}{Z:Nat->Prop}{l:List V}(hz:Z j)(hl:V.bn l=true)(q:h.get j=some (Qm l)):T.sub Z h.aj (V.Am 4 false l).aI (V.own j).aI:=by
 show T.sub Z h.aj (.sl 4 false (V.aS l)) (.own j);simp only[T.sub];exact⟨trivial,hz,V.eG l hl,by decide,37,aK q⟩
theorem S.nK(p:aF)(n:Nat)(hp:dW p)(hv:bV p=0)(hpl:tN p)(h1:1<=n)(h8:n<=8):ak Tryz.prog 37 [.dat (.fM p),.int n] (.dD [.Am 4 false [Gw n 0 0],.int 0]):=by
 refine ak.of Bd.nK (by simp) rfl rfl ?_;conv=>whnf
 refine ah.pure (S.gJ p hp) rfl ?_;rw[hv];conv=>whnf
 refine Fork.mk (fun q=>absurd (q.symm.trans (rfl)).symm aR) (fun _=>?_);conv=>whnf
 repeat(refine VC.mk (by first|exact id|(intro h; rw[h]; rfl)) ?_; conv=>whnf)
 have e0:(decide ((n:Int)<1)||decide ((8:Int)<n))=false:=by simp; omega
 refine Fork.mk (fun q=>absurd (q.symm.trans (e0)).symm aR) (fun _=>?_);conv=>whnf
 refine aG.nil 7 37 4 (by rfl) rfl rfl rfl ?_;refine aG.vK 60 [1,2] (fun f:Nat=>[(8,.int f),(7,.own 16)]) (fun f=>[(0,.box 27 11 (.dat (.fM p))),(16,Qm (szL n f))]) (fun f=>f<=n+1) (fun f=>n+1-f) 0 [0,16] rfl (by decide) (fun _=>rfl) (ao _) ?_ ?_ ?_
 ·exact(sR rfl)
 ·exact⟨iD rfl rfl,okF rfl nofun rfl (Qn _ _ _) rfl ⟨rfl,rfl⟩ rfl,trivial⟩
 conv=>whnf
 refine⟨(sR rfl),rfl,?_⟩;rintro f hf;conv=>whnf
 refine⟨fun g1=>?_,fun g1=>?_⟩
 ·have hf':f<=n:=by have h:(f:Int)<=(n:Int):=ag g1; omega
  conv=>whnf
  refine aG.vK 60 [1,2,8] (fun t:Nat=>[(9,.int t),(7,.own 16)]) (fun t=>[(0,.box 27 11 (.dat (.fM p))),(16,Qm (szL n (f+t)))]) (fun t=>t<=n+1) (fun t=>n+1-t) 0 [0,16] rfl (by decide) (fun _=>rfl) (ao _) ?_ ?_ ?_
  ·exact(sR rfl)
  ·exact⟨iD rfl rfl,okF rfl nofun rfl (Qn _ _ _) rfl ⟨rfl,rfl⟩ rfl,trivial⟩
  conv=>whnf
  refine⟨(sR rfl),rfl,?_⟩;rintro t ht;conv=>whnf
  refine⟨fun g2=>?_,fun g2=>?_⟩
  ·have ht':t<=n:=by have h:(t:Int)<=(n:Int):=ag g2; omega
   conv=>whnf
   refine ah.pure (S.Q9 p n t f hpl (by omega) (by omega) ⟨by omega,by omega⟩ ⟨by omega,by omega⟩) rfl ?_;conv=>whnf
   refine⟨fun g3=>?_,fun g3=>?_⟩
   ·have h0:t=0/\f=0:=by simp at g3; omega
    obtain⟨rfl,rfl⟩:=h0;conv=>whnf
    refine .mk (show kT 24 0 1 from⟨by decide,by decide⟩) ?_;conv=>whnf
    refine .mk (by simp only[okI] at *; first|omega|(simp_all; done)|(simp_all; omega)) ?_;conv=>whnf
    refine⟨0+1,[0,75],by omega,by omega,(sR rfl),(sR rfl),iD rfl rfl,okF rfl nofun rfl (Qn _ _ _) rfl ⟨rfl,rfl⟩ rfl,trivial⟩
   ·have h0:0<f+t:=by
     cases hz:f+t with
     |zero =>
      have:f=0:=by omega
      have:t=0:=by omega
      subst f t;cases g3
     |succ k=>omega
    have he:szL n (f+(t+1))=szL n (f+t):=by
     unfold szL; rw[cF.mpr h0,cF.mpr (show 0<f+(t+1) by omega)]
    conv=>whnf
    refine .mk (by simp only[okI] at *; first|omega|(simp_all; done)|(simp_all; omega)) ?_;conv=>whnf
    refine⟨t+1,[0,16],by omega,by omega,(sR rfl),(sR rfl),iD rfl rfl,okF rfl nofun rfl (Qn _ _ _) rfl ⟨rfl,rfl⟩ (by dsimp only; rw[he]),trivial⟩
  ·have ht':t=n+1:=by have h: ¬ (t:Int)<=(n:Int):=aM g2; omega
   subst ht';have he:szL n (f+(n+1))=szL n (f+1):=by
    unfold szL; rw[cF.mpr (show 0<f+(n+1) by omega),cF.mpr (show 0<f+1 by omega)]
   conv=>whnf
   refine .mk (by simp only[okI] at *; first|omega|(simp_all; done)|(simp_all; omega)) ?_;conv=>whnf
   refine⟨f+1,[0,16],by omega,by omega,(sR rfl),(sR rfl),iD rfl rfl,okF rfl nofun rfl (Qn _ _ _) rfl ⟨rfl,rfl⟩ (by dsimp only; rw[he]),trivial⟩
 ·have hf':f=n+1:=by have h: ¬ (f:Int)<=(n:Int):=aM g1; omega
  subst hf';conv=>whnf
  have he:szL n (n+1)=[Gw n 0 0]:=by unfold szL; rw[cF.mpr (show 0<n+1 by omega)]; rfl
  rw[he];exact⟨⟨agp trivial rfl rfl,aH _,trivial⟩⟩
def Zn(i:Nat):List V:=(List.range i).map fun j:Nat=>Gw ((j+1:Nat):Int) 0 0
theorem agq(i:Nat):Zn (i+1)=Zn i++[Gw ((i+1:Nat):Int) 0 0]:=by
 unfold Zn; rw[cp,cP]; rfl
theorem aln(l:List Nat)(nx:Nat):((Qm (l.map fun j:Nat=>Gw ((j+1:Nat):Int) 0 0)).good nx&&(Qm (l.map fun j:Nat=>Gw ((j+1:Nat):Int) 0 0)).zn)=true:=by
 have h:AB 4 (l.map fun j:Nat=>Gw ((j+1:Nat):Int) 0 0)=true/\T.Em nx (V.aS (l.map fun j:Nat=>Gw ((j+1:Nat):Int) 0 0))=true/\V.bn (l.map fun j:Nat=>Gw ((j+1:Nat):Int) 0 0)=true:=by
  induction l with
  |nil=>exact⟨rfl,rfl,rfl⟩
  |cons t r ih =>
   obtain⟨h1,h2,h3⟩:=ih;refine⟨?_,?_,?_⟩
   ·simp only[bl,AB,h1,eK]; rfl
   ·simp only[bl,V.aS,T.Em,h2,eK]; rfl
   ·simp only[bl,V.bn,h3,eK]; rfl
 obtain⟨h1,h2,h3⟩:=h;simp only[OV.good,OV.zn,h1,h2,h3,eK,cV];decide
theorem Zo(i nx:Nat):((Qm (Zn i)).good nx&&(Qm (Zn i)).zn)=true:=aln _ _
theorem agr(i:Nat):V.bn (Zn i)=true:=by
 have:=Zo i 0;rw[aD] at this; exact this.2
theorem aaY(i:Nat):(Zn i).length=i:=by simp[Zn]
theorem S.qF(p:aF)(most:Nat)(hp:dW p)(hv:bV p=0)(hpl:tN p)(h8:most<=8):ak Tryz.prog 21 [.dat (.fM p),.int most] (.Am 4 false (Zn most)):=by
 refine ak.of Bd.qF (by simp) rfl (by simp[V.free]) ?_;conv=>whnf
 refine aG.nil 5 37 4 (by rfl) rfl rfl rfl ?_;refine aG.vK 60 [1,2] (fun i:Nat=>[(6,.int ((i+1:Nat):Int)),(5,.own 4)]) (fun i=>[(0,.box 27 11 (.dat (.fM p))),(4,Qm (Zn i))]) (fun i=>i<=most) (fun i=>most-i) 0 [0,4] rfl (by decide) (fun _=>rfl) (ao _) ?_ ?_ ?_
 ·exact(sR rfl)
 ·exact⟨iD rfl rfl,okF rfl nofun rfl (Zo _ _) rfl ⟨rfl,rfl⟩ rfl,trivial⟩
 conv=>whnf
 refine⟨(sR rfl),rfl,?_⟩;rintro i hi;conv=>whnf
 refine⟨fun g1=>?_,fun g1=>?_⟩
 ·have hi':i+1<=most:=by have h:((i+1:Nat):Int)<=(most:Int):=ag g1; omega
  conv=>whnf
  refine ah.pure (S.nK p (i+1) hp hv hpl (by omega) (by omega)) rfl ?_;conv=>whnf
  refine .mk (show kT 24 (Zn i).length 1 from by rw[aaY]; exact⟨by omega,by omega⟩) ?_;conv=>whnf
  refine .mk (by simp only[okI] at *; first|omega|(simp_all; done)|(simp_all; omega)) ?_;conv=>whnf
  refine⟨i+1,[0,73],by omega,by omega,(sR rfl),(sR rfl),iD rfl rfl,okF rfl nofun rfl (Zo _ _) rfl ⟨rfl,rfl⟩ (by show(Qm (Zn (i+1))).au.l=_; rw[agq]; rfl),trivial⟩
 ·have hi':i=most:=by have h: ¬ ((i+1:Nat):Int)<=(most:Int):=aM g1; omega
  subst hi';conv=>whnf
  exact⟨agp trivial (agr _) rfl⟩
theorem S.kD(p:aF)(q:Prop')(most:Int)(hp:dW p)(hq:lg q)(hv:gW p q=0)(hm:most<=8)(hk:q.kind=1):ak Tryz.prog 20 [.dat (.fM p),.dat (.prop q),.int most,.int 1] (.int 0):=by
 refine ak.of Bd.kD (by simp) rfl rfl ?_;conv=>whnf
 refine ah.pure (S.dn p q hp hq) rfl ?_;rw[hv];conv=>whnf
 refine Fork.mk (fun q=>absurd (q.symm.trans (rfl)).symm aR) (fun _=>?_);conv=>whnf
 refine Fork.mk (fun q=>absurd (q.symm.trans (cB (by omega))).symm aR) (fun _=>?_);conv=>whnf
 refine Fork.mk (fun q=>absurd (q.symm.trans (by rw[hk]; rfl)).symm aR) (fun _=>?_);conv=>whnf
 exact ay.eqv rfl
def aa8(p:aF)(q:Prop'):Nat->Nat->Int
 |_,0=>0
 |i,k+1=>bif agm p q (i+1) !=0 then agm p q (i+1) else aa8 p q (i+1) k
theorem ai6{m i:Nat}(h:i<m):Wp (Zn m) i=some (Gw ((i+1:Nat):Int) 0 0):=by
 have key: ∀ (l:List Nat) (i:Nat),i<l.length->Wp (l.map fun j:Nat=>Gw ((j+1:Nat):Int) 0 0) i=some (Gw ((l.getD i 0+1:Nat):Int) 0 0):=by
  intro l;induction l with
  |nil=>intro i h; simp at h
  |cons x r ih =>
   intro i h;cases i with
   |zero=>rfl
   |succ i=>exact ih i (by simpa using h)
 have:=key (List.range m) i (by simpa using h);rw[show(List.range m).getD i 0=i by simp[List.getD_eq_getElem?_getD,h]] at this;exact this
set_option maxHeartbeats 1000000 in
theorem S.Kw(p:aF)(q:Prop')(most:Nat)(hp:dW p)(hq:lg q)(hv:gW p q=0)(hk:q.kind=1)(hb:X7 p.states.length q)(hpl:tN p)(h8:most<=8)(hgood: ∀ n,1<=n->n<=most-> ∀ c,Rch p q n c->yA q (kN p.states.length c.states)=false) :
  ak Tryz.prog 8 [.dat (.fM p),.dat (.prop q),.int most] (.dD [Gw 0 0 0,ai5,.bool false,.int (aa8 p q 0 most)]):=by
 generalize hR:aa8 p q 0 most=R;refine ak.of Bd.qQ (by simp) rfl rfl ?_;conv=>whnf
 refine ah.pure (S.kD p q most hp hq hv (by omega) hk) rfl ?_;conv=>whnf
 refine Fork.mk (fun q=>absurd (q.symm.trans (rfl)).symm aR) (fun _=>?_);conv=>whnf
 refine ah.pure (S.qF p most hp (rJ hv) hpl h8) (by simp[V.free]) ?_;have hsl:=aaY most;conv=>whnf
 refine aG.vK 60 [3,4,6,7,27,28] (fun i:Nat=>[(29,.int i)]) (fun i=>[(0,.box 27 11 (.dat (.fM p))),(1,.box 30 7 (.dat (.prop q))),(2,.box 37 4 (Gw 0 0 0)),(3,.box 42 8 ai5)]) (fun i=>i<=most/\aa8 p q i (most-i)=R) (fun i=>most-i) 0 [0,1,2,3] rfl (by decide) (fun _=>rfl) ⟨ao _,hR⟩ ?_ ?_ ?_
 ·exact(sR rfl)
 ·exact⟨iD rfl rfl,iD rfl rfl,iD rfl rfl,iD rfl rfl,trivial⟩
 conv=>whnf
 refine⟨(sR rfl),rfl,?_⟩;rintro i ⟨hi,hR⟩;conv=>whnf
 refine⟨fun g1=>?_,fun g1=>?_⟩
 ·have hi':i<most:=by have h:(i:Int)<((Zn most).length:Int):=ag g1; omega
  conv=>whnf
  have hnt:=ai6 (show(i:Int).toNat<most by rw[bN]; exact hi');first|rw[Zl (i:=i) rfl rfl hnt]|rw[agj (i:=i) rfl rfl hnt]
  rw[bN];rw[show most-i=(most-(i+1))+1 by omega] at hR;simp only[aa8] at hR;conv=>whnf
  refine .mk (by omega) ?_;conv=>whnf
  refine ah.pure (S.LV p q (i+1) hp hq hv hk hb hpl (by omega) (by omega) (hgood (i+1) (by omega) (by omega))) rfl ?_;generalize agm p q (i+1)=e at *;conv=>whnf
  refine⟨fun g2=>?_,fun g2=>?_⟩
  ·rw[show(e !=0)=true from g2,bE] at hR;conv=>whnf
   exact ay.eqv (by rw[<- hR]; rfl)
  ·rw[show(e !=0)=false from g2,ap] at hR;conv=>whnf
   refine Fork.mk (fun q=>absurd (q.symm.trans (rfl)).symm aR) (fun _=>?_);conv=>whnf
   refine .mk (by simp only[okI] at *; first|omega|(simp_all; done)|(simp_all; omega)) ?_;conv=>whnf
   refine⟨i+1,[0,1,2,3],⟨by omega,hR⟩,by omega,(sR rfl),(sR rfl),iD rfl rfl,iD rfl rfl,iD rfl rfl,iD rfl rfl,trivial⟩
 ·have hi':i=most:=by have h: ¬ (i:Int)<((Zn most).length:Int):=aM g1; omega
  subst hi';rw[eN] at hR;conv=>whnf
  exact ay.eqv (by rw[<- hR]; rfl)
def XZ(k:Int):Nat->Int->Bool
 |0,_=>true
 |n+1,a=>bif decide (300<a*max 1 k) then false else XZ k n (a*max 1 k)
set_option maxHeartbeats 1000000 in
theorem S.adr(p:aF)(q:Prop')(n:Nat)(hp:dW p)(hq:lg q)(hv:gW p q=0)(hn:n<=100):ak Tryz.prog 6 [.dat (.fM p),.dat (.prop q),.int n] (.bool (XZ (fE p q).length n 1)):=by
 have hst:=KC hp hq;refine ak.of Bd.lX (by simp) rfl rfl ?_;conv=>whnf
 refine ah.pure (S.uJ p q hp hq hv) rfl ?_;generalize fE p q=l at *;conv=>whnf
 refine Fork.mk (fun q=>absurd (q.symm.trans (rfl)).symm aR) (fun _=>?_);conv=>whnf
 generalize hR:XZ l.length n 1=R;refine aG.same [2,7] (fun x:Nat×Int=>[(10,.int x.1),(9,.int x.2)]) (fun x=>x.1<=n/\XZ l.length (n-x.1) x.2=R/\0<=x.2/\x.2<=300) (fun x=>n-x.1) (0,1) rfl (by decide) rfl (fun _=>rfl) ⟨ao _,hR,by decide,by decide⟩ ⟨⟨_,rfl,rfl⟩,⟨_,rfl,rfl⟩,trivial⟩ ?_;conv=>whnf
 refine⟨rfl,?_⟩;rintro⟨i,a⟩ ⟨hi,hR,ha,ha3⟩;replace hi:i<=n:=hi;replace hR:XZ l.length (n-i) a=R:=hR;replace ha:0<=a:=ha;replace ha3:a<=300:=ha3;conv=>whnf
 refine⟨fun g1=>?_,fun g1=>?_⟩
 ·have hi':i<n:=by have h:(i:Int)<(n:Int):=ag g1; omega
  rw[show n-i=(n-(i+1))+1 by omega] at hR;simp only[XZ] at hR;have hm:a*max 1 (l.length:Int)<=300*max 1 (l.length:Int):=fY ha3 (by omega);have hm0:0<=a*max 1 (l.length:Int):=Int.mul_nonneg ha (by omega);have hml:max 1 (l.length:Int)<=2^30:=by omega
  have hok:okI (a*max 1 (l.length:Int)):=by simp only[okI]; omega
  conv=>whnf
  refine .mk (by exact hok) ?_;conv=>whnf
  refine⟨fun g2=>?_,fun g2=>?_⟩
  ·rw[show decide ((300:Int)<a*max 1 (l.length:Int))=true from g2,bE] at hR;conv=>whnf
   exact ay.bool hR.symm
  ·rw[show decide ((300:Int)<a*max 1 (l.length:Int))=false from g2,ap] at hR;have:=aM (show decide ((300:Int)<a*max 1 (l.length:Int))=false from g2);conv=>whnf
   refine .mk (by show okI ((i:Int)+1); simp only[okI]; omega) ?_;conv=>whnf
   refine⟨(i+1,a*max 1 (l.length:Int)),⟨by show i+1<=n; omega,hR,hm0,by show a*max 1 (l.length:Int)<=300; omega⟩,by show n-(i+1)<n-i; omega,⟨⟨_,rfl,rfl⟩,⟨_,rfl,rfl⟩,trivial⟩,?_,rfl⟩;repeat' (first|exact trivial|exact⟨_,rfl,rfl⟩|constructor)
 ·have hi':i=n:=by have h: ¬ (i:Int)<(n:Int):=aM g1; omega
  rw[hi',eN] at hR;conv=>whnf
  exact ay.bool hR.symm
end Go.Proofs.YtdloaandiobgdaaGreatDoor
