/-
 The search of a family's configurations at one size: what it finds. Plain words, no condition.
-/
import Derived.Test.YtdloaandiobgdaaGreatDoorQg
import Derived.Test.YtdloaandiobgdaaGreatDoorLh
import Derived.Test.YtdloaandiobgdaaGreatDoorFa
import Derived.Test.YtdloaandiobgdaaGreatDoorBd
import Derived.Test.YtdloaandiobgdaaGreatDoorLg
import Derived.Test.YtdloaandiobgdaaGreatDoorQf
import Derived.Test.YtdloaandiobgdaaGreatDoorSc
import Derived.Test.YtdloaandiobgdaaGreatDoorGa
namespace Go.Proofs.YtdloaandiobgdaaGreatDoor
open Go.Ab Go.Proofs
set_option maxRecDepth 100000
def afU(n:Int):List V:=[.u8 (IntKind.u8.wrap n),.u8 (IntKind.u8.wrap (Qv n 8)),.u8 (IntKind.u8.wrap (Qv n 16))]
def Ar(l:List Int):List V:=.u8 (IntKind.u8.wrap l.length)::l.flatMap afU
def afV(c:mF):List V:=Ar c.shape++Ar c.states++Ar c.sent++Ar c.sF++Ar [c.correct,c.value]
def keyS(c:mF):Str:=(afV c).map V.byte
theorem aaQ(n:Int):(afU n).all V.CQ=true:=rfl
theorem D9(l:List Int):(Ar l).all V.CQ=true:=by
 unfold Ar;rw[eC,List.all_flatMap,bj.2 fun x _=>aaQ x]; rfl
theorem aiJ(c:mF):(afV c).all V.CQ=true:=by
 unfold afV;simp only[en,D9,eK]
def acX(c:mF):mF:=⟨c.shape,DZ c.states,c.correct,c.sent,c.sF,c.value⟩
def yj(c:mF):Str:=keyS (acX c)
structure pV where
 c:mF
 fr:Int
 st:Nat×Nat×Nat
def Ba:Nat->List pV->List (Str×Int)
 |_,[]=>[]
 |i,x::r=>(yj x.c,(i:Int))::Ba (i+1) r
def QY(L:List pV)(s:Str):Bool:=L.any fun x=>s==yj x.c
theorem seen_app: ∀ {L M:List pV} {i:Nat},Ba i (L++M)=Ba i L++Ba (i+L.length) M:=by
 intro L;induction L with
 |nil=>intro M i; rfl
 |cons x L ih=>intro M i; simp only[cj,Ba,ih,bX]; rw[show i+1+L.length=i+(L.length+1) by omega]
theorem Tj{s:Str}: ∀ {L:List pV} {i:Nat},MV s (Ba i L)=none↔QY L s=false:=by
 intro L;induction L with
 |nil=>intro i; simp[Ba,MV,QY]
 |cons x L ih =>
  intro i;simp only[Ba,MV,QY,ez];cases s==yj x.c with
  |true=>simp
  |false=>simpa [QY] using ih
def JW(L:List pV)(o:pV):List pV:=bif QY L (yj o.c) then L else L++[o]
theorem aiK{L:List pV}{o:pV}:L.length<=(JW L o).length/\(JW L o).length<=L.length+1:=by
 unfold JW;cases QY L (yj o.c)<;>simp
def C9(L:List pV)(os:List pV):List pV:=os.foldl JW L
theorem Qe: ∀ {os L:List pV},L.length<=(C9 L os).length/\(C9 L os).length<=L.length+os.length:=by
 intro os;induction os with
 |nil=>intro L; exact⟨ba _,ba _⟩
 |cons o os ih =>
  intro L;have h1:=aiK (L:=L) (o:=o);have h2:=ih (L:=JW L o);simp only[C9,eB,bX] at h2 ⊢;omega
def FN:pV:=⟨⟨[],[],0,[],[],0⟩,0,(0,0,0)⟩
def afW(p:aF)(c:mF)(i:Nat)(t:Nat×Nat×Nat):pV:=⟨nxT p c t,i,t⟩
def yt(p:aF)(c:mF)(i:Nat)(L:List pV)(ts:List (Nat×Nat×Nat)):List pV:=C9 L (ts.map (afW p c i))
theorem afX{p:aF}{c:mF}{i:Nat}{L:List pV}{ts us:List (Nat×Nat×Nat)}:yt p c i L (ts++us)=yt p c i (yt p c i L ts) us:=by
 simp only[yt,C9,cP,eh]
theorem JX{p:aF}{c:mF}{i:Nat}{L:List pV}{ts:List (Nat×Nat×Nat)}:L.length<=(yt p c i L ts).length/\(yt p c i L ts).length<=L.length+ts.length:=by
 have:=Qe (os:=ts.map (afW p c i)) (L:=L);rw[bL] at this;exact this
def Eu(p:aF)(L:List pV)(i:Nat):List pV:=yt p (L.getD i FN).c i L (s1 p (L.getD i FN).c p.rules.length)
def iC(l:List Int):Nat->List (List Int)
 |0=>[[]]
 |n+1=>(iC l n).flatMap fun h=>l.map fun x=>h++[x]
theorem JY{l:List Int}{n:Nat}:(iC l n).length=l.length ^ n:=by
 induction n with
 |zero=>rfl
 |succ n ih =>
  have: ∀ m:List (List Int),(m.flatMap fun h=>l.map fun x=>h++[x]).length=m.length*l.length:=by
   intro m;induction m with
   |nil=>simp
   |cons h m ihm=>rw[ef,aL,ihm,bL,bX,eM]; omega
  rw[iC,this,ih,fk]
theorem Dc{l:List Int}: ∀ {n:Nat} {s:List Int},s∈iC l n↔s.length=n/\ ∀ x∈s,x∈l:=by
 intro n;induction n with
 |zero =>
  intro s;simp only[iC,br];constructor
  ·rintro rfl;exact⟨rfl,fun x h=>by cases h⟩
  ·rintro⟨h,_⟩;exact ai h
 |succ n ih =>
  intro s;simp only[iC,cX,ax];constructor
  ·rintro⟨h,h1,x,h2,rfl⟩;obtain⟨h3,h4⟩:=ih.1 h1;refine⟨by simp[h3],fun y hy=>?_⟩;rcases ci.1 hy with hy|hy
   ·exact h4 y hy
   ·rw[br] at hy; subst hy; exact h2
  ·rintro⟨h1,h2⟩;refine⟨s.dropLast,ih.2 ⟨by simp[h1],fun x hx=>h2 x (List.dropLast_subset s hx)⟩,s.getLast (by intro e; rw[e] at h1; cases h1),h2 _ (List.getLast_mem _),List.dropLast_concat_getLast _⟩
def Ad(n:Nat)(s:List Int):mF:=⟨[],s,n,[],[],0⟩
def Ew(n:Nat)(s:List Int):pV:=⟨Ad n s,-1,(0,0,1)⟩
def Xv(p:aF)(q:Prop')(n:Nat):List pV:=C9 [] ((iC (fE p q) n).map (Ew n))
def allM(p:aF):Nat->List pV->Nat->Option (List pV)
 |0,_,_=>none
 |f+1,L,i=>bif Nat.blt i L.length then(bif Nat.blt 4000 L.length then none else allM p f (Eu p L i) (i+1)) else(bif Nat.blt 4000 L.length then none else some L)
theorem aaR{p:aF}{L:List pV}{i:Nat}:L.length<=(Eu p L i).length:=JX.1
def Gv(p:aF)(L:List pV):Nat->Nat->List pV
 |_,0=>L
 |i,k+1=>Gv p (Eu p L i) (i+1) k
def ala(P:mF->Bool)(L:List pV):Nat->Nat->Option Nat
 |_,0=>none
 |i,k+1=>bif P (L.getD i FN).c then some i else ala P L (i+1) k
inductive Fnd where
 |no
 |yes (L:List pV) (i:Nat)
 |big
def Zh(p:aF)(P:mF->Bool):Nat->List pV->Nat->Fnd
 |0,_,_=>.big
 |f+1,L,a=>bif Nat.blt a L.length then(match ala P L a (L.length-a) with
   |some i=>.yes L i
   |none=>bif Nat.blt 4000 L.length then .big else Zh p P f (Gv p L a (L.length-a)) L.length) else .no
inductive Rch(p:aF)(q:Prop')(n:Nat):mF->Prop where
 |init {s:List Int}:s∈iC (fE p q) n->Rch p q n (Ad n s)
 |step {c:mF} {t:Nat×Nat×Nat}:Rch p q n c->t∈s1 p c p.rules.length->Rch p q n (nxT p c t)
def QZ(p:aF)(q:Prop')(n:Nat)(L:List pV):Prop:= ∀ o∈L,Rch p q n o.c
theorem Xw: ∀ {os L:List pV} {o:pV},o∈C9 L os->o∈L\/o∈os:=by
 intro os;induction os with
 |nil=>intro L o h; exact .inl h
 |cons x os ih =>
  intro L o h;rcases ih (L:=JW L x) (by simpa only[C9,eB] using h) with h|h
  ·unfold JW at h;cases hb:QY L (yj x.c) with
   |true=>rw[hb,bE] at h; exact .inl h
   |false =>
    rw[hb,ap] at h;rcases ci.1 h with h|h
    ·exact .inl h
    ·rw[br] at h; subst h; exact .inr (List.mem_cons_self ..)
  ·exact .inr (dE _ h)
theorem JZ{L:List pV}{i:Nat}(h:i<L.length):L.getD i FN∈L:=by
 rw[ab,bS h]; exact bh h
theorem aiL{p:aF}{q:Prop'}{n:Nat}:QZ p q n (Xv p q n):=by
 intro o h;rcases Xw h with h|h
 ·cases h
 ·obtain⟨s,h1,rfl⟩:=ax.1 h;exact .init h1
theorem afY{p:aF}{q:Prop'}{n i:Nat}{c:mF}{L:List pV}{ts:List (Nat×Nat×Nat)}(hL:QZ p q n L)(hc:Rch p q n c)(ht: ∀ t∈ts,t∈s1 p c p.rules.length):QZ p q n (yt p c i L ts):=by
 intro o h;rcases Xw h with h|h
 ·exact hL o h
 ·obtain⟨t,h1,rfl⟩:=ax.1 h;exact .step hc (ht t h1)
theorem aiM{p:aF}{q:Prop'}{n i:Nat}{L:List pV}(hL:QZ p q n L)(hi:i<L.length):QZ p q n (Eu p L i):=afY hL (hL _ (JZ hi)) fun _ h=>h
theorem aaS{p:aF}{q:Prop'}{n:Nat}: ∀ {k i:Nat} {L:List pV},QZ p q n L->i+k<=L.length->QZ p q n (Gv p L i k):=by
 intro k;induction k with
 |zero=>intro i L h _; exact h
 |succ k ih =>
  intro i L h hl;have:=aaR (p:=p) (L:=L) (i:=i);exact ih (aiM h (by omega)) (by omega)
theorem Zi{p:aF}{q:Prop'}(h:gW p q=0):jP (fE p q) p.states.length=0/\(fE p q).any (fun x=> !(Gp p.initial x))=false/\fE p q≠[]:=by
 have hv:=Dv (rJ h);unfold gW at h;obtain⟨_,h⟩:=bz nz h;obtain⟨_,h⟩:=bz (fun _=>by decide) h;obtain⟨_,h⟩:=bz (fun _=>by decide) h;obtain⟨_,h⟩:=bz (fun _=>by decide) h;obtain⟨h1,h⟩:=bz nz h;obtain⟨h2,h⟩:=bz (fun _=>by decide) h;unfold fE;cases h3:decide ((q.start.length:Int)>0) with
 |true =>
  refine⟨by simpa using h1,h2,fun e=>?_⟩;replace e:q.start=[]:=e;rw[e] at h3;exact absurd h3 (by decide)
 |false =>
  refine⟨hv.init,?_,hv.start⟩;show p.initial.any (fun x=> !(Gp p.initial x))=false;rw[cq];intro x hx
  have:Gp p.initial x=true:=cL.2 ⟨x,hx,by simp⟩
  rw[this]; decide
theorem Qg{p:aF}{q:Prop'}(h:gW p q=0):fE p q≠[]/\ ∀ x∈fE p q,0<=x/\x<p.states.length:=by
 obtain⟨h1,_,h3⟩:=Zi h;exact⟨h3,BN h1⟩
theorem alb{p:aF}{q:Prop'}{n:Nat}{s:List Int}(hq:gW p q=0)(h1:1<=n)(h8:n<=8)(hs:s∈iC (fE p q) n):vcN p n (Ad n s)=0:=by
 obtain⟨g1,g2⟩:=Dc.1 hs;have hst:=(Qg hq).2;have hw:Xo s ((p.states.length:Int)-1)=true:=by
  unfold Xo;rw[bj];intro x hx;have:=hst x (g2 x hx);unfold iq;simp only[aD,aq]; omega
 have hadm:P6 n=0:=by
  unfold P6 ak2 iq;rw[show(decide (1<=(n:Int))&&decide ((n:Int)<=1048576))=true by simp; omega,bE,cB (by omega)]; rfl
 unfold vcN;rw[hadm];have hc:Na p n (Ad n s)=true:=by
  simp only[Na,Ad,aD];refine⟨⟨⟨⟨⟨⟨⟨⟨⟨?_,hw⟩,?_⟩,?_⟩,?_⟩,?_⟩,?_⟩,?_⟩,?_⟩,?_⟩;all_goals first|rfl|(simp[g1]; done)|(exact cI (by show(0:Int)<max 1 _; omega))
 rw[hc]; rfl
theorem Ea{p:aF}{q:Prop'}{n:Nat}{c:mF}(h:Rch p q n c):c.states.length=n:=by
 induction h with
 |init hs=>exact(Dc.1 hs).1
 |step _ _ ih=>show(FM _ _ _ _).length=n; rw[Qd]; exact ih
theorem UR{p:aF}{q:Prop'}{n:Nat}{c:mF}(hq:gW p q=0)(hpl:tN p)(h1:1<=n)(h8:n<=8)(h:Rch p q n c):vcN p n c=0:=by
 induction h with
 |init hs=>exact alb hq h1 h8 hs
 |step hc ht ih =>
  have hl:=Ea hc;rw[<- hl] at ih;obtain⟨t1,t2,_,t4⟩:=afT.1 ht;have hv:=Dv (rJ hq);rename_i c t _;have hm:p.rules.getD t.1 default∈p.rules:=by rw[getD_some t1]; exact bh t1
  have:=aiI (o:=(t.2.2:Int)-1) ih (P8 hv hpl _ hm).f t2
  rw[show((BH (p.rules.getD t.1 default) c t.2.1 ((t.2.2:Int)-1)).states.length:Int)=n by
   rw[show(BH (p.rules.getD t.1 default) c t.2.1 ((t.2.2:Int)-1))=nxT p c t from rfl,Ea (.step hc ht)]] at this
  exact this
theorem afZ{c l:List Int}:aa9 c l=false↔ ∀ i,i<c.length->0<c.getD i 0->(i:Int)∈l:=by
 unfold aa9;rw[cq];constructor
 ·intro h i hi h0;have:=h i (cD.2 hi);rw[cI (show c.getD i 0>0 from h0),cV] at this;exact TA.1 (by simpa using this)
 ·intro h i hi;by_cases h0:c.getD i 0>0
  ·rw[cI h0,cV,TA.2 (h i (cD.1 hi) h0)]; decide
  ·rw[cB h0,fT]; exact aR
theorem af0{p:aF}{q:Prop'}{n:Nat}{s:List Int}{x:Elem}(hq:gW p q=0)(hs:s∈iC (fE p q) n)(hx:pO x (pU p (Ad n s))=true):BJ p q x=true:=by
 obtain⟨g1,g2⟩:=Dc.1 hs;have hst:=(Qg hq).2;obtain⟨v,d⟩:=x;obtain⟨h1,h2⟩:=FV.1 hx;unfold BJ;rw[aD];refine⟨?_,by rw[h1]; rfl⟩;rw[show aa9 d (fE p q)=false from afZ.2 fun i hi h0=>?_]; rfl;have hle:=jA h2 i;have hl:=(lM.1 h2).1;rw[show(kN p.states.length (Ad n s).states).length=p.states.length from oC] at hl;rw[show(Ad n s).states=s from rfl,A8 (fun y hy=>hst y (g2 y hy)) (by omega)] at hle
 have:0<s.count (i:Int):=by omega
 exact g2 _ (List.count_pos_iff.1 this)
theorem step_up{p:aF}{q:Prop'}{b:List Elem}{c:mF}{t:Nat×Nat×Nat}(hb:Ej p q b=true)(Vf:vcN p c.states.length c=0)(ht:t∈s1 p c p.rules.length)(hu:IK b (pU p (nxT p c t))=true):IK b (pU p c)=true:=by
 simp only[Ej,aD] at hb;obtain⟨⟨⟨⟨hc,_⟩,hm⟩,_⟩,hr⟩:=hb;have hck:fB p q=0:=by simpa using hc
 have hq:=rE hck;have hcov:=Rf hck;obtain⟨_,_,hv,hcl⟩:=Bg hck;obtain⟨hplain,hall⟩:=FW hcl;have hpl:=IY hplain;have hvf:=Dv hv;obtain⟨t1,t2,_,t4⟩:=afT.1 ht;obtain⟨_,_,he⟩:=anX t4;have hmem:p.rules.getD t.1 default∈p.rules:=by rw[getD_some t1]; exact bh t1
 have hRF:=(P8 hvf hpl _ hmem).f;obtain⟨n1,n2,hcb⟩:=Ti Vf;have hst:=Ac hcb;have amT:=aiG hst hRF t2 he;obtain⟨x,hx,hxe⟩:=cL.1 hu;have hxm:=bj.1 hm x hx;simp only[Au,aD] at hxm;have anY:uz p x=false:=by simpa using hxm.1
 have hFx:=NS hcov anY;have alc:Oa p=0:=by
  unfold Oa;rw[hv];show(bif !(kS p).cover&& !(kS p).monadic then(7:Int) else 0)=0;rw[hcl]; rfl
 have hFc:=ajM (aaP alc Vf);obtain⟨y,hy,hya⟩:=(adp hFx hFc hmem (hall _ hmem)).2 ⟨_,amT,hxe⟩;have Rh:=bj.1 hr t.1 (cD.2 t1);simp only[Hf,aD] at Rh;have hpx:=bj.1 Rh.2 x hx;simp only[Tv,aD] at hpx;rw[adk hcov hFx t1] at hpx;have h0:(vW p (p.rules.getD t.1 default) x).1=0:=by simpa using hpx.1
 have h2:=hpx.2;rw[adq h0] at h2;have h3:(bG (zk p (p.rules.getD t.1 default) x)).any (fun z=>pO z (pU p c))=true:=by
  rw[He]; exact cL.2 ⟨y,hy,hya⟩
 obtain⟨z,hz,hzc⟩:=cL.1 h3;exact Kr (bj.1 h2 z hz) hzc
theorem aiN{p:aF}{q:Prop'}{b:List Elem}{n:Nat}{c:mF}(hb:Ej p q b=true)(h1:1<=n)(h8:n<=8)(h:Rch p q n c):IK b (pU p c)=false:=by
 have hb':=hb;simp only[Ej,aD] at hb';obtain⟨⟨⟨⟨hc,_⟩,hm⟩,_⟩,hr⟩:=hb';have hck:fB p q=0:=by simpa using hc
 have hq:=rE hck;obtain⟨_,_,hv,hcl⟩:=Bg hck;have hpl:=IY (FW hcl).1;induction h with
 |init hs =>
  cases hu:IK b (pU p (Ad n _)) with
  |false=>rfl
  |true =>
   exfalso;obtain⟨x,hx,hxe⟩:=cL.1 hu;have hxm:=bj.1 hm x hx;simp only[Au,aD] at hxm;rw[af0 hq hs hxe] at hxm;exact absurd hxm.2 (by decide)
 |step hc' ht ih =>
  have Vf:=UR hq hpl h1 h8 hc';have hl:=Ea hc';rw[<- hl] at Vf;cases hu:IK b (pU p (nxT p _ _)) with
  |false=>rfl
  |true=>rw[step_up hb Vf ht hu] at ih; exact ih
def cap3(c:List Int):List Int:=c.map fun x=>min x 3
theorem Qh{c:List Int}(j:Nat):(cap3 c).getD j 0=min (c.getD j 0) 3:=by
 unfold cap3;simp only[ab,cM];cases c[j]? <;>rfl
theorem af2(c:List Int):jL (cap3 c) c=true:=pY (by simp[cap3]) fun j=>by rw[Qh]; omega
theorem aiO{c:List Int}(hc: ∀ j,0<=c.getD j 0): ∀ st:List Int,0<=wP st (cap3 c)/\(3<=wP st (cap3 c)\/wP st (cap3 c)=wP st c):=by
 intro st;induction st with
 |nil=>exact⟨fp _,.inr rfl⟩
 |cons x st ih =>
  have h1:=hc x.toNat;have h2:=Qh (c:=c) x.toNat;have e: ∀ d:List Int,wP (x::st) d=d.getD x.toNat 0+wP st d:=fun d=>by unfold wP; simp
  rw[e,e];omega
theorem aiP{q:Prop'}{n:Nat}{c:List Int}(hb:X7 n q)(hc: ∀ j,0<=c.getD j 0)(h:yA q c=true):yA q (cap3 c)=true:=by
 unfold yA at h ⊢;rw[bj] at h ⊢;intro k hk;have h1:=ag (h k hk);have h2:=hb.least k hk;have h3:=aiO hc k.states;exact cI (by omega)
theorem ald{p:aF}{q:Prop'}{e:Elem}(hck:fB p q=0)(hF:EC p e)(h:yA q e.counts=true):IK (mG p q) e=true:=by
 obtain⟨_,hbf,_,_⟩:=Bg hck;have hpos: ∀ j,0<=e.counts.getD j 0:=fun j=>(uG hF.nums j).1
 have hlen:=hF.len;have hcap:=aiP hbf hpos h;have hcl:(cap3 e.counts).length=p.states.length:=by simp[cap3,hlen]
 obtain⟨u,hu,hd⟩:=ZH hcl (fun x hx=>by
  obtain⟨i,hi,rfl⟩:=List.mem_iff_getElem.1 hx;have h1:=Qh (c:=e.counts) i;rw[getD_some hi] at h1;have:=hpos i
  omega)
 obtain⟨v1,v2⟩:=hF.val
 have hmem:(⟨e.value,cap3 e.counts⟩:Elem)∈yB q p.states.length (max 1 p.values.length) (4 ^ p.states.length) :=
  Jc.2 ⟨u,e.value.toNat,hu,by omega,by rw[hd]; exact hcap,by rw[hd]; congr 1; omega⟩
 have hany:(bG (yB q p.states.length (max 1 p.values.length) (4 ^ p.states.length))).any (fun z=>pO z e)=true:=by
  rw[He];refine cL.2 ⟨_,hmem,?_⟩;obtain⟨ev,ec⟩:=e;exact FV.2 ⟨rfl,af2 _⟩
 unfold IK mG;rw[show(fB p q !=0)=false by simp[hck],ap,<- bad_law];exact hany
theorem adt{p:aF}{q:Prop'}{b:List Elem}{n:Nat}{c:mF}(hb:Ej p q b=true)(h1:1<=n)(h8:n<=8)(h:Rch p q n c):yA q (kN p.states.length c.states)=false:=by
 have hlow:=aiN hb h1 h8 h;have hb':=hb;simp only[Ej,aD] at hb';obtain⟨⟨⟨⟨hc,_⟩,hm⟩,hbad⟩,hr⟩:=hb';have hck:fB p q=0:=by simpa using hc
 have hq:=rE hck;obtain⟨_,_,hv,hcl⟩:=Bg hck;have hpl:=IY (FW hcl).1;have Vf:=UR hq hpl h1 h8 h;rw[<- Ea h] at Vf;have alc:Oa p=0:=by
  unfold Oa;rw[hv];show(bif !(kS p).cover&& !(kS p).monadic then(7:Int) else 0)=0;rw[hcl]; rfl
 have hFc:=ajM (aaP alc Vf);cases hd:yA q (kN p.states.length c.states) with
 |false=>rfl
 |true =>
  obtain⟨y,hy,hyc⟩:=cL.1 (ald hck hFc hd);rw[Kr (bj.1 hbad y hy) hyc] at hlow;cases hlow
abbrev J3(j:Nat):OV:=.box 219 0 (.own j)
abbrev aaT:OV:=.box 219 0 (.row 0 true .nil)
abbrev anZ(l:List V):OV:=.row 5 0 .nil l
theorem Gm: ∀ {l:List V},l.all V.CQ=true->V.bn l=true:=by
 intro l;induction l with
 |nil=>intro _; rfl
 |cons v r ih =>
  intro h;simp only[eC,aD] at h;cases v<;>simp only[V.CQ] at h<;>try (cases h.1; done)
  exact ih h.2
theorem amU: ∀ {l:List V},l.all V.CQ=true->AB 0 l=true:=by
 intro l;induction l with
 |nil=>intro _; rfl
 |cons v r ih =>
  intro h;simp only[eC,aD] at h;cases v<;>simp only[V.CQ] at h<;>try (cases h.1; done)
  exact ih h.2
theorem amV{n:Nat}: ∀ {l:List V},l.all V.CQ=true->T.Em n (V.aS l)=true:=by
 intro l;induction l with
 |nil=>intro _; rfl
 |cons v r ih =>
  intro h;simp only[eC,aD] at h;cases v<;>simp only[V.CQ] at h<;>try (cases h.1; done)
  exact ih h.2
abbrev Ae(l:List V):OV:=.gen 5 0 l
theorem Df{l:List V}(h:l.all V.CQ=true)(nx:Nat):(Ae l).good nx=true:=by
 simp only[OV.good,amU h,amV h]; rfl
theorem NW{l:List V}(h:l.all V.CQ=true)(nx:Nat):((Ae l).good nx&&(Ae l).zn)=true:=by
 rw[Df h,cV]; exact Gm h
def FP(l:List Int)(i:Nat):List V:=.u8 (IntKind.u8.wrap l.length)::(l.take i).flatMap afU
theorem J4(l:List Int)(i:Nat):(FP l i).all V.CQ=true:=by
 unfold FP;rw[eC,List.all_flatMap,bj.2 fun x _=>aaQ x]; rfl
theorem LU{l:List Int}{i:Nat}(h:i<l.length):FP l (i+1)=FP l i++afU (l.getD i 0):=by
 unfold FP;rw[cQ,db]; simp[h]
theorem Qi{l:List Int}:FP l l.length=Ar l:=by unfold FP Ar; rw[bx]
theorem af4(n:Int):(afU n).length=3:=rfl
theorem Qj{l:List Int}{i:Nat}(h:i<=l.length):(FP l i).length=1+3*i:=by
 induction i with
 |zero=>rfl
 |succ i ih=>rw[LU (by omega),aL,ih (by omega),af4]; omega
theorem S.aiQ(b:List V)(l:List Int)(f:Bool)(hb:b.all V.CQ=true)(hbl:b.length<2^40)(hl:l.length<2^30):aP Tryz.prog 164 (V.aS [.row 0 f (.ints l),.ptr 0 0 0]) (Hz.aj [(0,some (J3 1)),(1,some (Ae b))]) 2 (fun t hp=>t=(V.dD []).aI/\hp=Hz.aj [(0,some (J3 2)),(2,some (Ae (b++Ar l)))]):=by
 have hall: ∀ i,(b++FP l i).all V.CQ=true:=fun i=>by rw[en,hb,J4]; rfl
 refine nT.of (nx:=2) (h0:=[(0,some (J3 1)),(1,some (Ae b))]) Bd.qU (by simp) ⟨_,_,rfl,rfl⟩ rfl (by simp only[tq,Df hb]; rfl) ?_;conv=>whnf
 refine .mk (by show(b.length+1)*1<=140737488355328/\b.length+1<=1152921504606846976; omega) ?_;conv=>whnf
 refine aG.vK 30 [1,11,12] (fun i:Nat=>[(13,.int i)]) (fun i=>[(0,J3 20),(20,Ae (b++FP l i))]) (fun i=>i<=l.length) (fun i=>l.length-i) 0 [0,7] rfl (by decide) (fun _=>rfl) (ao _) ?_ ?_ ?_
 ·exact(sR rfl)
 ·exact⟨BI rfl rfl rfl ⟨rfl,rfl⟩ (dB.of_eq rfl),okF rfl nofun rfl (NW (hall _) _) rfl ⟨rfl,rfl⟩ rfl,trivial⟩
 conv=>whnf
 refine⟨(sR rfl),rfl,?_⟩;rintro i hi;have hbn:=Qj hi;conv=>whnf
 refine⟨fun g1=>?_,fun g1=>?_⟩
 ·have hi':i<l.length:=by simpa using g1
  conv=>whnf
  repeat(refine VC.mk (by first|(omega)|(simp only[Rw.rng] at *; first|omega|(simp_all; done)|(simp_all; omega))) ?_; conv=>whnf)
  refine .mk (by show((b++FP l i).length+3)*1<=140737488355328/\(b++FP l i).length+3<=1152921504606846976; rw[aL,hbn]; omega) ?_;conv=>whnf
  refine .mk (by simp only[okI] at *; first|omega|(simp_all; done)|(simp_all; omega)) ?_;conv=>whnf
  refine⟨i+1,[0,44],by omega,by omega,(sR rfl),(sR rfl),BI rfl rfl rfl ⟨rfl,rfl⟩ (dB.of_eq rfl),okF rfl nofun rfl (NW (hall _) _) rfl ⟨rfl,rfl⟩ ?_,trivial⟩;rw[LU hi',<- bO]; rfl
 ·have hi':i=l.length:=by
   have: ¬ ((i:Int)<(l.length:Int)):=aM g1
   omega
  subst hi';conv=>whnf
  exact gq.boxed (c:=20) (o:=Ae (b++FP l l.length)) (o2:=Ae (b++Ar l)) rfl rfl (by decide) rfl (by decide) rfl (Gm (hall _)) (Df (hall _) _) rfl (by rw[Qi]) rfl ⟨rfl,rfl⟩
theorem S.af5(l:List Int)(f:Bool)(hl:l.length<2^30):aP Tryz.prog 164 (V.aS [.row 0 f (.ints l),.ptr 0 0 0]) (Hz.aj [(0,some aaT)]) 1 (fun t hp=>t=(V.dD []).aI/\hp=Hz.aj [(0,some (J3 1)),(1,some (Ae (Ar l)))]):=by
 refine nT.of (nx:=1) (h0:=[(0,some aaT)]) Bd.qU (by simp) ⟨_,_,rfl,rfl⟩ rfl rfl ?_;conv=>whnf
 refine .mk (by show(0+1)*1<=140737488355328/\0+1<=1152921504606846976; omega) ?_;conv=>whnf
 refine aG.vK 30 [1,11,12] (fun i:Nat=>[(13,.int i)]) (fun i=>[(0,J3 20),(20,Ae (FP l i))]) (fun i=>i<=l.length) (fun i=>l.length-i) 0 [0,6] rfl (by decide) (fun _=>rfl) (ao _) ?_ ?_ ?_
 ·exact(sR rfl)
 ·exact⟨BI rfl rfl rfl ⟨rfl,rfl⟩ (dB.of_eq rfl),okF rfl nofun rfl (NW (J4 _ _) _) rfl ⟨rfl,rfl⟩ rfl,trivial⟩
 conv=>whnf
 refine⟨(sR rfl),rfl,?_⟩;rintro i hi;have hbn:=Qj hi;conv=>whnf
 refine⟨fun g1=>?_,fun g1=>?_⟩
 ·have hi':i<l.length:=by simpa using g1
  conv=>whnf
  repeat(refine VC.mk (by first|(omega)|(simp only[Rw.rng] at *; first|omega|(simp_all; done)|(simp_all; omega))) ?_; conv=>whnf)
  refine .mk (by show((FP l i).length+3)*1<=140737488355328/\(FP l i).length+3<=1152921504606846976; rw[hbn]; omega) ?_;conv=>whnf
  refine .mk (by simp only[okI] at *; first|omega|(simp_all; done)|(simp_all; omega)) ?_;conv=>whnf
  refine⟨i+1,[0,44],by omega,by omega,(sR rfl),(sR rfl),BI rfl rfl rfl ⟨rfl,rfl⟩ (dB.of_eq rfl),okF rfl nofun rfl (NW (J4 _ _) _) rfl ⟨rfl,rfl⟩ ?_,trivial⟩;rw[LU hi']; rfl
 ·have hi':i=l.length:=by
   have: ¬ ((i:Int)<(l.length:Int)):=aM g1
   omega
  subst hi';conv=>whnf
  exact gq.boxed (c:=20) (o:=Ae (FP l l.length)) (o2:=Ae (Ar l)) rfl rfl (by decide) rfl (by decide) rfl (Gm (J4 _ _)) (Df (J4 _ _) _) rfl (by rw[Qi]) rfl ⟨rfl,rfl⟩
theorem ah.an0{l:List Int}{f:Bool}{h:Hz}{B n:Nat}{K:V->Hz->Prop}{KW:Nat->V->Hz->Prop}(hl:l.length<2^30)(hB:h.get B=some aaT)(hn:h.get n=none)
  (hK:K (.dD []) ((B,some (J3 n))::(n,some (Ae (Ar l)))::h)):ah Tryz.prog false none 164 [.row 0 f (.ints l),.ptr B 0 0] h n K KW:=by
 have hBn:B≠n:=by rintro rfl; rw[hB] at hn; cases hn
 refine ah.DY (ts:=[.row 0 f (.ints l),.ptr 0 0 0]) (pre:=[(0,some aaT)]) [B] (S.af5 l f hl) rfl rfl rfl rfl rfl ⟨⟨_,hB,rfl⟩,trivial⟩ hn (by simp[hBn]) ?_;rintro t hp ⟨rfl,rfl⟩;exact⟨.dD [],[some (J3 n),some (Ae (Ar l))],rfl,rfl,⟨rfl,dC some (ng (o:=Ae (Ar l)) (Gm (D9 l)) _).symm,trivial⟩,hK⟩
theorem ah.amW{b:List V}{l:List Int}{f:Bool}{h:Hz}{B j n:Nat}{K:V->Hz->Prop}{KW:Nat->V->Hz->Prop}{o:OV}(ho:o.au=(Ae (b++Ar l)).au)(hb:b.all V.CQ=true)(hbl:b.length<2^40)(hl:l.length<2^30)(hB:h.get B=some (J3 j))(hj:h.get j=some (Ae b))(hBj:B≠j)(hn:h.get n=none)
  (hK:K (.dD []) ((B,some (J3 n))::(j,none)::(n,some o)::h)):ah Tryz.prog false none 164 [.row 0 f (.ints l),.ptr B 0 0] h n K KW:=by
 have hBn:B≠n:=by rintro rfl; rw[hB] at hn; cases hn
 have hjn:j≠n:=by rintro rfl; rw[hj] at hn; cases hn
 have hall:(b++Ar l).all V.CQ=true:=by rw[en,hb,D9]; rfl
 refine ah.DY (ts:=[.row 0 f (.ints l),.ptr 0 0 0]) (pre:=[(0,some (J3 1)),(1,some (Ae b))]) [B,j] (S.aiQ b l f hb hbl hl) rfl rfl rfl (by simp only[tq,Df hb]; rfl) rfl ⟨⟨_,hB,rfl⟩,⟨_,hj,ng (o:=Ae b) (Gm hb) _⟩,trivial⟩ hn (by simp[hBj,hBn,hjn]) ?_;rintro t hp ⟨rfl,rfl⟩;refine⟨.dD [],[some (J3 n),none,some o],rfl,rfl,⟨rfl,rfl,?_,trivial⟩,hK⟩;exact dC some (ho.trans (ng (o:=Ae (b++Ar l)) (Gm hall) _).symm)
theorem ah.ale{b:List V}{l:List Int}{f:Bool}{h:Hz}{B j n:Nat}{K:V->Hz->Prop}{KW:Nat->V->Hz->Prop}(hb:b.all V.CQ=true)(hbl:b.length<2^40)(hl:l.length<2^30)(hB:h.get B=some (J3 j))(hj:h.get j=some (Ae b))(hBj:B≠j)(hn:h.get n=none)
  (hK:K (.dD []) ((B,some (J3 n))::(j,none)::(n,some (Ae (b++Ar l)))::h)):ah Tryz.prog false none 164 [.row 0 f (.ints l),.ptr B 0 0] h n K KW:=ah.amW rfl hb hbl hl hB hj hBj hn hK
theorem J5{l:List Int}(h:l.length<2^30):(Ar l).length<2^33:=by
 rw[<- Qi,Qj (ba _)]; omega
theorem S.uX(c:mF)(hc:D8 c):ak Tryz.prog 132 [tK c] (.str (keyS c)):=by
 have g1:=hc.shape; have g2:=hc.states; have g3:=hc.sent; have g4:=hc.sF;have l1:=J5 g1; have l2:=J5 g2; have l3:=J5 g3; have l4:=J5 g4;refine ak.of Bd.uX (by simp) rfl rfl ?_;conv=>whnf
 refine ah.an0 g1 rfl rfl ?_;conv=>whnf
 refine ah.ale (D9 _) (by omega) g2 rfl rfl (by decide) rfl ?_;conv=>whnf
 refine ah.ale (by simp only[en,D9]; rfl) (by simp only[aL]; omega) g3 rfl rfl (by decide) rfl ?_;conv=>whnf
 refine ah.ale (by simp only[en,D9]; rfl) (by simp only[aL]; omega) g4 rfl rfl (by decide) rfl ?_;conv=>whnf
 refine ah.amW (l:=[c.correct,c.value]) (o:=anZ (afV c)) rfl (by simp only[en,D9]; rfl) (by simp only[aL]; omega) (by simp) rfl rfl (by decide) rfl ?_;conv=>whnf
 refine VC.mk ⟨by unfold afV Ar; simp,aiJ c⟩ ?_;conv=>whnf
 exact ay.str rfl
theorem ah.aay{l:List Int}{h:Hz}{i n lo hi:Nat}{K:V->Hz->Prop}{KW:Nat->V->Hz->Prop}(ho:h.get i=some (lq l))(hne:l≠[])(h1:lo<=hi)(h2:hi<=l.length)(hl:l.length<2^40)
  (hK:K (.dD []) ((i,some (lq (sortV lo hi l)))::h)):ah Tryz.prog false none 165 [.rG i lo hi] h n K KW:=by
 refine ah.heap (post:=fun t h'=>t= .dD []/\h'=upd h.aj i (some ⟨3,0,(sortV lo hi l).map T.int⟩)) (aP.aay (n:=n) Tryz.layOrd (by exact Bd.kQ.cl) (by omega) (aK (o:=lq l) ho |>.trans ?_) hne h1 h2) ?_
 ·simp[OV.au,Rw.aS,V.aS]
 ·rintro t hp ⟨rfl,rfl⟩;refine⟨.dD [],_,rfl,?_,hK⟩;rw[bI];simp[OV.au,Rw.aS,V.aS]
theorem acY{l:List Int}:sortV 0 l.length l=DZ l:=by simp[sortV]
theorem Zj{l:List Int}:sortV l.length l.length l=l:=by simp[sortV,DZ]
theorem ay.an1{h:Hz}{j:Nat}{s l t f:List Int}{x v:Int}(q:h.get j=some (lq l)):ay (tK ⟨s,l,x,t,f,v⟩) (.agg [.row 0 false (.ints s),.own j,.int x,.row 0 false (.ints t),.row 0 false (.ints f),.int v]) h :=
 ⟨⟨aH _,zl trivial q,aH _,aH _,aH _,aH _,trivial⟩⟩
theorem S.kC(p:aF)(c:mF)(hp:p.topology=1)(hc:D8 c)(hn:c.correct=c.states.length)(h0:c.states≠[]):ak Tryz.prog 133 [.dat (.fM p),tK c] (tK (acX c)):=by
 have g2:=hc.states;have hnx:acX c=⟨c.shape,DZ c.states,(c.states.length:Int),c.sent,c.sF,c.value⟩:=by unfold acX; rw[hn]
 rw[hnx];refine ak.of Bd.kC (by simp) rfl rfl ?_;conv=>whnf
 refine ah.heap (BU.frame (S.G8 c hc) _ _) ?_;rintro t hp' ⟨rfl,rfl⟩;refine⟨UL c _,(_,some (lq c.states))::_,rfl,ZA,?_⟩;conv=>whnf
 refine Fork.mk (fun _=>?_) (fun q=>absurd (q.symm.trans (by rw[hp]; rfl)) aR);conv=>whnf
 refine .mk (by simp only[Rw.vT]; omega) ?_;conv=>whnf
 rw[hn];refine ah.aay (l:=c.states) (lo:=0) (hi:=c.states.length) rfl h0 (ao _) (ba _) (by omega) ?_;rw[acY];conv=>whnf
 refine .mk (by simp only[Rw.vT,uj]; omega) ?_;conv=>whnf
 refine ah.aay (l:=DZ c.states) (lo:=c.states.length) (hi:=(DZ c.states).length) rfl (fun e=>h0 (ai (by rw[<- uj,e]; rfl))) (by rw[uj]; exact ba _) (ba _) (by rw[uj]; omega) ?_;rw[show sortV c.states.length (DZ c.states).length (DZ c.states)=DZ c.states by rw[<- uj c.states]; exact Zj];conv=>whnf
 exact ay.an1 rfl
@[reducible] def amX(p:aF)(n:Nat)(m l:V):V:=.agg ((Dat.fM p).cells++[.int n,.int 0,.int 0,.bool false,m,l])
abbrev yu(p:aF)(n:Nat)(m l:V):OV:=.box 97 17 (amX p n m l)
@[reducible] def yw(o:pV):V:=.agg [.row 0 false (.ints o.c.shape),.row 0 false (.ints o.c.states),.int o.c.correct,.row 0 false (.ints o.c.sent),.row 0 false (.ints o.c.sF),.int o.c.value,.int o.fr,.int o.st.1,.int o.st.2.1,.int ((o.st.2.2:Int)-1)]
abbrev um(L:List pV):OV:=.gen 102 11 (L.map yw)
abbrev J6(L:List pV):OV:=.smap 94 (Ba 0 L)
theorem Dh: ∀ L:List pV,V.bn (L.map yw)=true:=by
 intro L;induction L with
 |nil=>rfl
 |cons o L ih=>simp only[bl,V.bn,aD]; exact⟨rfl,ih⟩
theorem aiR: ∀ L:List pV,AB 11 (L.map yw)=true:=by
 intro L;induction L with
 |nil=>rfl
 |cons o L ih=>simp only[bl,AB,aD]; exact⟨rfl,ih⟩
theorem aiS(n:Nat): ∀ L:List pV,T.Em n (V.aS (L.map yw))=true:=by
 intro L;induction L with
 |nil=>rfl
 |cons o L ih=>simp only[bl,V.aS,T.Em,aD]; exact⟨rfl,ih⟩
theorem vP(L:List pV)(nx:Nat):(um L).good nx=true:=by
 simp only[OV.good,aiR,aiS]; rfl
theorem jv(L:List pV)(nx:Nat):((um L).good nx&&(um L).zn)=true:=by
 rw[vP,cV]; exact Dh L
theorem gq.aaU{h0 h:Hz}{m:Nat}{post:T->Hp->Prop}{v:V}(objs:List (Nat×OV))(nw:List Nat)(hall:((List.range m).all fun i=>(h0.get i).isSome)=true)(ho:okR (gU objs nw) (m+1) m h objs nw)(hn:h0.get m=none)(hv:v.free=true)
  (hp:post v.aI (rD objs).aj):gq h0 m post v h:=by
 have hfr:=V.jS v hv;have hL:=Fj (Z:=fun i=> ¬ Gs (xF objs nw) i) ho;have hlt: ∀ i,i<m->(h0.aj i).isSome=true:=fun i hi=>by
  rw[bj] at hall;have:=hall i (cD.2 hi);simpa [Hz.aj] using this
 have hM: ∀ i,i<m+1->(h0.aj i).isSome=true\/i=m:=fun i hi=>by
  rcases eR i m with h|h
  ·exact .inl (hlt i h)
  ·exact .inr (by omega)
 have e:Ep (xF objs nw)=gU objs nw:=funext fun _=>CX
 refine⟨fun i=> ¬ Gs (xF objs nw) i,gU objs nw,v.aI,(rD objs).aj,hp,by rw[AZ hfr]; exact aH _,fun i ob hi=>?_,fun i j hi hj q=>?_,T.aW (fun _ h=>h.elim) _ (eY hfr),fun i ob hi=>?_,fun i hi hs=>?_⟩
 ·rw[<- qO ho] at hi;obtain⟨h1,h2⟩:=sQ hi;obtain⟨_,_,_,h4,l',h5,h6⟩:=wF hL h1;rw[e] at h2 h5;exact⟨_,h5,fun hz=>hz h2,rfl,rfl,h6,uS h4⟩
 ·rw[<- qO ho] at hi hj;obtain⟨oi,hi⟩:=am.1 hi;obtain⟨oj,hj⟩:=am.1 hj;exact NI hL hi hj (by rw[e]; exact q)
 ·rw[<- qO ho] at hi;obtain⟨h1,_,h3,_⟩:=wF hL (sQ hi).1;exact⟨hM i h1,T.aA hM _ h3⟩
 ·rw[<- qO ho] at hs;obtain⟨ob,hob⟩:=am.1 hs;obtain⟨_,h2,_⟩:=wF hL (sQ hob).1;rw[e] at h2;refine h2 ?_;obtain⟨h1,_⟩:=wF hL (sQ hob).1;rcases eR i m with hlt'|hge
  ·exact hlt'
  ·have h1:i<m+1:=h1;have e1:i=m:=by omega
   rw[e1] at hi; simp[Hz.aj,hn] at hi
abbrev Iy(p:aF)(n:Nat)(L:List pV):Hz:=[(0,some (yu p n (.own 1) (.own 2))),(1,some (J6 L)),(2,some (um L))]
structure Di(c:mF):Prop where
 sm:D8 c
 cor:c.correct=c.states.length
 ne:c.states≠[]
theorem S.Xx(p:aF)(n:Nat)(L:List pV)(c:mF)(hp:p.topology=1)(hc:Di c):aP Tryz.prog 102 (V.aS [.ptr 0 0 0,tK c]) (Iy p n L).aj 3 (fun t hp=>t=(V.str (yj c)).aI/\hp=(Iy p n L).aj):=by
 have hk:D8 (acX c):=⟨hc.sm.shape,by show(DZ c.states).length<_; rw[uj]; exact hc.sm.states,hc.sm.sent,hc.sm.sF⟩
 refine nT.of (nx:=3) (h0:=Iy p n L) Bd.lV (by simp) ⟨_,_,rfl,rfl⟩ rfl (by simp only[tq,vP]; rfl) ?_;conv=>whnf
 refine Fork.mk (fun q=>absurd (q.symm.trans (rfl)).symm aR) (fun _=>?_);conv=>whnf
 refine ah.pure (S.kC p c hp hc.sm hc.cor hc.ne) rfl ?_;conv=>whnf
 refine ah.pure (S.uX (acX c) hk) rfl ?_;conv=>whnf
 exact gq.aaU [(0,yu p n (.own 1) (.own 2)),(1,J6 L),(2,um L)] [0,1,2] rfl ⟨BI rfl rfl rfl ⟨rfl,rfl⟩ (dB.of_eq rfl),iD rfl rfl,okF rfl (fun _=>rfl) rfl (jv _ _) rfl ⟨rfl,rfl⟩ rfl,trivial⟩ rfl rfl ⟨rfl,rfl⟩
theorem yx(L:List pV)(ρ:Nat->Nat):(um L).au.ren ρ=(um L).au:=ng (o:=um L) (Dh L) ρ
theorem Bc(L:List pV)(ρ:Nat->Nat):(J6 L).au.ren ρ=(J6 L).au:=ng (o:=J6 L) rfl ρ
theorem Af(p:aF)(n:Nat)(L:List pV):tq 3 (Iy p n L)=true:=by simp only[tq,vP]; rfl
theorem ah.ajG{p:aF}{n:Nat}{L:List pV}{c:mF}{h:Hz}{B m l k:Nat}{K:V->Hz->Prop}{KW:Nat->V->Hz->Prop}(hp:p.topology=1)(hc:Di c)(hB:h.get B=some (yu p n (.own m) (.own l)))(hm:h.get m=some (J6 L))(hl:h.get l=some (um L))(hk:h.get k=none)(nd:[B,m,l,k].Nodup)
  (hK:K (.str (yj c)) ((B,some (yu p n (.own m) (.own l)))::(m,some (J6 L))::(l,some (um L))::(k,none)::h)):ah Tryz.prog false none 102 [.ptr B 0 0,tK c] h k K KW:=by
 refine ah.DY (ts:=[.ptr 0 0 0,tK c]) (pre:=Iy p n L) [B,m,l] (S.Xx p n L c hp hc) rfl rfl rfl (Af p n L) rfl ⟨⟨_,hB,rfl⟩,⟨_,hm,Bc L _⟩,⟨_,hl,yx L _⟩,trivial⟩ hk nd ?_;rintro t q ⟨rfl,rfl⟩;exact⟨.str (yj c),[some (yu p n (.own m) (.own l)),some (J6 L),some (um L),none],rfl,rfl,⟨rfl,dC some (Bc L _).symm,dC some (yx L _).symm,rfl,trivial⟩,hK⟩
def aiT(L:List pV)(s:Str):Int:=(MV s (Ba 0 L)).getD 0
theorem S.af6(p:aF)(n:Nat)(L:List pV)(o:pV)(hp:p.topology=1)(hc:Di o.c)(hh:QY L (yj o.c)=true):aP Tryz.prog 70 (V.aS [.ptr 0 0 0,yw o]) (Iy p n L).aj 3 (fun t hp=>t=(V.int (aiT L (yj o.c))).aI/\hp=(Iy p n L).aj):=by
 refine nT.of (nx:=3) (h0:=Iy p n L) Bd.jI (by simp) ⟨_,_,rfl,rfl⟩ rfl (Af p n L) ?_;conv=>whnf
 refine ah.ajG (L:=L) (c:=o.c) hp hc rfl rfl rfl rfl (by decide) ?_;conv=>whnf
 refine ahG.mk (fun j hj=>?_) (fun hn=>?_)
 ·have hx:aiT L (yj o.c)=j:=by unfold aiT; rw[hj]; rfl
  conv=>whnf
  refine Fork.mk (fun q=>absurd (q.symm.trans (rfl)).symm aR) (fun _=>?_);conv=>whnf
  rw[hx];exact gq.aaU [(0,yu p n (.own 1) (.own 2)),(1,J6 L),(2,um L)] [0,1,2] rfl ⟨BI rfl rfl rfl ⟨rfl,rfl⟩ (dB.of_eq rfl),iD rfl rfl,okF rfl (fun _=>rfl) rfl (jv _ _) rfl ⟨rfl,rfl⟩ rfl,trivial⟩ rfl rfl ⟨rfl,rfl⟩
 ·rw[Tj.1 hn] at hh; cases hh
theorem acZ(L:List pV)(o:pV):Ba 0 L++[(yj o.c,(L.length:Int))]=Ba 0 (L++[o]):=by
 rw[seen_app,fS]; rfl
theorem S.af7(p:aF)(n:Nat)(L:List pV)(o:pV)(hp:p.topology=1)(hc:Di o.c)(hl:L.length<2^30)(hh:QY L (yj o.c)=false):aP Tryz.prog 70 (V.aS [.ptr 0 0 0,yw o]) (Iy p n L).aj 3 (fun t hp=>t=(V.int L.length).aI/\hp=Hz.aj [(0,some (yu p n (.own 1) (.own 3))),(1,some (J6 (L++[o]))),(3,some (um (L++[o])))]):=by
 refine nT.of (nx:=3) (h0:=Iy p n L) Bd.jI (by simp) ⟨_,_,rfl,rfl⟩ rfl (Af p n L) ?_;conv=>whnf
 refine ah.ajG (L:=L) (c:=o.c) hp hc rfl rfl rfl rfl (by decide) ?_;conv=>whnf
 refine ahG.mk (fun j hj=>?_) (fun hn=>?_)
 ·rw[Tj.2 hh] at hj; cases hj
 ·conv=>whnf
  refine Fork.mk (fun _=>?_) (fun q=>absurd (q.symm.trans (rfl)) aR);conv=>whnf
  refine .mk (by omega) ?_;conv=>whnf
  refine .mk (by show((L.map yw).length+1)*144<=140737488355328/\(L.map yw).length+1<=1152921504606846976; rw[bL]; omega) ?_;conv=>whnf
  rw[show(List.map yw L).length=L.length from bL ..];refine gq.aaU [(0,yu p n (.own 1) (.own 3)),(1,J6 (L++[o])),(3,um (L++[o]))] [0,1,43] rfl ⟨BI rfl rfl rfl ⟨rfl,rfl⟩ (dB.of_eq rfl),okF rfl (fun _=>rfl) rfl rfl rfl ⟨rfl,rfl⟩ ?_,okF rfl nofun rfl (jv _ _) rfl ⟨rfl,rfl⟩ ?_,trivial⟩ rfl rfl ⟨rfl,rfl⟩
  ·show(Ba 0 (L++[o])).map Ii=(Ba 0 L++[(yj o.c,(L.length:Int))]).map Ii;rw[acZ]
  ·show V.aS ((L++[o]).map yw)=V.aS (L.map yw++[yw o]);rw[cP]; rfl
theorem af8{α:Type}{l:List α}{i:Nat}{d:α}(h:i<l.length):l.getD i d∈l:=by
 rw[ab,bS h]; exact bh h
def Q5(l:List Int)(i a:Nat):List (List Int):=((iC l i).take a).flatMap fun h=>l.map fun x=>h++[x]
def Nc(l:List Int)(i a b:Nat):List (List Int):=Q5 l i a++(l.take b).map fun x=>(iC l i).getD a []++[x]
theorem ac0{l:List Int}{i a:Nat}(ha:a<(iC l i).length):Q5 l i (a+1)=Nc l i a l.length:=by
 unfold Q5 Nc;have ht:(iC l i).take (a+1)=(iC l i).take a++[(iC l i).getD a []]:=by rw[cQ]; simp[ha]
 rw[ht,db,bx]; simp[Q5]
theorem af9{l:List Int}{i:Nat}:Q5 l i (iC l i).length=iC l (i+1):=by
 unfold Q5; rw[bx]; rfl
theorem ac1{l:List Int}{i a b:Nat}(hb:b<l.length):Nc l i a (b+1)=Nc l i a b++[(iC l i).getD a []++[l.getD b 0]]:=by
 unfold Nc;have ht:l.take (b+1)=l.take b++[l.getD b 0]:=by rw[cQ]; simp[hb]
 rw[ht,cP,<- bO]; rfl
theorem aga{l:List Int}{i a:Nat}(ha:a<=(iC l i).length):(Q5 l i a).length=a*l.length:=by
 unfold Q5
 have: ∀ m:List (List Int),(m.flatMap fun h=>l.map fun x=>h++[x]).length=m.length*l.length:=by
  intro m;induction m with
  |nil=>simp
  |cons h m ihm=>rw[ef,aL,ihm,bL,bX,eM]; omega
 rw[this,bR,em ha]
theorem agb{l:List Int}{i a b:Nat}(ha:a<=(iC l i).length)(hb:b<=l.length):(Nc l i a b).length=a*l.length+b:=by
 unfold Nc; rw[aL,aga ha,bL,bR,em hb]
theorem agc:dB [T.sl 0 false []] [T.sl 0 true []]:=by
 intro Z h; simp[T.dY,T.sub]
theorem Xy{l:List Int}{n i:Nat}(h:i<n):(List.replicate n l).getD i []=l:=by
 rw[ab]; simp[h]
theorem aiU{k n i:Nat}(hk:1<=k)(hi:i<=n)(h:k ^ n<=4000):k ^ i<=4000:=di (fy hk hi) h
set_option maxHeartbeats 1000000 in
theorem S.nJ(l:List Int)(n:Nat)(f:Bool)(h0:l≠[])(hn:n<=8)(hcap:l.length ^ n<=4000)(hl4:l.length<=4000):ak Tryz.prog 101 [.row 0 f (.eF (List.replicate n l))] (.row 0 false (.eF (iC l n))):=by
 have h01:1<=l.length:=fg.2 h0;have hnl:(List.replicate n l).length=n:=List.length_replicate;refine ak.of Bd.nJ (by simp) rfl rfl ?_;conv=>whnf
 refine aG.vK 1 [13,14] (fun i:Nat=>[(15,.int i),(3,.own 0)]) (fun i=>[(0,wQ (iC l i))]) (fun i=>i<=n) (fun i=>n-i) 0 [2] rfl (by decide) (fun _=>rfl) (ao _) ?_ ?_ ?_
 ·exact(sR rfl)
 ·exact⟨BI rfl rfl rfl ⟨rfl,rfl⟩ agc,trivial⟩
 conv=>whnf
 refine⟨(sR rfl),rfl,?_⟩;rintro i hi;have hpl:(iC l i).length<=4000:=by rw[JY]; exact aiU h01 hi hcap
 conv=>whnf
 refine⟨fun h1=>?_,fun h1=>?_⟩
 ·have hi':i<n:=by rw[hnl] at h1; have:=ag h1; omega
  conv=>whnf
  refine .mk (by simp only[Rw.rng,hnl]; omega) ?_;conv=>whnf
  rw[Xy (show((i:Int)).toNat<n by rw[bN]; exact hi')];refine aG.nil 6 24 0 (by rfl) rfl rfl rfl ?_;refine aG.vK 2 [5,13,14,15,19,20] (fun a:Nat=>[(21,.int a),(6,.own 1)]) (fun a=>[(0,wQ (iC l i)),(1,wQ (Q5 l i a))]) (fun a=>a<=(iC l i).length) (fun a=>(iC l i).length-a) 0 [0,9] rfl (by decide) (fun _=>rfl) (ao _) ?_ ?_ ?_
  ·exact(sR rfl)
  ·exact⟨iD rfl rfl,iD rfl rfl,trivial⟩
  conv=>whnf
  refine⟨(sR rfl),rfl,?_⟩;rintro a ha;conv=>whnf
  refine⟨fun h2=>?_,fun h2=>?_⟩
  ·have ha':a<(iC l i).length:=by simpa using h2
   have hcl:((iC l i).getD a []).length=i:=(Dc.1 (af8 ha')).1;conv=>whnf
   repeat(refine VC.mk (by simp only[Rw.rng] at *; first|omega|(simp_all; done)|(simp_all; omega)) ?_; conv=>whnf)
   refine aG.ZG 2 [5,8,13,14,15,19,20,21,25,26] (fun b:Nat=>[(27,.int b),(6,.own 1)]) (fun b=>[(0,wQ (iC l i)),(1,wQ (Nc l i a b))]) (fun b=>b<=l.length) (fun b=>l.length-b) 0 [0,1] [(0,some (wQ (iC l i))),(1,some (wQ (Q5 l i a)))] rfl (by decide) (fun _=>rfl) (ao _) ?_ ?_ ?_ ?_
   ·exact(sR rfl)
   ·exact⟨fun _=>False,jR (Z:=fun _=>False) rfl (fun q=>q),jR (Z:=fun _=>False) rfl (fun q=>q),trivial⟩
   ·exact⟨iD rfl rfl,okF rfl nofun rfl rfl rfl ⟨rfl,rfl⟩ (by simp[Nc]),trivial⟩
   conv=>whnf
   refine⟨(sR rfl),rfl,?_⟩;rintro b hb;have hB:=agb (gn ha') hb;have hB2:a*l.length+b<=4000*4000+4000:=by
    have:=ek (show a<=4000 by omega) hl4;omega
   conv=>whnf
   refine⟨fun h4=>?_,fun h4=>?_⟩
   ·have hb':b<l.length:=by simpa using h4
    conv=>whnf
    repeat(refine VC.mk (by first|(simp only[Rw.rng,bN]; omega)|(simp only[Rw.vT]; omega)) ?_; conv=>whnf)
    rw[show decide (((((iC l i).getD (a:Int).toNat []).length:Int))=(((iC l i).getD (a:Int).toNat []).length:Int))=true from cI rfl];conv=>whnf
    refine aeJ.one ⟨.inr (Nat.zero_lt_succ _),?_⟩ ?_
    ·show(Rw.len (Rw.take _ _)+1)*8<=140737488355328/\Rw.len (Rw.take _ _)+1<=1152921504606846976;rw[Rw.aez]; simp only[Rw.len,bN]; omega
    conv=>whnf
    repeat(refine VC.mk (by first|(show((Nc l i a b).length+(0+1))*24<=140737488355328/\(Nc l i a b).length+(0+1)<=1152921504606846976; omega)|(simp only[okI] at *; first|omega|(simp_all; done)|(simp_all; omega))) ?_; conv=>whnf)
    refine⟨[(0,some (wQ (iC l i))),(17,some (wQ (Nc l i a b++[((iC l i).getD a []).take ((((iC l i).getD a []).length:Int).toNat)++[l.getD b 0]])))],b+1,[0,17],⟨fun i=>i=15,jR (Z:=fun i=>i=15) (i:=0) rfl (by decide),abj (Z:=fun i=>i=15) (i:=17) (j:=15) rfl rfl (by decide) rfl rfl,trivial⟩,by omega,by omega,(sR rfl),(sR rfl),iD rfl rfl,okF rfl nofun rfl rfl rfl ⟨rfl,rfl⟩ ?_,trivial⟩;rw[ac1 hb',bN,bx]
   ·have hb':b=l.length:=by
     have: ¬ ((b:Int)<(l.length:Int)):=aM h4
     omega
    subst hb';rw[<- ac0 ha'];conv=>whnf
    refine .mk (by simp only[okI] at *; first|omega|(simp_all; done)|(simp_all; omega)) ?_;conv=>whnf
    refine⟨a+1,[0,1],by omega,by omega,(sR rfl),(sR rfl),iD rfl rfl,iD rfl rfl,trivial⟩
  ·have ha':a=(iC l i).length:=by
    have: ¬ ((a:Int)<((iC l i).length:Int)):=aM h2
    omega
   subst ha';rw[af9];conv=>whnf
   refine .mk (by simp only[okI] at *; first|omega|(simp_all; done)|(simp_all; omega)) ?_;conv=>whnf
   refine⟨i+1,[1],by omega,by omega,(sR rfl),(sR rfl),iD rfl rfl,trivial⟩
 ·have hi':i=n:=by
   rw[hnl] at h1
   have: ¬ ((i:Int)<(n:Int)):=aM h1
   omega
  subst hi';conv=>whnf
  exact ay.alD rfl
end Go.Proofs.YtdloaandiobgdaaGreatDoor
