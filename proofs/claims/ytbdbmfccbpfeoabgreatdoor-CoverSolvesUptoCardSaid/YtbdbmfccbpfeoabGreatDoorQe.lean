/-
 Ways to share, cut: the reference. No condition.
-/
import Derived.Test.YtbdbmfccbpfeoabGreatDoorQd
namespace Go.Proofs.YtbdbmfccbpfeoabGreatDoor
open Go.Ab Go.Proofs
set_option maxRecDepth 100000
theorem aag{α:Type}{m:Nat}{o a b:List α}(h:m<=(qK m o a).length):qK m o (a++b)=qK m o a:=by
 unfold qK at h ⊢;rw[bE] at h;rw[<- ax,dm (by omega)]
theorem UR{α:Type}{m:Nat}{o a:List α}:(qK m o a).length<=m:=by
 unfold qK; rw[bE]; omega
theorem acR{α:Type}{m:Nat}{o:List α}(h:o.length<=m):qK m o []=o:=by
 unfold qK; rw[cN,bB h]
def Il(c:List Int)(x:Int)(r:List Int)(n i:Nat):List (List Int):=(List.range i).flatMap fun k:Nat=>BQ (aS c x k) r (n-k)
theorem P7{c:List Int}{x:Int}{r:List Int}{n i:Nat}:Il c x r n (i+1)=Il c x r n i++BQ (aS c x i) r (n-i):=by
 unfold Il;rw[ck,cv]; simp
theorem aah{c:List Int}{x:Int}{r:List Int}{n i j:Nat}(h:i<=j): ∃ b,Il c x r n j=Il c x r n i++b:=by
 obtain⟨k,rfl⟩:=Nat.exists_eq_add_of_le h;induction k with
 |zero=>exact⟨[],by simp⟩
 |succ k ih =>
  obtain⟨b,hb⟩:=ih (by omega);rw[<- gP,P7,hb,ax];exact⟨_,rfl⟩
theorem agU{h:Hz}{i:Nat}{c:List Int}{Z:Nat->Prop}(hz:Z i)(q:h.get i=some (je c)):T.sub Z h.ay (V.row 0 false (.ints c)).aH (V.own i).aH:=BA hz q
theorem aai{Z:Nat->Prop}{h:Hz}{j:Nat}{L:List (List Int)}{c:List Int}(hz:Z j)(q:h.get j=some (je c)):T.dF Z h.ay (fG (L++[c])).au.l (OV.row 24 0 (.bI L) [.own j]).au.l:=by
 have e1:(fG (L++[c])).au.l=L.map Go.Ab.ints++[Go.Ab.ints c]:=by simp[OV.au,Rw.aU,V.aU]
 have e2:(OV.row 24 0 (.bI L) [.own j]).au.l=L.map Go.Ab.ints++[T.own j]:=by simp[OV.au,Rw.aU,V.aU,V.aH]
 rw[e1,e2];exact yO (dK _) ⟨BA hz q,trivial⟩
theorem aaj{c:List Int}{N:Nat}(h: ∀ j,0<=c.getD j 0/\c.getD j 0+(N:Int)*2097152<=2^40)(k:Nat)(x:Int)(i:Nat){n:Nat}(hn:n<=2097152)(hi:i<=n)(hk:N=k+1)(j:Nat):0<=(aS c x i).getD j 0/\(aS c x i).getD j 0+(k:Int)*2097152<=2^40:=by
 have hj:=h j;have hx:=h x.toNat;subst hk;unfold aS;rw[aR,List.getElem?_set];rw[aR] at hj;split
 ·split
  ·simp only[eA]; omega
  ·simp only[Option.getD_none]; omega
 ·omega
set_option maxHeartbeats 2000000 in
theorem S.shared: ∀ (ps:List Int) (L:List (List Int)) (c:List Int) (n m:Nat) (f g:Bool),ps≠[]->qY c.length ps->(∀ j,0<=c.getD j 0/\c.getD j 0+ps.length*2097152<=2^40)->ps.length<2^18->n<=2097152->c.length<2^20->L.length<=m->m<=2^20 ->
  aP Tryz.prog 158 (V.aU [.own 0,.row 0 f (.ints c),.row 0 g (.ints ps),.int n,.int m]) (Hz.ay [(0,some (fG L))]) 1 (fun t hp=>(m<=L.length/\t= .own 0/\hp=Hz.ay [(0,some (fG L))])\/(L.length<m/\t= .own 1/\hp=Hz.ay [(1,some (fG (qK m L (BQ c ps n))))])):=by
 intro ps;induction ps with
 |nil=>intro L c n m f g h; exact absurd rfl h
 |cons x r ih =>
  intro L c n m f g _ hp hc hpl hn hcl hL hm;by_cases hfull:m<=L.length
  ·refine oJ.of (h0:=[(0,some (fG L))]) (nx:=1) Bd.Bo (by simp) ⟨_,_,.inl ⟨hfull,rfl,rfl⟩⟩ rfl rfl ?_;refine Fork.mk (fun _=>?_) (fun q=>absurd (q.symm.trans (cJ (by omega))) aq);exact iT.one (c:=0) (j:=0) (o:=fG L) (t:=.own 0) rfl rfl rfl (fun _=>rfl) (.inl rfl) rfl (.eq rfl) (.inl ⟨hfull,rfl,rfl⟩)
  have hlt:L.length<m:=by omega
  have hx:=hp x (by simp);have hcx:=hc x.toNat;refine oJ.of (h0:=[(0,some (fG L))]) (nx:=1) Bd.Bo (by simp) ⟨_,_,.inr ⟨hlt,rfl,rfl⟩⟩ rfl rfl ?_;rw[bL] at hcx hpl;refine Fork.mk (fun q=>absurd (q.symm.trans (cF (by omega))).symm aq) (fun _=>?_);conv=>whnf
  cases r with
  |nil =>
   have hS:qK m L (BQ c [x] n)=L++[aS c x n]:=by
    unfold qK;simp only[BQ];rw[bB (by rw[aM]; simp; omega)]
   refine Fork.mk (fun _=>?_) (fun q=>absurd (q.symm.trans (rfl)) aq);repeat(refine VC.mk (by first|(simp only[jy,jK,Rw.len]; omega)|(simp only[okI,Rw.rng] at *; first|omega|(simp_all; done)|(simp_all; omega))) ?_)
   refine .mk (by first|(simp only[Rw.rng]; omega)|(simp only[okI]; omega)|(simp only[jy,jK,Rw.len]; omega)|(show(L.length+(0+1))*24<=140737488355328/\L.length+(0+1)<=1152921504606846976; omega)) ?_;exact iT.aiI (c:=1) (j:=26) (o:=fG (L++[aS c x n])) (o':=OV.row 24 0 (.bI L) [.own 11]) rfl rfl rfl (aai (Z:=fun i=>i≠26) (by decide) rfl) rfl rfl nofun (.inr rfl) (.inr ⟨hlt,rfl,by rw[hS]⟩)
  |cons y r =>
   refine Fork.mk (fun q=>absurd (q.symm.trans (bq.2 (by simp only[bL]; omega))).symm aq) (fun _=>?_);refine aA.objs 6 [1,2,3,4] (fun i:Nat=>[(12,.int i),(0,.own 5)]) (fun i=>[(5,fG (qK m L (Il c x (y::r) n i)))]) (fun i=>i<=n+1) (fun i=>n+1-i) 0 [0] rfl (by decide) (fun _=>rfl) (ab _) ?_ ?_ ?_
   ·exact(sR rfl)
   ·exact⟨⟨rfl,nofun,rfl,rfl,rfl,_,rfl,rfl,rfl,dJ.of_eq (by rw[show Il c x (y::r) n 0=[] from rfl,acR hL])⟩,trivial⟩
   refine⟨(sR rfl),rfl,?_⟩;rintro i hi;have hcu:(qK m L (Il c x (y::r) n i)).length<=m:=UR;repeat(refine VC.mk (by first|exact id|exact fun h=>⟨h,h⟩) ?_)
   refine⟨fun h1=>?_,fun h1=>?_⟩
   ·rw[aD,ag,ag] at h1;obtain⟨h1,h2⟩:=h1;repeat(refine VC.mk (by first|(first|(simp only[Rw.rng]; omega)|(simp only[okI]; omega)|(simp only[Rw.qM,bL]; omega))|(simp only[jy,jK,Rw.len]; omega)|(simp only[okI,Rw.rng] at *; first|omega|(simp_all; done)|(simp_all; omega))) ?_)
    rw[show((n:Int)-(i:Int))=((n-i:Nat):Int) by omega];have hcc:=aaj hc (y::r).length x i hn (by omega) (by simp);refine ah.aiH (args':=[.own 5,.row 0 false (.ints (aS c x i)),.row 0 g (.ints (y::r)),.int (n-i:Nat),.int m]) (h2:=[(5,some (fG (qK m L (Il c x (y::r) n i))))]) (fun j=>j≠5) ⟨dM (Z:=fun j=>j≠5) (i:=5) rfl (fun q=>q rfl),trivial⟩ ⟨aC _,agU (i:=17) (by decide) rfl,aC _,aC _,aC _,trivial⟩ ?_;refine ah.KY (i:=5) (ts:=[.own 0,.row 0 false (.ints (aS c x i)),.row 0 g (.ints (y::r)),.int (n-i:Nat),.int m]) (ih (qK m L (Il c x (y::r) n i)) (aS c x i) (n-i) m false g (by simp) (by rw[zA]; exact fun q hq=>hp q (.tail _ hq)) hcc (by omega) (by omega) (by rw[zA]; exact hcl) (by omega) hm) rfl rfl rfl rfl rfl rfl ?_;rintro t hp' (⟨g1,rfl,rfl⟩|⟨g1,rfl,rfl⟩)
    ·omega
    refine .inr ⟨.own 37,_,rfl,rfl,rfl,?_⟩;rw[Ji,<- P7];refine .mk (by first|(simp only[okI]; omega)|omega) ?_;exact⟨i+1,[37],by omega,by omega,(sR rfl),(sR rfl),dA rfl rfl,trivial⟩
   ·have hS:qK m L (Il c x (y::r) n i)=qK m L (BQ c (x::y::r) n):=by
     by_cases h2:i=n+1
     ·subst h2; rfl
     ·have h3:m<=(qK m L (Il c x (y::r) n i)).length:=by
       rcases db (qK m L (Il c x (y::r) n i)).length m with h4|h4
       ·rw[cC,am,am] at h1;omega
       ·exact h4
      obtain⟨b,hb⟩:=aah (c:=c) (x:=x) (r:=y::r) (n:=n) (i:=i) (j:=n+1) hi;show _=qK m L (Il c x (y::r) n (n+1));rw[hb,<- Ji];unfold qK at h3 ⊢;rw[dm h3,List.take_take,Nat.min_self]
    rw[hS];exact iT.one (c:=1) (j:=5) (o:=fG (qK m L (BQ c (x::y::r) n))) (t:=.own 1) rfl rfl rfl nofun (.inr rfl) rfl (.eq rfl) (.inr ⟨hlt,rfl,rfl⟩)
def JZ(m:Nat)(O:List (List Int))(fr:List Int)(n i:Nat):List (List Int):=qK m [] ((O.take i).flatMap fun c=>BQ c fr n)
theorem aak{m:Nat}{O:List (List Int)}{fr:List Int}{n i:Nat}(hi:i<O.length):qK m (JZ m O fr n i) (BQ (O.getD i []) fr n)=JZ m O fr n (i+1):=by
 unfold JZ;rw[Ji,bj hi,cv,getD_some hi];simp
theorem aal{m:Nat}{O:List (List Int)}{fr:List Int}{n i:Nat}(h:m<=(JZ m O fr n i).length):JZ m O fr n i=qK m [] (O.flatMap fun c=>BQ c fr n):=by
 conv=>rhs; rw[<- bt i O,cv]
 exact(aag h).symm
set_option maxHeartbeats 2000000 in
theorem S.yx(O:List (List Int))(fr:List Int)(n m N:Nat)(f g:Bool)(hf:fr≠[])(hp:qY N fr)(hO: ∀ c∈O,c.length=N/\ ∀ j,0<=c.getD j 0/\c.getD j 0+fr.length*2097152<=2^40)(hfl:fr.length<2^18)(hn:n<=2097152)(hN:N<2^20)(hm:m<=2^20)(hOl:O.length<2^40) :
  aj Tryz.prog 149 [.row 0 f (.bI O),.row 0 g (.ints fr),.int n,.int m] (.row 0 false (.bI (qK m [] (O.flatMap fun c=>BQ c fr n)))):=by
 refine aj.of Bd.yx (by simp) rfl rfl ?_;refine aA.nil 9 24 0 (by rfl) rfl rfl rfl ?_;refine aA.objs 6 [0,1,2,3] (fun i:Nat=>[(10,.int i),(9,.own 5)]) (fun i=>[(5,fG (JZ m O fr n i))]) (fun i=>i<=O.length) (fun i=>O.length-i) 0 [3] rfl (by decide) (fun _=>rfl) (ab _) ?_ ?_ ?_
 ·exact(sR rfl)
 ·exact⟨⟨rfl,nofun,rfl,rfl,rfl,_,rfl,rfl,rfl,dJ.of_eq (by unfold JZ qK; simp; rfl)⟩,trivial⟩
 refine⟨(sR rfl),rfl,?_⟩;rintro i hi;have hcu:(JZ m O fr n i).length<=m:=UR;repeat(refine VC.mk (by first|exact id|exact fun h=>⟨h,h⟩) ?_)
 refine⟨fun h1=>?_,fun h1=>?_⟩
 ·rw[aD,ag,ag] at h1;obtain⟨h1,h2⟩:=h1;have hi':i<O.length:=by omega
  obtain⟨hc1,hc2⟩:=hO (O.getD i []) (by rw[getD_some hi']; exact be hi');refine .mk (by first|(simp only[Rw.rng]; omega)|(simp only[okI]; omega)) ?_;refine ah.KY (i:=5) (ts:=[.own 0,.row 0 false (.ints (O.getD i [])),.row 0 g (.ints fr),.int n,.int m]) (S.shared fr (JZ m O fr n i) (O.getD i []) n m false g hf (by rw[hc1]; exact hp) hc2 hfl hn (by omega) (by omega) hm) rfl rfl rfl rfl rfl rfl ?_;rintro t hp' (⟨g1,rfl,rfl⟩|⟨g1,rfl,rfl⟩)
  ·omega
  refine .inr ⟨.own 24,_,rfl,rfl,rfl,?_⟩;rw[aak hi'];refine .mk (by first|(simp only[okI]; omega)|omega) ?_;exact⟨i+1,[24],by omega,by omega,(sR rfl),(sR rfl),dA rfl rfl,trivial⟩
 ·have hS:JZ m O fr n i=qK m [] (O.flatMap fun c=>BQ c fr n):=by
   by_cases h2:i=O.length
   ·subst h2; unfold JZ; rw[bp]
   ·refine aal ?_;rcases db (JZ m O fr n i).length m with h4|h4
    ·rw[cC,am,am] at h1;omega
    ·exact h4
  rw[hS];exact ak.aaS rfl
def Io(f:Nat->Int)(n i:Nat):List Int:=(List.range i).map f++List.replicate (n-i) 0
theorem aam{f:Nat->Int}{n i:Nat}(h:i<=n):(Io f n i).length=n:=by simp[Io]; omega
theorem aan{f:Nat->Int}{n i:Nat}(h:i<n):(Io f n i).set i (f i)=Io f n (i+1):=by
 unfold Io;rw[show n-i=(n-(i+1))+1 by omega,em,gM _ _ (by simp),ck,cm];simp
theorem aao{f:Nat->Int}{n:Nat}:Io f n n=(List.range n).map f:=by simp[Io]
def Yp(r:Rule)(c:List Int)(x:Nat):Int:=max (DC r x) (c.getD x 0-JH r x+DC r x)
theorem aap{r:Rule}{c:List Int}:Io (Yp r c) c.length c.length=ku r c:=aao
theorem afI{a b:Int}:(if a=b then(1:Int) else 0)=bif a==b then 1 else 0:=by
 by_cases h:a=b
 ·rw[bk h,bv.2 h]; rfl
 ·rw[bX h,bq.2 h]; rfl
theorem acS{a b c d:Int}:(if a=b/\c=d then(1:Int) else 0)=bif a==b&&c==d then 1 else 0:=by
 by_cases h:a=b
 ·by_cases k:c=d
  ·rw[bk ⟨h,k⟩,bv.2 h,bv.2 k]; rfl
  ·rw[bX fun q=>k q.2,bv.2 h,bq.2 k]; rfl
 ·rw[bX fun q=>h q.1,bq.2 h]; rfl
theorem aaq{r:Rule}{x:Nat}:DC r x=(bif (x:Int)==r.fr then 1 else 0)+(bif r.kind==2&&(x:Int)==r.jo then 1 else 0):=by
 unfold DC; rw[afI,acS]
theorem aar{r:Rule}{x:Nat}:JH r x=(bif (x:Int)==r.to then 1 else 0)+(bif r.kind==2&&(x:Int)==r.Ap then 1 else 0):=by
 unfold JH; rw[afI,acS]
set_option maxHeartbeats 2000000 in
theorem S.Ae(r:Rule)(c:List Int)(f:Bool)(hc: ∀ j,0<=c.getD j 0/\c.getD j 0<=2^40)(hl:c.length<2^20)(hl0:0<c.length):aj Tryz.prog 124 [.dat (.rule r),.row 0 f (.ints c)] (.row 0 false (.ints (ku r c))):=by
 refine aj.of Bd.Ae (by simp) rfl rfl ?_;conv=>whnf
 rw[BZ hl0];refine .mk (by omega) ?_;refine aA.objs 2 [1,2] (fun q:Nat=>[(6,.int q),(5,.own 1)]) (fun q=>[(0,vT r),(1,je (Io (Yp r c) c.length q))]) (fun q=>q<=c.length) (fun q=>c.length-q) 0 [0,4] rfl (by decide) (fun _=>rfl) (ab _) ?_ ?_ ?_
 ·exact(sR rfl)
 ·exact⟨dA rfl rfl,dA rfl rfl,trivial⟩
 refine⟨(sR rfl),rfl,?_⟩;rintro q hq;have hfl:=aam (f:=Yp r c) hq;refine⟨fun h1=>?_,fun h1=>?_⟩
 ·have hq':q<c.length:=by simpa using h1
  have hcq:=hc q;have hb: ∀ l g:Int,l=DC r q->g=JH r q->max l (c.getD q 0-g+l)=Yp r c q:=by rintro _ _ rfl rfl; rfl
  refine⟨fun a1=>?_,fun a1=>?_⟩
  all_goals
   repeat(refine VC.mk (by first|(simp only[Rw.rng,ap]; omega)|(simp only[okI]; omega)|exact fun h=>h|exact fun h=>⟨h,h⟩|(intro h; simp[h]; done)) ?_)
   refine⟨fun a2=>?_,fun a2=>?_⟩
  all_goals
   repeat(refine VC.mk (by first|(simp only[Rw.rng,ap]; omega)|(simp only[okI]; omega)|exact fun h=>h|exact fun h=>⟨h,h⟩|(intro h; simp[h]; done)) ?_)
   refine⟨fun a3=>?_,fun a3=>?_⟩
  all_goals
   repeat(refine VC.mk (by first|(simp only[Rw.rng,ap]; omega)|(simp only[okI]; omega)|exact fun h=>h|exact fun h=>⟨h,h⟩|(intro h; simp[h]; done)) ?_)
   refine⟨fun a4=>?_,fun a4=>?_⟩
  all_goals
   repeat(refine VC.mk (by first|(simp only[Rw.rng,ap]; omega)|(simp only[okI,ap]; omega)|exact fun h=>h|exact fun h=>⟨h,h⟩|(intro h; simp[h]; done)) ?_)
   refine⟨q+1,[0,1],hq',by omega,(sR rfl),(sR rfl),dA rfl rfl,⟨rfl,nofun,rfl,rfl,rfl,_,rfl,rfl,rfl,dJ.of_eq ?_⟩,trivial⟩;rw[<- aan hq',<- hb _ _ (by rw[aaq,a1,a3]) (by rw[aar,a2,a4])];rfl
 ·have hq':q=c.length:=by
   have: ¬ q<c.length:=by simpa using h1
   omega
  rw[hq',aap];exact ak.aaL rfl
theorem Yq{h:Hz}{j:Nat}{Z:Nat->Prop}{o:OV}{l:List (List Int)}(hz:Z j)(q:h.get j=some o)(e:o.au=(fG l).au):T.sub Z h.ay (V.row 0 false (.bI l)).aH (V.own j).aH:=by
 show T.sub Z h.ay (.sl 0 false (l.map Go.Ab.ints)) (.own j);simp only[T.sub];refine⟨trivial,hz,OB l,by decide,24,?_⟩;have:=aO q; rw[e] at this; simpa [OV.au,Rw.aU,V.aU] using this
theorem ak.agV{h:Hz}{j:Nat}{o:OV}{l:List (List Int)}(q:h.get j=some o)(e:o.au=(fG l).au):ak (.row 0 false (.bI l)) (.own j) h:=⟨Yq trivial q e⟩
theorem aas{r:Rule}{c:List Int}(ha:r.all=[])(hc: ∀ i,0<=c.getD i 0)(hx:qY c.length r.ex):qZ r c=(((r.ex.length:Int)==0)||Jz c r.ex):=by
 have h1:BX r.all c c.length=false:=by
  unfold BX;rw[ha,co];intro j _; simp
 have h2:=found_eq hc hx;unfold qZ;rw[h1,f9,cw,<- eL (xg r.ex c c.length),h2];cases r.ex with
 |nil=>rfl
 |cons x l =>
  have h3:(((x::l).length:Int)==0)=false:=bq.2 (by simp only[bL]; omega);have h4:decide (0<((x::l).length:Int))=true:=cJ (by simp only[bL]; omega);rw[h3,h4]; simp
theorem UU{c:List Int}{i:Int}(h:i.toNat<c.length):Ol (aS c i 1) i=c:=by
 unfold Ol aS;have e:(c.set i.toNat (c.getD i.toNat 0+1)).getD i.toNat 0=c.getD i.toNat 0+1:=by rw[getD_some (by simpa using h),gO]
 rw[e,List.set_set,show c.getD i.toNat 0+1-1=c[i.toNat] by rw[getD_some h]; omega,gL]
set_option maxHeartbeats 2000000 in
theorem S.Af(r:Rule)(c:List Int)(f:Bool)(h0:Oj c)(hp:oU c.length r)(hk:r.kind=1)(ha:r.all=[])(hxl:r.ex.length<=100)(hcl:c.length<2^20):aj Tryz.prog 123 [.dat (.rule r),.row 0 f (.ints c)] (.row 0 false (.bI (cntF r c))):=by
 have hpos: ∀ i,0<=c.getD i 0:=fun i=>(jH h0 i).1
 have hb:=FC hp hpos (by omega);refine aj.of Bd.Af (by simp) rfl rfl ?_;have hBl:(ku r c).length=c.length:=DF;have hB1:Ol (ku r c) r.fr=cO c r.to:=by rw[hb,UU (by rw[dP]; have:=hp.src; omega)]
 have hBv:=jH h0 r.fr.toNat;have hsr:=hp.src;have hal:=aas (c:=cO c r.to) ha (Dz hpos) (by rw[dP]; exact hp.exs);have hB2: ∀ j,0<=(ku r c).getD j 0/\(ku r c).getD j 0<=1048577:=fun j=>by
  rw[hb]
  have hd: ∀ j,0<=(cO c r.to).getD j 0/\(cO c r.to).getD j 0<=1048576:=fun j=>⟨Dz hpos j,by
   have:=jH h0 j;have:=jH h0 r.to.toNat;unfold cO;rw[aR,List.getElem?_set];rw[aR] at *;split
   ·split
    ·simp only[eA]; omega
    ·simp only[Option.getD_none]; omega
   ·omega⟩
  exact Ia (M:=1) (B:=1048576) hd (by decide) j
 have hB3:=hB2 r.fr.toNat;refine ah.pure (S.Ae r c f (fun j=>by have:=jH h0 j; omega) hcl (by omega)) rfl ?_;repeat(refine VC.mk (by first|(first|(simp only[Rw.rng]; omega)|(simp only[okI]; omega))|exact fun h=>h|exact fun h=>⟨h,h⟩|(simp only[jy,jK,Rw.len]; omega)) ?_)
 refine ah.afq (fun _=>S.BU (Ol (ku r c) r.fr) r.ex false false (by rw[hB1,dP]; omega) (by omega) (by rw[hB1,dP]; exact hp.exs)) (fun _=>And.intro (BA trivial rfl) (And.intro (aC _) trivial)) rfl rfl ?_;refine .mk (by cases ((r.ex.length:Int)==0)<;>simp) ?_;refine⟨fun h2=>?_,fun h2=>?_⟩
 ·replace h2:(((r.ex.length:Int)==0)||Jz (Ol (ku r c) r.fr) r.ex)=true:=h2;rw[hB1,<- hal] at h2;have hres:cntF r c=[ku r c]:=by unfold cntF; rw[hk,h2]; rfl
  rw[hres];exact ak.agV rfl rfl
 ·replace h2:(((r.ex.length:Int)==0)||Jz (Ol (ku r c) r.fr) r.ex)=false:=h2;rw[hB1,<- hal] at h2;have hres:cntF r c=r.ex.map fun x=>aS (ku r c) x 1:=by unfold cntF; rw[hk,h2]; rfl
  rw[hres];refine aA.nil 7 24 0 (by rfl) rfl rfl rfl ?_;refine aA.Ld 2 [2,5] (fun i:Nat=>[(8,.int i),(7,.own 1)]) (fun i=>[(0,vT r),(1,fG (DJ r (ku r c) i))]) (fun i=>i<=r.ex.length) (fun i=>r.ex.length-i) 0 [0,30] [(0,some (vT r)),(30,some (fG []))] rfl (by decide) (fun _=>rfl) (ab _) ?_ ⟨fun _=>False,dM (Z:=fun _=>False) (i:=0) (o:=vT r) rfl (fun q=>q),⟨_,rfl,(fun q=>q),rfl,rfl,dK _,rfl,rfl⟩,trivial⟩ ?_ ?_
  ·exact(sR rfl)
  ·exact⟨FY rfl rfl,FY rfl rfl,trivial⟩
  refine⟨(sR rfl),rfl,?_⟩;rintro i hi;have hw:=Np (r:=r) (c:=ku r c) hi;refine⟨fun h3=>?_,fun h3=>?_⟩
  ·have hi':i<r.ex.length:=by simpa using h3
   have hst:=PL (r:=r) (c:=ku r c) hi';have hpl:=hp.exs (r.ex.getD i 0) (by rw[getD_some hi']; exact be hi');have hv:=hB2 (r.ex.getD i 0).toNat;repeat(refine VC.mk (by first|(first|(simp only[Rw.rng,ap]; omega)|(simp only[okI,ap]; omega)|(show((DJ r (ku r c) i).length+(0+1))*24<=140737488355328/\(DJ r (ku r c) i).length+(0+1)<=1152921504606846976; omega))|(simp only[jy,jK,Rw.len]; omega)) ?_)
   refine⟨[(0,some (vT r)),(25,some (fG (DJ r (ku r c) i++[aS (ku r c) (r.ex.getD i 0) 1])))],i+1,[0,25],⟨fun i=>i=9,dM (Z:=fun i=>i=9) (i:=0) (o:=vT r) rfl (by decide),DY (Z:=fun i=>i=9) (i:=25) (j:=9) rfl rfl (by decide) rfl rfl,trivial⟩,by omega,by omega,(sR rfl),(sR rfl),FY rfl rfl,okF rfl nofun rfl rfl rfl ⟨rfl,rfl⟩ (by rw[hst]),trivial⟩
  ·have hi':i=r.ex.length:=by have:=aL h3; omega
   have hall:DJ r (ku r c) r.ex.length=r.ex.map fun x=>aS (ku r c) x 1:=by unfold DJ; rw[bp]
   rw[hi',hall];exact ak.aaS rfl
theorem ae4{k:Nat}: ∀ {l:List V},(∀ v∈l,v.kd=some k)->Gp k l=true:=by
 intro l;induction l with
 |nil=>intro _; rfl
 |cons v r ih =>
  intro h;have h1:=h v (by simp);have h2:=ih fun u hu=>h u (dy _ hu)
  simp only[Gp,h1,h2];simp
theorem ae5{n:Nat}{l:List T}(h: ∀ t∈l,T.lt n t=true):T.OE n l=true:=by
 induction l with
 |nil=>rfl
 |cons t r ih=>simp only[T.OE,h t (by simp),ih fun u hu=>h u (dy _ hu),eZ]
theorem getD_none{α:Type}{l:List α}{i:Nat}{d:α}(h:l.length<=i):l.getD i d=d:=by
 simp[List.getD_eq_getElem?_getD,List.getElem?_eq_none h]
theorem acT{α:Type}{f:Nat->α}{n i:Nat}{d:α}(h:i<n):((List.range n).map f).getD i d=f i:=by
 simp[h]
theorem UW{α:Type}{l l':List α}(d:α)(h:l.length=l'.length)(H: ∀ i,i<l.length->l.getD i d=l'.getD i d):l=l':=by
 apply de h;intro i h1 h2;have:=H i h1;rw[getD_some h1,getD_some h2] at this;exact this
theorem acU{ty nx:Nat}{l:List V}(h1: ∀ v∈l,v.kd=some 0)(h2: ∀ v∈l,T.lt nx v.aH=true):(OV.gen ty 0 l).good nx=true:=by
 simp only[OV.good,ae4 h1,aD,cw];refine⟨ae5 fun t ht=>?_,rfl⟩;rw[fH,av] at ht;obtain⟨v,hv,rfl⟩:=ht;exact h2 v hv
theorem acV{n:Nat}(h:0<n):(bif isZero (.int n) then some Rw.nil else aaH (n:Int).toNat .nil)=none:=by
 cases n with
 |zero=>omega
 |succ n=>rfl
def fO:List Int->Option OV
 |[]=>none
 |x::r=>some (je (x::r))
abbrev fI(R:List (List Int)):List (Option OV):=R.map fO
def Yr(B:Nat)(R:List (List Int))(j:Nat):V:=match R.getD j [] with
 |[]=>EL .nil
 |_::_=>.inn (B+j)
def outW(B:Nat)(R:List (List Int)):List V:=(List.range R.length).map (Yr B R)
abbrev ae6(B:Nat)(R:List (List Int)):OV:=.gen 24 0 (outW B R)
theorem nR{B:Nat}{R:List (List Int)}:(outW B R).length=R.length:=by simp[outW]
theorem Ag{B j:Nat}{R:List (List Int)}(h:j<R.length):(outW B R)[j]? =some (Yr B R j):=by
 unfold outW; rw[cE,fY h]; rfl
theorem rY{B j:Nat}{R:List (List Int)}:(R.getD j []=[]/\Yr B R j=EL .nil)\/(R.getD j []≠[]/\Yr B R j= .inn (B+j)):=by
 unfold Yr;cases R.getD j [] with
 |nil=>exact .inl ⟨rfl,rfl⟩
 |cons x r=>exact .inr ⟨(by simp),rfl⟩
theorem Jr{B nx:Nat}{R:List (List Int)}(h:B+R.length<=nx):(ae6 B R).good nx=true:=by
 refine acU (fun v hv=>?_) fun v hv=>?_
 ·obtain⟨j,hj,rfl⟩:=av.1 hv;rcases rY (B:=B) (j:=j) (R:=R) with ⟨_,e⟩|⟨_,e⟩<;>rw[e]<;>rfl
 ·obtain⟨j,hj,rfl⟩:=av.1 hv;have:=cL.1 hj;rcases rY (B:=B) (j:=j) (R:=R) with ⟨_,e⟩|⟨_,e⟩<;>rw[e]
  ·rfl
  ·show Nat.blt (B+j) nx=true;exact cW.mpr (by omega)
theorem UY{B i N:Nat}{R:List (List Int)}{c:List Int}{f:Nat->Nat}(hi:i<R.length)(hc:c≠[]):dJ (T.bK (lX B (fun j=>if j=i then N else B+j) f) (ae6 B (R.set i c)).au.l) (OV.gen 24 0 ((outW B R).set i (.own N))).au.l:=by
 refine dJ.of_eq ?_;show T.bK _ (V.aU (outW B (R.set i c)))=V.aU ((outW B R).set i (.own N));rw[zX,fH,fH,cT];have hl:(outW B (R.set i c)).length=R.length:=by rw[nR,cx]
 apply de
 ·simp[hl,nR]
 ·intro j h1 h2;have hj:j<R.length:=by simpa [hl] using h1
  have e1:(outW B (R.set i c))[j]'(by rw[hl]; exact hj)=Yr B (R.set i c) j:=by
   have:=Ag (B:=B) (R:=R.set i c) (j:=j) (by rw[cx]; exact hj);rw[bN (by rw[hl]; exact hj),bR] at this;exact this
  simp only[fL,Function.comp,e1];by_cases hji:j=i
  ·subst hji;have e2:((outW B R).set j (V.own N))[j]'(by rw[cx,nR]; exact hj)=V.own N:=gO ..;rw[e2];have e3:(R.set j c).getD j []=c:=by rw[getD_some (by simpa using hi),gO]
   rcases rY (B:=B) (j:=j) (R:=R.set j c) with ⟨q,_⟩|⟨_,e⟩
   ·rw[e3] at q; exact absurd q hc
   ·rw[e];show T.own (lX B _ f (B+j))=T.own N;rw[tZ,bk rfl]
  ·have e2:((outW B R).set i (V.own N))[j]'(by rw[cx,nR]; exact hj)=Yr B R j:=by
    rw[List.getElem_set_ne (Ne.symm hji)];have:=Ag (B:=B) (R:=R) (j:=j) hj;rw[bN (by rw[nR]; exact hj),bR] at this;exact this
   rw[e2];have e3:(R.set i c).getD j []=R.getD j []:=by rw[aR,cq (Ne.symm hji),<- aR]
   have e4:Yr B (R.set i c) j=Yr B R j:=by unfold Yr; rw[e3]
   rw[e4];rcases rY (B:=B) (j:=j) (R:=R) with ⟨_,e⟩|⟨_,e⟩<;>rw[e]
   ·rfl
   ·show T.own (lX B _ f (B+j))=T.own (B+j);rw[tZ,bX hji]
theorem Yt{R:List (List Int)}{nx:Nat}: ∀ o,some o∈fI R->o.good nx=true/\o.DX=true:=by
 intro o h;obtain⟨r,_,e⟩:=av.1 h;cases r with
 |nil=>cases e
 |cons x r=>cases e; exact⟨rfl,rfl⟩
theorem FT{R:List (List Int)}:(fI R).length=R.length:=bc _
theorem Xa{R:List (List Int)}{j:Nat}(h:R.getD j []≠[]):(fI R)[j]? =some (some (je (R.getD j []))):=by
 have hj:j<R.length:=by
  rcases db j R.length with q|q
  ·exact q
  ·exact absurd (getD_none q) h
 rw[cE,bN hj];rw[getD_some hj] at h ⊢;cases hr:R[j] with
 |nil=>exact absurd hr h
 |cons x r=>rfl
theorem acW{R:List (List Int)}{i:Nat}{c:List Int}: ∀ j o,j≠i->(fI (R.set i c))[j]? =some (some o)->(fI R)[j]? =some (some o):=by
 intro j o hj q;rw[cE,cq (Ne.symm hj)] at q;rw[cE]; exact q
theorem afJ{R:List (List Int)}{i:Nat}{c:List Int}{o:OV}(hi:i<R.length)(hc:c≠[])(q:(fI (R.set i c))[i]? =some (some o)):o=je c:=by
 have e:(R.set i c).getD i []=c:=by rw[getD_some (by simpa using hi),gO]
 rw[Xa (by rw[e]; exact hc),e] at q;cases q; rfl
theorem aat{Z:Nat->Prop}{h:Hz}{i B:Nat}{R:List (List Int)}(hi:h.get i=some (ae6 B R))(hB: ¬ Z i)(hR: ∀ j,R.getD j []≠[]->Z (B+j)/\h.get (B+j)=some (je (R.getD j []))) :
  ∃ o',h.get i=some o'/\ ¬ Z i/\o'.au.ty=(fG R).au.ty/\o'.au.k=(fG R).au.k/\T.dF Z h.ay (fG R).au.l o'.au.l/\(fG R).au.l.map T.kd=o'.au.l.map T.kd/\(fG R).au.l.map gG=o'.au.l.map gG:=by
 have hl:(OV.row 24 0 (.bI R) []).au.l=R.map Go.Ab.ints:=by simp[OV.au,Rw.aU,V.aU]
 have hel: ∀ j (hj:j<R.length),(outW B R)[j]'(by rw[nR]; exact hj)=Yr B R j:=fun j hj=>by
  have:=Ag (B:=B) (R:=R) (j:=j) hj;rw[bN (by rw[nR]; exact hj),bR] at this;exact this
 refine⟨_,hi,hB,rfl,rfl,?_,?_,?_⟩
 ·rw[hl];show T.dF _ _ _ (V.aU (outW B R));refine He (by rw[dW,nR,bc]) fun j t u h1 h2=>?_
  have hj:j<R.length:=by have:=(bi.1 h1).1; simpa using this
  rw[fH,cE,Ag hj] at h2;rw[cE,bN hj] at h1;cases h1; cases h2;have hRj:R.getD j []=R[j]:=getD_some hj;rcases rY (B:=B) (j:=j) (R:=R) with ⟨q,e⟩|⟨q,e⟩
  ·rw[e]; rw[hRj] at q; rw[q];show T.sub _ _ (.sl 0 false []) (.sl 0 true []);simp[T.sub]
  ·rw[e];have:=aO (hR j q).2;rw[hRj] at this;simp only[V.aH,T.sub];refine⟨trivial,(hR j q).1,?_,by decide,3,?_⟩
   ·rw[gq]; intro t ht; obtain⟨x,_,rfl⟩:=av.1 ht; rfl
   ·rw[this]; simp[OV.au,Rw.aU,V.aU]
 ·rw[hl];show _=List.map T.kd (V.aU (outW B R));rw[fH,cT,cT];apply de
  ·simp[nR]
  ·intro j h1 h2;have hj:j<R.length:=by simpa using h1
   simp only[fL,Function.comp,hel j hj];rcases rY (B:=B) (j:=j) (R:=R) with ⟨_,e⟩|⟨_,e⟩<;>rw[e]<;>rfl
 ·rw[hl];show _=List.map gG (V.aU (outW B R));rw[fH,cT,cT];apply de
  ·simp[nR]
  ·intro j h1 h2;have hj:j<R.length:=by simpa using h1
   simp only[fL,Function.comp,hel j hj];rcases rY (B:=B) (j:=j) (R:=R) with ⟨_,e⟩|⟨_,e⟩<;>rw[e]<;>rfl
theorem MS.fI{B:Nat}(C k:Nat){j:Nat}{R:List (List Int)}{h:Hz}{K:Rw->Hz->Prop}(e:h.drop k=iJ B (fI R))(ho:Dv B C (h.take k)=true)(hC:B+R.length<=C)(hj:R.getD j []≠[])
  (hK:K (.ints (R.getD j [])) (h.take k++iJ B ((fI R).set j none))):MS h (B+j) 3 0 K :=
 MS.fam C (show Ba (h.take k) _ h from by rw[Ba,<- e,bt]) ho (by rw[FT]; exact hC) (Xa hj) hK
theorem acX{B n:Nat}:outW B (List.replicate n [])=List.replicate n (EL .nil):=by
 apply de
 ·simp[nR]
 ·intro j h1 h2;have hj:j<n:=by simpa using h2
  have:=Ag (B:=B) (R:=List.replicate n []) (j:=j) (by simpa using hj);rw[bN h1,bR] at this;rw[this,List.getElem_replicate];unfold Yr;rw[getD_some (by simpa using hj),List.getElem_replicate]
theorem acY{n j:Nat}{o:OV}:(fI (List.replicate n []))[j]? ≠some (some o):=by
 intro q;rw[cE,bh] at q;obtain⟨c,h1,h2⟩:=q;have:=ce h1;rw[eN this] at h2;cases h2
def Eo(resp:List Int)(n i:Nat):List (List Int):=(List.range n).map fun t=>mD resp t i
theorem jk{resp:List Int}{n i:Nat}:(Eo resp n i).length=n:=by simp[Eo]
theorem Ep{resp:List Int}{n i t:Nat}(h:t<n):(Eo resp n i).getD t []=mD resp t i:=acT h
theorem NJ{resp:List Int}{n:Nat}:Eo resp n 0=List.replicate n []:=by
 refine UW [] (by rw[jk]; simp) fun t ht=>?_
 rw[jk] at ht;rw[Ep ht,getD_some (by simpa using ht),List.getElem_replicate]; rfl
theorem ae7{resp:List Int}{n i s:Nat}(hs:s<n)(h:resp.getD i 0=(s:Int)):Eo resp n (i+1)=(Eo resp n i).set s (mD resp s (i+1)):=by
 refine UW [] (by rw[jk,cx,jk]) fun t ht=>?_
 rw[jk] at ht;rw[Ep ht];by_cases e:t=s
 ·subst e;rw[getD_some (by rw[cx,jk]; exact ht),gO]
 ·rw[aR,cq (Ne.symm e),<- aR,Ep ht,yu,bq.2 (by rw[h]; omega)]; rfl
theorem aau{resp:List Int}{i s:Nat}(h:resp.getD i 0=(s:Int)):mD resp s (i+1)≠[]:=by
 rw[yu,bv.2 h]; simp
theorem P8{resp:List Int}{t:Nat}:JQ resp (t:Int)= !(((iC resp t).length:Int)==0):=by
 cases h:JQ resp (t:Int) with
 |true =>
  obtain⟨k,hk,he⟩:=eI (J4.1 h)
  have:(iC resp t)≠[]:=List.ne_nil_of_mem (wV.2 ⟨k,hk,by simp[hk,he],rfl⟩)
  have h2:=f5.2 this;rw[bq.2 (by omega)]; rfl
 |false =>
  have:iC resp t=[]:=by
   rw[List.eq_nil_iff_forall_not_mem];intro x hx;obtain⟨k,hk,he,_⟩:=wV.1 hx;have hm:JQ resp (t:Int)=true:=J4.2 (by rw[<- he,getD_some hk]; exact be hk);rw[h] at hm; cases hm
  rw[this]; rfl
def vU(n:Nat)(i:Int):List (List Int):=[(List.replicate n 0).set i.toNat 1]
theorem Yu{n:Nat}{i:Int}:vU n i=[aS (List.replicate n 0) i 1]:=by
 have e:(List.replicate n (0:Int)).getD i.toNat 0=0:=by
  rcases db i.toNat n with h|h
  ·rw[getD_some (by simpa using h),List.getElem_replicate]
  ·exact getD_none (by simpa using h)
 unfold vU aS;rw[e]; rfl
theorem acZ{resp need:List Int}{i:Int}(h0:Oj need)(hn:need.length=resp.length)(hl:resp.length<=6){t:Nat}(ht:t<=6)(htn:t<=need.length): ∀ c∈lF resp need (vU need.length i) t,c.length=need.length/\ ∀ j,0<=c.getD j 0/\c.getD j 0<=40000000:=by
 intro c hc;have e:lF resp need (vU need.length i) t=(lF resp need (nN need) t).map fun c=>aS c i 1:=by rw[Yu]; exact Yc (out:=nN need)
 rw[e] at hc;obtain⟨d,hd,rfl⟩:=av.1 hc;have hpos: ∀ i,0<=need.getD i 0:=fun i=>(jH h0 i).1
 refine⟨?_,fun j=>?_⟩
 ·rw[zA,Rf (b:=List.replicate need.length 0) (by simp[hn]) hn hpos htn d hd,hn]
 ·have hb:=Ia (i:=i) (d:=1) (M:=1) (B:=(t:Int)*6291456) (Rh h0 hl t d hd) (by decide) j;omega
theorem ae8{nx d ty k b x s:Nat}{y:X}{m:Fm}(h:m.get x=some (.inn (10000+s))):G7 nx ⟨some d,.app ty k b (.t x) y,none,false,[1000001],false,false⟩ m=true:=by
 have e:Nat.ble 10000 (10000+s)=true:=et.mpr (by omega);show(true&&((match Dn m (.t x) with|some v=>T.newer 10000 v.aH|none=>false)&&true))=true;rw[show Dn m (.t x)=some (.inn (10000+s)) from h];show(true&&(Nat.ble 10000 (10000+s)&&true))=true;rw[e]; rfl
abbrev ac0(r:Rule)(c:List Int)(R:List (List Int)):List (Nat×OV):=[(0,vT r),(4,je (cO c r.to)),(20,ae6 10000 R)]
set_option maxHeartbeats 2000000 in
theorem S.qW(r:Rule)(c:List Int)(f:Bool)(h0:Oj c)(hp:oU c.length r)(hk:r.kind=3)(hcl:c.length<=6):aj Tryz.prog 125 [.dat (.rule r),.row 0 f (.ints c)] (.row 0 false (.bI (DI r c))):=by
 have hpos: ∀ i,0<=c.getD i 0:=fun i=>(jH h0 i).1
 obtain⟨hrl,hrp⟩:=hp.rsp hk;have hds:=hp.dst;have hsr:=hp.src;have hcd:=jH h0 r.to.toNat;have hml:(cO c r.to).length=c.length:=dP;refine aj.of Bd.qW (by simp) rfl rfl ?_;repeat(refine VC.mk (by first|(first|(simp only[Rw.rng]; omega)|(simp only[okI]; omega))|(simp only[jy,jK,Rw.len]; omega)) ?_; conv=>whnf)
 have hn0:0<c.length:=by omega
 rw[acV hn0];refine .mk (by omega) ?_;refine aA.fam 20000 [1,2,5,6] (fun i:Nat=>[(7,.int i)]) (fun i=>yJ (ac0 r c (Eo r.response c.length i))++iJ 10000 (fI (Eo r.response c.length i))) (fun i=>i<=c.length) (fun i=>c.length-i) 0 (lX 10000 (fun j=>10000+j) (iQ (ac0 r c (Eo r.response c.length 0)) [0,4,20])) _ rfl (by decide) (fun _=>rfl) (ab _) (sR rfl) (.inl rfl) ?_ ?_
 ·refine jY.fam (g:=fun j=>10000+j) (ac0 r c (Eo r.response c.length 0)) [0,4,20] ?_ rfl (ab _) (by rw[FT,jk]; omega) (fun j o q=>absurd (by rw[NJ] at q; exact q) acY) (fun j _ o _ q=>absurd (by rw[NJ] at q; exact q) acY);refine⟨FY rfl rfl,okF rfl nofun rfl rfl rfl ⟨rfl,rfl⟩ (by unfold cO; rw[Int.max_comm]),okJ rfl (Jr (by rw[jk]; omega)) rfl ⟨rfl,rfl⟩ ?_,trivial⟩;rw[NJ];refine dJ.of_eq ?_;show T.bK _ (V.aU (outW 10000 (List.replicate c.length [])))=V.aU (List.replicate c.length (EL .nil));rw[acX,zX,fH,cT,fh,fh]; rfl
 refine⟨(sR rfl),rfl,?_⟩;rintro i hi;have hRl:(Eo r.response c.length i).length=c.length:=jk;have hwo:(outW 10000 (Eo r.response c.length i)).length=c.length:=by rw[nR,hRl]
 refine⟨fun h1=>?_,fun h1=>?_⟩
 ·have hi':i<c.length:=by simpa using h1
  have hq:=hrp (r.response.getD i 0) (by rw[getD_some (by omega)]; exact be _);obtain⟨s,hs⟩: ∃ s:Nat,r.response.getD i 0=(s:Int):=⟨(r.response.getD i 0).toNat,by omega⟩
  have hsl:s<c.length:=by omega
  have hst:=ae7 (n:=c.length) hsl hs;have hps:=aau hs;have hgi:(Eo r.response c.length i).getD s []=mD r.response s i:=Ep hsl;have hln:mD r.response s (i+1)=mD r.response s i++[(i:Int)]:=by rw[yu,bv.2 hs]; rfl
  repeat(refine VC.mk (by first|(simp only[Rw.rng,ap,hs]; omega)|(simp only[Rw.rng,ap]; omega)) ?_; conv=>whnf)
  rw[show r.response.getD ((i:Int)).toNat 0=(s:Int) from hs];refine⟨_,Ag (j:=s) (by omega),?_⟩;rcases rY (B:=10000) (j:=s) (R:=Eo r.response c.length i) with ⟨q,e⟩|⟨q,e⟩
  ·rw[show Yr 10000 (Eo r.response c.length i) s=EL .nil from e];repeat(refine VC.mk (by first|(first|(show(0+(0+1))*8<=140737488355328/\0+(0+1)<=1152921504606846976; omega)|(simp only[ap]; omega))|(omega)|(simp only[okI] at *; omega)) ?_; conv=>whnf)
   refine qR.WR 20000 (i+1) s 20020 (fI (Eo r.response c.length i)) (fI (Eo r.response c.length (i+1))) (ac0 r c (Eo r.response c.length (i+1))) [0,4,20] rfl hi' (by omega) ?_ rfl rfl rfl (ab _) (by rw[FT,jk]; omega) (by rw[FT,jk]; omega) (by decide) Yt ?_ (by rw[hst]; exact acW) (sR rfl) (sR rfl) ?_
   (repeat' (first|refine bQ.lo rfl ?_|refine bQ.hi rfl ?_|exact bQ.nil))
   ·intro o ho;rw[hst] at ho;rw[afJ (by omega) hps ho];refine⟨_,rfl,?_⟩;rw[hln,show mD r.response s i=[] by rw[<- hgi]; exact q]; rfl
   exact⟨FY rfl rfl,FY rfl rfl,okJ rfl (Jr (by rw[jk]; omega)) rfl ⟨rfl,rfl⟩ (by rw[hst]; exact UY (by omega) hps),trivial⟩
  ·rw[show Yr 10000 (Eo r.response c.length i) s= .inn (10000+s) from e];have hlb:=Ac (resp:=r.response) (t:=s) (i:=i);conv=>whnf
   rw[ae8 (s:=s)]
   rotate_left
   ·rfl
   refine MS.fI (B:=10000) (R:=Eo r.response c.length i) 20000 3 rfl rfl (by rw[jk]; omega) q ?_;rw[hgi];repeat(refine VC.mk (by first|(first|(show((mD r.response s i).length+(0+1))*8<=140737488355328/\(mD r.response s i).length+(0+1)<=1152921504606846976; omega)|(simp only[ap]; omega))|(omega)|(simp only[okI] at *; omega)) ?_; conv=>whnf)
   refine qR.WR 20000 (i+1) s 20020 ((fI (Eo r.response c.length i)).set s none) (fI (Eo r.response c.length (i+1))) (ac0 r c (Eo r.response c.length (i+1))) [0,4,20] rfl hi' (by omega) ?_ rfl rfl rfl (ab _) (by rw[FT,jk]; omega) (by rw[cx,FT,jk]; omega) (by decide) Yt ?_ (fun j o hj q=>by rw[hst] at q; rw[cq (Ne.symm hj)]; exact acW j o hj q) (sR rfl) (sR rfl) ?_
   (repeat' (first|refine bQ.lo rfl ?_|refine bQ.hi rfl ?_|exact bQ.nil))
   ·intro o ho;rw[hst] at ho;rw[afJ (by omega) hps ho];refine⟨_,rfl,?_⟩;rw[hln]
   exact⟨FY rfl rfl,FY rfl rfl,okJ rfl (Jr (by rw[jk]; omega)) rfl ⟨rfl,rfl⟩ (by rw[hst]; exact UY (by omega) hps),trivial⟩
 ·have hi':i=c.length:=by
   have: ¬ i<c.length:=by simpa using h1
   omega
  subst hi';conv=>whnf
  rw[BZ hn0];repeat(refine VC.mk (by first|omega|(simp only[Rw.rng,List.length_replicate]; omega)) ?_; conv=>whnf)
  have hall:Eo r.response c.length c.length=(List.range c.length).map (iC r.response):=by
   unfold Eo iC; rw[hrl]; rfl
  have hdc:Oj (cO c r.to):=by
   intro x hx;rcases fk hx with q|q
   ·exact h0 x q
   ·omega
  have hdp:=Dz (i:=r.to) hpos;refine aA.Ld 3 [1] (fun t:Nat=>[(10,.int t),(5,.own 0),(6,.own 1),(9,.own 2)]) (fun _=>[(0,je (cO c r.to)),(1,fG (Eo r.response c.length c.length)),(2,fG (vU c.length r.fr))]) (fun t=>t<=c.length/\FD r.response (cO c r.to) t=false) (fun t=>c.length-t) 0 [4,20,20014] [(4,some (je (cO c r.to))),(20,some (fG (Eo r.response c.length c.length))),(20014,some (fG (vU c.length r.fr)))] rfl (by decide) (fun _=>rfl) ⟨ab _,rfl⟩ ?_ ?_ ?_ ?_
  ·exact(sR rfl)
  ·refine⟨fun j=>10000<=j/\j≠20014,dM (Z:=fun j=>10000<=j/\j≠20014) (i:=4) (o:=je (cO c r.to)) rfl (by decide),aat (Z:=fun j=>10000<=j/\j≠20014) (B:=10000) rfl (by decide) (fun j hj=>⟨⟨by omega,?_⟩,?_⟩),DY (Z:=fun j=>10000<=j/\j≠20014) (i:=20014) (j:=20006) (l:=[]) rfl rfl (by decide) (by decide) rfl,trivial⟩
   ·have:j<(Eo r.response c.length c.length).length:=by
     rcases db j (Eo r.response c.length c.length).length with q|q
     ·exact q
     ·exact absurd (getD_none q) hj
    rw[jk] at this; omega
   ·refine bQ.get (C:=20000) (L:=fI (Eo r.response c.length c.length)) ?_ (by rw[FT,jk]; omega) (Xa hj)
    (repeat' (first|refine bQ.lo rfl ?_|refine bQ.hi rfl ?_|exact bQ.nil))
  ·exact⟨FY rfl rfl,FY rfl rfl,FY rfl rfl,trivial⟩
  refine⟨(sR rfl),rfl,?_⟩;rintro t ⟨ht,hs⟩;refine⟨fun h2=>?_,fun h2=>?_⟩
  ·have ht':t<c.length:=by simpa using h2
   repeat(refine VC.mk (by first|(first|(simp only[Rw.rng,ap]; omega)|(simp only[Rw.rng,ap,jk]; omega))|exact fun h=>h|(intro h; (repeat' apply And.intro)<;>first|exact h|omega|(simp only[Rw.qM]; omega)|(simp only[Rw.rng]; omega))) ?_; conv=>whnf)
   have hfT:(Eo r.response c.length c.length).getD ((t:Int)).toNat []=iC r.response t:=by
    rw[ap,Ep ht']; unfold mD iC; rw[hrl]
   rw[hfT];refine⟨fun h3=>?_,fun h3=>?_⟩
   ·have hsy:mg r.response (cO c r.to)=true:=by
     refine PO (i:=t) (by omega) ?_;rw[P8,eL]; exact h3
    have hres:DI r c=[]:=by unfold DI; rw[hk,hsy]; rfl
    rw[hres];exact ak.ahc rfl
   ·have hsn:FD r.response (cO c r.to) (t+1)=false:=by
     rw[JI,hs,P8,eL,cr]; exact h3
    refine .mk (by first|(simp only[okI]; omega)|omega) ?_;exact⟨[(0,some (je (cO c r.to))),(1,some (fG (Eo r.response c.length c.length))),(2,some (fG (vU c.length r.fr)))],t+1,[0,1,2],⟨fun _=>False,dM (Z:=fun _=>False) rfl (fun q=>q),dM (Z:=fun _=>False) rfl (fun q=>q),dM (Z:=fun _=>False) rfl (fun q=>q),trivial⟩,⟨ht',hsn⟩,by omega,(sR rfl),(sR rfl),FY rfl rfl,FY rfl rfl,FY rfl rfl,trivial⟩
  ·have ht':t=c.length:=by have:=aL h2; omega
   subst ht';have hsy:mg r.response (cO c r.to)=false:=by rw[<- Nq,hml]; exact hs
   conv=>whnf
   have hres:DI r c=Ew 101 r.response (cO c r.to) (vU c.length r.fr) c.length:=by unfold DI; rw[hk,hsy,Yu]; rfl
   rw[hres];refine aA.fz 9 2 0 (.bI (vU c.length r.fr)) rfl rfl (aaR rfl rfl) ?_;refine aA.objs 2 [1] (fun t:Nat=>[(11,.int t),(9,.row 0 false (.bI (Ew 101 r.response (cO c r.to) (vU c.length r.fr) t))),(5,.own 0),(6,.own 1)]) (fun _=>[(0,je (cO c r.to)),(1,fG (Eo r.response c.length c.length))]) (fun t=>t<=c.length) (fun t=>c.length-t) 0 [0,1] rfl (by decide) (fun _=>rfl) (ab _) ?_ ?_ ?_
   ·exact(sR rfl)
   ·exact⟨dA rfl rfl,dA rfl rfl,trivial⟩
   refine⟨(sR rfl),rfl,?_⟩;rintro t ht;refine⟨fun h4=>?_,fun h4=>?_⟩
   ·have ht':t<c.length:=by simpa using h4
    repeat(refine VC.mk (by first|(simp only[Rw.rng,ap]; omega)|(simp only[Rw.rng,ap,jk]; omega)) ?_; conv=>whnf)
    have hfT:(Eo r.response c.length c.length).getD ((t:Int)).toNat []=iC r.response t:=by
     rw[ap,Ep ht']; unfold mD iC; rw[hrl]
    obtain⟨nn,hnn⟩: ∃ nn:Nat,(cO c r.to).getD t 0=(nn:Int):=⟨((cO c r.to).getD t 0).toNat,by have:=hdp t; omega⟩
    have hnb:=jH hdc t;rw[show(cO c r.to).getD ((t:Int)).toNat 0=(nn:Int) from hnn];have hnext:=Jk (m:=101) (resp:=r.response) (need:=cO c r.to) (out:=vU c.length r.fr) (n:=t);refine⟨fun h5=>?_,fun h5=>?_⟩
    ·have hn1:0<nn:=by have:=ai h5; omega
     have hst:=Bc hsy hdp;have hO: ∀ d∈Ew 101 r.response (cO c r.to) (vU c.length r.fr) t,d.length=c.length/\ ∀ j,0<=d.getD j 0/\d.getD j 0+((iC r.response t).length:Int)*2097152<=2^40:=by
      intro d hd;rw[KI (m:=101) (show(vU c.length r.fr).length<=101 from by unfold vU; simp) hst] at hd;have hd2:=cU hd;rw[<- hml] at hd2;obtain⟨b1,b2⟩:=acZ hdc (by omega) (by omega) (t:=t) (by omega) (by omega) d hd2;have hfl:(iC r.response t).length<=r.response.length:=Ac;exact⟨by omega,fun j=>by have:=b2 j; omega⟩
     have hlO:(Ew 101 r.response (cO c r.to) (vU c.length r.fr) t).length<=101:=by
      rw[KI (m:=101) (show(vU c.length r.fr).length<=101 from by unfold vU; simp) hst,bE]; omega
     have hfl:(iC r.response t).length<=r.response.length:=Ac;have hfr:qY c.length (iC r.response t):=fun x hx=>by have:=PN (i:=r.response.length) x hx; omega
     have hres:qK 101 [] ((Ew 101 r.response (cO c r.to) (vU c.length r.fr) t).flatMap fun d=>BQ d (iC r.response t) nn)=Ew 101 r.response (cO c r.to) (vU c.length r.fr) (t+1):=by
      rw[hnext];unfold yK;rw[hnn,bq.2 (by omega)]; rfl
     repeat(refine VC.mk (by first|(simp only[Rw.rng,ap]; omega)|(simp only[Rw.rng,ap,jk]; omega)) ?_; conv=>whnf)
     rw[hfT,show(cO c r.to).getD ((t:Int)).toNat 0=(nn:Int) from hnn];refine ah.pure (S.yx (Ew 101 r.response (cO c r.to) (vU c.length r.fr) t) (iC r.response t) nn 101 c.length false false (hst t (by omega)) hfr hO (by omega) (by omega) (by omega) (by decide) (by omega)) rfl ?_;rw[hres];refine .mk (by first|(simp only[okI]; omega)|omega) ?_;exact⟨t+1,[0,1],ht',by omega,(sR rfl),(sR rfl),dA rfl rfl,dA rfl rfl,trivial⟩
    ·have hn1:nn=0:=by have:=aL h5; omega
     have hres:Ew 101 r.response (cO c r.to) (vU c.length r.fr) (t+1)=Ew 101 r.response (cO c r.to) (vU c.length r.fr) t:=by
      rw[hnext];unfold yK;rw[hnn,hn1];show List.take 101 (Ew 101 r.response (cO c r.to) (vU c.length r.fr) t)=_;refine bB ?_;rw[KI (m:=101) (show(vU c.length r.fr).length<=101 from by unfold vU; simp) (Bc hsy hdp),bE]; omega
     refine .mk (by first|(simp only[okI]; omega)|omega) ?_;refine⟨t+1,[0,1],ht',by omega,⟨⟨_,rfl,.eq rfl⟩,⟨_,rfl,.eq (by rw[hres]; rfl)⟩,⟨_,rfl,.eq rfl⟩,⟨_,rfl,.eq rfl⟩,trivial⟩,(sR rfl),dA rfl rfl,dA rfl rfl,trivial⟩
   ·have ht':t=c.length:=by have:=aL h4; omega
    subst ht';exact ak.eqv rfl
theorem Xb{r:Rule}{c:List Int}(hp:oU c.length r)(h0:Oj c)(hl:c.length<=6): ∀ l∈DI r c,l.length=c.length:=by
 intro l h;rcases Yi hp (fun j=>(jH h0 j).1) with e|⟨_,e⟩<;>rw[e] at h
 ·exact Bg hp h0 hl l h
 ·exact Bg hp h0 hl l (cU h)
theorem ac1{m:Nat}{resp need:List Int}{out:List (List Int)}(h:out.length<=m): ∀ n,(Ew m resp need out n).length<=m:=by
 intro n;cases n with
 |zero=>exact h
 |succ n=>rw[Jk,bE]; omega
theorem ac2{r:Rule}{c:List Int}(hx:r.ex.length<=100):(DI r c).length<=101:=by
 unfold DI cntF;cases r.kind==3 with
 |true =>
  cases mg r.response (cO c r.to) with
  |true=>exact ab _
  |false=>exact ac1 (by simp) _
 |false =>
  cases r.kind==1 with
  |true =>
   cases qZ r (cO c r.to) with
   |true=>exact(by decide:1<=101)
   |false=>simp only[bS,bO,bc]; omega
  |false=>cases r.kind==2<;>exact(by decide:1<=101)
theorem ac3{p:aI}{r:Rule}{v:Int}(hv:p.values.length<2^20):(kM p r v).length<2^21:=by
 unfold kM;cases decide (0<=r.write)&&r.write !=v
 ·cases decide (r.write<0)&&(decide (0<=r.read)&&r.read !=v)
  ·cases decide (0<=r.read)
   ·cases decide (r.write<0)
    ·show((List.range _).map _).length<_;rw[bc,ef]; omega
    ·exact(by decide:(1:Nat)<2^21)
   ·exact(by decide:(1:Nat)<2^21)
  ·exact(by decide:(0:Nat)<2^21)
 ·exact(by decide:(0:Nat)<2^21)
set_option maxHeartbeats 4000000 in
theorem S.vJ(p:aI)(i:Nat)(e:Elem)(hp:dU p)(hF:BL p e)(hi:i<p.rules.length)(ha:(p.rules.getD i default).all=[])(hval: ∀ r∈p.rules,0<=r.write->0<p.values.length):aj Tryz.prog 94 [.dat (.fQ p),.int i,.dat (.elem e)] (Ny (WX p (p.rules.getD i default) e)):=by
 have hX:=hF.JJ (r:=p.rules.getD i default) (by rw[getD_some hi]; exact be hi);have hr:=hp.rule i;have h0:=hF.nums;have hst:=hF.valid.states;have hlen:=hF.len;have hx:=hX.xl;have hsrc:=hX.rf.place.src;have hr0:p.rules.getD i default∈p.rules:=by rw[getD_some hi]; exact be hi
 generalize hre:p.rules.getD i default=r at hX hr ha hx hr0;generalize hres:Ny (WX p r e)=res;have hvl:(kM p r e.value).length<2^21:=ac3 hp.values;have hcl:=Xb hX.rf.place h0 (by omega);have hcn:=ac2 (c:=e.counts) (r:=r) (by omega);have hpos: ∀ i,0<=e.counts.getD i 0:=fun i=>(jH h0 i).1
 refine aj.of Bd.vJ (by simp) rfl (by rw[<- hres]; rfl) ?_;refine .mk (by simp only[Rw.rng]; omega) ?_;conv=>whnf
 rw[show p.rules.getD ((i:Int)).toNat default=r from hre];obtain⟨cs,aav⟩: ∃ cs,cs=DI r e.counts:=⟨_,rfl⟩
 obtain⟨vs,ah0⟩: ∃ vs,vs=kM p r e.value:=⟨_,rfl⟩
 have hbef:=S.yt p r e.value hp.values (hval r hr0);rw[<- ah0] at hbef hvl;rw[<- aav] at hcl hcn;have hM:Og p r e=oG vs cs vs.length 0:=by rw[Nw,ah0,aav]; rfl
 rw[WX,hM] at hres;have hmul:cs.length*vs.length<=101*2^21:=f8 hcn (gb hvl);rw[ft] at hmul;have hN: ∀ i,i<=vs.length-> ∀ j,j<=cs.length->(oG vs cs i j).length<=101*2^21+101:=fun i h j k=>by
  rw[Nv h k];have:=cp cs.length h;omega
 rcases hX.rf.kind with hk|hk|hk
 case' inl =>
  have hcs:cntF r e.counts=DI r e.counts:=by unfold DI; rw[hk]; rfl
  have hloc:=S.Af r e.counts false h0 hX.rf.place hk ha (by omega) (by omega);rw[hcs,<- aav] at hloc;refine Fork.mk (fun _=>?_) (fun q=>absurd (q.symm.trans (bv.2 hk)) aq);refine ah.pure hloc rfl ?_;refine ah.pure hbef rfl ?_;refine aA.nil 11 50 3 (by rfl) rfl rfl rfl ?_;refine aA.objs 3 [3] (fun i:Nat=>[(12,.int i),(9,.row 0 false (.bI cs)),(10,.row 0 false (.ints vs)),(11,.own 2)]) (fun i=>[(0,Ad p),(2,aZ (oG vs cs i 0))]) (fun i=>i<=vs.length) (fun i=>vs.length-i) 0 [0,29] rfl (by decide) (fun _=>rfl) (ab _) (sR rfl) ⟨dA rfl rfl,dA rfl rfl,trivial⟩ ?_
 case' inr.inl =>
  have hcs:DI r e.counts=[ku r e.counts]:=by unfold DI cntF; rw[hk]; rfl
  rw[hcs] at aav;refine Fork.mk (fun q=>absurd (q.symm.trans (bq.2 (by omega))).symm aq) (fun _=>?_);refine Fork.mk (fun _=>?_) (fun q=>absurd (q.symm.trans (bv.2 hk)) aq);refine ah.pure (S.Ae r e.counts false (fun j=>by have:=jH h0 j; omega) (by omega) (by omega)) rfl ?_;refine ah.pure hbef rfl ?_;refine aA.fz 9 22 0 (.bI cs) rfl rfl (Yq rfl rfl (by rw[aav]; rfl)) ?_;refine aA.nil 11 50 3 (by rfl) rfl rfl rfl ?_;refine aA.objs 3 [3] (fun i:Nat=>[(12,.int i),(9,.row 0 false (.bI cs)),(10,.row 0 false (.ints vs)),(11,.own 2)]) (fun i=>[(0,Ad p),(2,aZ (oG vs cs i 0))]) (fun i=>i<=vs.length) (fun i=>vs.length-i) 0 [0,32] rfl (by decide) (fun _=>rfl) (ab _) (sR rfl) ⟨dA rfl rfl,dA rfl rfl,trivial⟩ ?_
 case' inr.inr =>
  have hbr:=S.qW r e.counts false h0 hX.rf.place hk (by omega);rw[<- aav] at hbr;refine Fork.mk (fun q=>absurd (q.symm.trans (bq.2 (by omega))).symm aq) (fun _=>?_);refine Fork.mk (fun q=>absurd (q.symm.trans (bq.2 (by omega))).symm aq) (fun _=>?_);refine Fork.mk (fun _=>?_) (fun q=>absurd (q.symm.trans (bv.2 hk)) aq);refine ah.pure hbr rfl ?_;refine ah.pure hbef rfl ?_;refine aA.nil 11 50 3 (by rfl) rfl rfl rfl ?_;refine aA.objs 3 [3] (fun i:Nat=>[(12,.int i),(9,.row 0 false (.bI cs)),(10,.row 0 false (.ints vs)),(11,.own 2)]) (fun i=>[(0,Ad p),(2,aZ (oG vs cs i 0))]) (fun i=>i<=vs.length) (fun i=>vs.length-i) 0 [0,33] rfl (by decide) (fun _=>rfl) (ab _) (sR rfl) ⟨dA rfl rfl,dA rfl rfl,trivial⟩ ?_
 all_goals
  refine⟨(sR rfl),rfl,?_⟩;rintro i hi;refine⟨fun h4=>?_,fun h4=>?_⟩
  ·have hi':i<vs.length:=by simpa using h4
   refine aA.objs 3 [3] (fun j:Nat=>[(13,.int j),(12,.int i),(9,.row 0 false (.bI cs)),(10,.row 0 false (.ints vs)),(11,.own 2)]) (fun j=>[(0,Ad p),(2,aZ (oG vs cs i j))]) (fun j=>j<=cs.length) (fun j=>cs.length-j) 0 [0,2] rfl (by decide) (fun _=>rfl) (ab _) (sR rfl) ⟨dA rfl rfl,dA rfl rfl,trivial⟩ ?_;refine⟨(sR rfl),rfl,?_⟩;rintro j hj;have hNj:=hN i hi j hj;refine⟨fun h5=>?_,fun h5=>?_⟩
   ·have hj':j<cs.length:=by simpa using h5
    have hnx:=PU (vs:=vs) (i:=i) hj';repeat(refine VC.mk (by first|(first|(simp only[Rw.rng,ap]; omega)|(show((oG vs cs i j).length+1)*32<=140737488355328/\(oG vs cs i j).length+1<=1152921504606846976; omega))|(simp only[okI] at *; omega)) ?_)
    exact⟨j+1,[0,18],hj',by omega,(sR rfl),(sR rfl),dA rfl rfl,⟨rfl,nofun,rfl,rfl,rfl,_,rfl,rfl,rfl,dJ.of_eq (by rw[hnx]; rfl)⟩,trivial⟩
   ·have hj':j=cs.length:=by have:=aL h5; omega
    subst hj';rw[<- PV hi'];repeat(refine VC.mk (by simp only[okI] at *; omega) ?_)
    exact⟨i+1,[0,2],hi',by omega,(sR rfl),(sR rfl),dA rfl rfl,dA rfl rfl,trivial⟩
  ·have hi':i=vs.length:=by have:=aL h4; omega
   subst hi';have hNv:=hN vs.length (ba _) 0 (ab _);have hsm:vM (oG vs cs vs.length 0):=fun x hx=>by have:=hcl _ (UH hx); omega
   refine ah.shut (fun c=>c≠0) (h2:=[(0,some (Ad p))]) ⟨dM (Z:=fun c=>c≠0) (i:=0) (o:=Ad p) rfl (fun q=>q rfl),trivial⟩ (S.kW (oG vs cs vs.length 0) false (by omega) hsm) ⟨CG (by decide) rfl,trivial⟩ ?_;rw[<- Az];have hml:=uI (oG vs cs vs.length 0);have hms: ∀ x∈aK (oG vs cs vs.length 0),x.counts.length<2^30:=fun x hx=>hsm x (mQ hx)
   generalize aK (oG vs cs vs.length 0)=ms at hres hml hms;refine⟨fun h6=>?_,fun h6=>?_⟩
   ·have h6':decide (100<ms.length)=true:=cJ (by have:=ai h6; omega);rw[h6',Bool.true_or,bS] at hres;rw[<- hres];exact ak.zB
   have h6':decide (100<ms.length)=false:=cF (by have:=aL h6; omega);rw[h6',cr] at hres;refine aA.objs 1 [3] (fun i:Nat=>[(14,.int i),(11,.row 3 false (.elems ms))]) (fun _=>[(0,Ad p)]) (fun i=>i<=ms.length/\(ms.take i).any (lI p)=false) (fun i=>ms.length-i) 0 [0] rfl (by decide) (fun _=>rfl) ⟨ab _,rfl⟩ (sR rfl) ⟨dA rfl rfl,trivial⟩ ?_;refine⟨(sR rfl),rfl,?_⟩;rintro k ⟨hk1,hk2⟩;refine⟨fun h7=>?_,fun h7=>?_⟩
   ·have hk':k<ms.length:=by simpa using h7
    have hmk:ms.getD k default∈ms:=by rw[getD_some hk']; exact be hk'
    repeat(refine VC.mk (by first|(simp only[Rw.rng]; omega)|(simp only[Rw.rng]; omega)) ?_)
    refine ah.pure (S.DR p (ms.getD k default) hp (hms _ hmk)) rfl ?_;refine⟨fun h8=>?_,fun h8=>?_⟩
    ·have h8':lI p (ms.getD k default)=true:=by
      have:(!(!(lI p (ms.getD k default))))=true:=h8
      simpa using this
     have hany:ms.any (lI p)=true:=bw.2 ⟨_,hmk,h8'⟩;rw[hany,bS] at hres;rw[<- hres];exact ak.zB
    ·have h8':lI p (ms.getD k default)=false:=by
      have:(!(!(lI p (ms.getD k default))))=false:=h8
      simpa using this
     repeat(refine VC.mk (by simp only[okI] at *; omega) ?_)
     exact⟨k+1,[0],⟨hk',by rw[bj hk',dq,hk2,<- getD_some (d:=default) hk',eJ,h8']; rfl⟩,by omega,(sR rfl),(sR rfl),dA rfl rfl,trivial⟩
   ·have hk':k=ms.length:=by have:=aL h7; omega
    rw[hk',bp] at hk2;rw[hk2,bO] at hres;rw[<- hres,hk'];exact ak.eqv rfl
theorem agW{p:aI}{e:Elem}(hF:BL p e): ∀ r∈p.rules,0<=r.write->0<p.values.length:=by
 intro r hr hw;rcases(hF.JJ hr).rf.wr with h|h
 ·simp only[pR,bm,am] at h; omega
 ·omega
theorem S.Rl(p:aI)(i:Nat)(e:Elem)(hp:dU p)(hF:BL p e)(hi:i<p.rules.length)(ha: ∀ r∈p.rules,r.all=[]):aj Tryz.prog 94 [.dat (.fQ p),.int i,.dat (.elem e)] (Ny (pO p (p.rules.getD i default) e)):=by
 have hm:p.rules.getD i default∈p.rules:=by rw[getD_some hi]; exact be hi
 have hX:=hF.JJ hm;have h:=S.vJ p i e hp hF hi (ha _ hm) (agW hF);rwa [aeS hX.rf.place hX.nd (fun j=>(jH hF.nums j).1) hF.len (UJ hX.rf hF.val)] at h
set_option maxHeartbeats 1000000 in
theorem S.Ip(p:aI)(e:Elem)(hp:dU p)(hF:BL p e)(ha: ∀ r∈p.rules,r.all=[]):aj Tryz.prog 66 [.dat (.fQ p),.dat (.elem e)] (Ny (jl p e)):=by
 have hpr:=hp.rules;have h6:=hF.valid.states;have h8:=hF.valid.aaI;have h0:=hF.valid.pos;have hl:=hF.len;generalize hres:Ny (jl p e)=res;refine aj.of Bd.Ip (by simp) rfl (by rw[<- hres]; rfl) ?_;refine aA.nil 6 50 3 (by rfl) rfl rfl rfl ?_;refine aA.objs 3 [2,3] (fun i:Nat=>[(7,.int i),(6,.own 2)]) (fun i=>[(0,.box 27 11 (.dat (.fQ p))),(1,.box 50 3 (.dat (.elem e))),(2,aZ (iD p e i))]) (fun i=>i<=p.rules.length/\(p.rules.take i).any (fun r=>(pO p r e).1 !=0)=false) (fun i=>p.rules.length-i) 0 [0,1,6] rfl (by decide) (fun _=>rfl) ⟨ab _,rfl⟩ (sR rfl) ⟨dA rfl rfl,dA rfl rfl,dA rfl rfl,trivial⟩ ?_;refine⟨(sR rfl),rfl,?_⟩;rintro i ⟨hi,hno⟩;have hpl:=NC (p:=p) (e:=e) (i:=i);refine⟨fun h1=>?_,fun h1=>?_⟩
 ·have hi':i<p.rules.length:=by simpa using h1
  have hst:=JK (e:=e) hi';have hmem:p.rules.getD i default∈p.rules:=by rw[getD_some hi']; exact be hi'
  have hlen:=@Ih p (p.rules.getD i default) e;refine ah.pure (S.Rl p i e hp hF hi' ha) rfl ?_;have herr:=@UK p (p.rules.getD i default) e;generalize hq:pO p (p.rules.getD i default) e=q at hst hlen herr;refine⟨fun h2=>?_,fun h2=>?_⟩
  ·replace h2:(q.1 !=0)=true:=h2;conv=>whnf
   have h4:q.1=4:=by
    rcases herr with h|h
    ·rw[h] at h2; cases h2
    ·exact h
   have hany:p.rules.any (fun r=>(pO p r e).1 !=0)=true:=bw.2 ⟨_,hmem,by rw[hq]; exact h2⟩;rw[<- hres,jl,hany,h4];exact ak.zB
  ·replace h2:(q.1 !=0)=false:=h2;repeat(refine VC.mk (by first|(show((iD p e i).length+q.2.length)*32<=140737488355328/\(iD p e i).length+q.2.length<=1152921504606846976; omega)|(simp only[okI] at *; omega)) ?_)
   refine⟨i+1,[0,1,21],⟨hi',?_⟩,by omega,(sR rfl),(sR rfl),dA rfl rfl,dA rfl rfl,⟨rfl,nofun,rfl,rfl,rfl,_,rfl,rfl,rfl,dJ.of_eq (by rw[hst])⟩,trivial⟩;rw[bj hi',dq,hno,cr,<- getD_some (d:=default) hi'];show((pO p (p.rules.getD i default) e).1 !=0||false)=false;rw[hq,h2]; rfl
 ·have hi':i=p.rules.length:=by have:=aL h1; omega
  subst hi';rw[bp] at hno;have hX:jl p e=bif decide (100<(aK (iD p e p.rules.length)).length) then(4,[]) else(0,aK (iD p e p.rules.length)):=by unfold jl; rw[hno]; rfl
  refine ah.shut (fun c=>c=2) (h2:=[]) trivial (S.kW (iD p e p.rules.length) false (by omega) (fun x hx=>by have:=Rj (FH hF hx); omega)) ⟨CG rfl rfl,trivial⟩ ?_;rw[<- Az];generalize aK (iD p e p.rules.length)=M at hX;refine⟨fun h2=>?_,fun h2=>?_⟩
  ·replace h2:decide (100<(M.length:Int))=true:=h2;have:=ai h2;rw[cJ (by omega:100<M.length),bS] at hX;conv=>whnf
   rw[<- hres,hX];exact ak.zB
  ·replace h2:decide (100<(M.length:Int))=false:=h2;have:=aL h2;rw[cF (by omega: ¬ 100<M.length),bO] at hX;conv=>whnf
   rw[<- hres,hX];exact ak.eqv rfl
theorem S.agX(l:List Elem)(f:Bool)(hl:l.length<2^29)(hs:vM l):aP Tryz.prog 65 (V.aU [.row 3 f (.elems l)]) (Hz.ay []) 0 (fun t hp=>t= .own 0/\hp=Hz.ay [(0,some (aZ (y8 l)))]):=by
 refine oJ.of (nx:=0) (h0:=[]) Bd.kW (by simp) ⟨_,_,rfl,rfl⟩ rfl rfl ?_;refine aA.nil 3 50 3 (by rfl) rfl rfl rfl ?_;refine aA.objs 1 [0,4] (fun i:Nat=>[(5,.int i),(3,.own 0)]) (fun i=>[(0,aZ ((l.take i).foldl og []))]) (fun i=>i<=l.length) (fun i=>l.length-i) 0 [4] rfl (by decide) (fun _=>rfl) (ab _) ?_ ?_ ?_
 ·exact(sR rfl)
 ·exact⟨dA rfl rfl,trivial⟩
 refine⟨(sR rfl),rfl,?_⟩;rintro i hi;have hal:((l.take i).foldl og []).length<=i:=by
  have:=Sv (l.take i) [];simp at this; omega
 refine⟨fun h3=>?_,fun h3=>?_⟩
 ·have hi':i<l.length:=by simpa using h3
  refine .mk (by simp only[Rw.rng] at *; omega) ?_;refine ah.heap (S.rC _ _ _ (by decide) (by omega) (OD hs.e i) (hs.get i)) ?_;have hstep:=rE og [] (l:=l) default hi';rintro t hp (⟨hf,rfl,rfl⟩|⟨hf,rfl,rfl⟩)
  ·refine⟨.own 0,h1 _,rfl,rfl,?_⟩;refine .mk (by simp only[okI] at *; omega) ?_;refine⟨i+1,[0],by omega,by omega,(sR rfl),(sR rfl),⟨rfl,nofun,rfl,rfl,rfl,_,rfl,rfl,rfl,?_⟩,trivial⟩;rw[ap] at hf;rw[hstep,og,bk hf]; exact .refl _
  ·refine⟨.own _,[(_,some (aZ _))],rfl,rfl,?_⟩;refine .mk (by simp only[okI] at *; omega) ?_;refine⟨i+1,[10],by omega,by omega,(sR rfl),(sR rfl),⟨rfl,nofun,rfl,rfl,rfl,_,rfl,rfl,rfl,?_⟩,trivial⟩;rw[hstep]; exact .refl _
 ·have hi':l.length<=i:=by simpa using h3
  have hall:(l.take i).foldl og []=Lu l:=by rw[bB hi']; rfl
  have hsl:vM (Lu l):=fun x hx=>by
   rcases LC _ _ _ hx with h'|h'
   ·cases h'
   ·exact hs x h'
  rw[hall];rw[hall] at hal;generalize hA:Lu l=A at hal hsl ⊢;have hrm:y8 l=A.foldl fJ []:=by rw[y8,hA]
  rw[hrm];clear hall hA hrm h3;refine aA.nil 4 50 3 (by rfl) rfl rfl rfl ?_;refine aA.objs 2 [] (fun i:Nat=>[(6,.int i),(3,.own 0),(4,.own 1)]) (fun i=>[(0,aZ A),(1,aZ ((A.take i).foldl fJ []))]) (fun i=>i<=A.length) (fun i=>A.length-i) 0 [0,6] rfl (by decide) (fun _=>rfl) (ab _) ?_ ?_ ?_
  ·exact(sR rfl)
  ·exact⟨dA rfl rfl,dA rfl rfl,trivial⟩
  refine⟨trivial,rfl,?_⟩;rintro j hj;have hkl:((A.take j).foldl fJ []).length<=j:=by
   have:=Lp (A.take j) [];simp at this; omega
  refine⟨fun h3=>?_,fun h3=>?_⟩
  ·have hj':j<A.length:=by simpa using h3
   have hstep:=rE fJ [] (l:=A) default hj';repeat(refine VC.mk (by simp only[Rw.rng] at *; omega) ?_)
   refine ah.lend (S.mP _ (A.getD j default) false (by omega) (Au hsl.e j) (hsl.e.get j)) ⟨CG trivial rfl,aC _,trivial⟩ rfl rfl ?_;refine⟨fun h4=>?_,fun h4=>?_⟩
   ·conv=>whnf
    repeat(refine VC.mk (by first|(show(((A.take j).foldl fJ []).length+(0+1))*32<=140737488355328/\((A.take j).foldl fJ []).length+(0+1)<=1152921504606846976; omega)|(simp only[okI,Rw.rng] at *; omega)) ?_)
    refine⟨j+1,[0,19],by omega,by omega,(sR rfl),trivial,dA rfl rfl,⟨rfl,nofun,rfl,rfl,rfl,_,rfl,rfl,rfl,dJ.of_eq ?_⟩,trivial⟩;rw[hstep,fJ,bX (by simpa using h4)];show List.map gB _++[]=List.map gB _++[gB _];simp
   ·conv=>whnf
    refine .mk (by simp only[okI] at *; omega) ?_;refine⟨j+1,[0,1],by omega,by omega,(sR rfl),trivial,dA rfl rfl,⟨rfl,nofun,rfl,rfl,rfl,_,rfl,rfl,rfl,dJ.of_eq ?_⟩,trivial⟩;have h5:((A.take j).foldl fJ []).any (fun b=>kL b (A.getD j default))=true:=by simpa using h4
    rw[hstep,fJ,bk h5]
  ·conv=>whnf
   have hj':A.length<=j:=by simpa using h3
   have hA:A.take j=A:=bB hj';rw[hA];exact iT.one (c:=0) (j:=1) (o:=aZ (A.foldl fJ [])) (t:=.own 0) rfl rfl rfl nofun (.inr rfl) rfl (.eq rfl) ⟨rfl,rfl⟩
theorem ah.agX{h:Hz}{n:Nat}{l:List Elem}{f:Bool}{K:V->Hz->Prop}{KW:Nat->V->Hz->Prop}(hn:h.get n=none)(hl:l.length<2^29)(hs:vM l)
  (hK:K (.own n) ((n,some (aZ (aK l)))::h)):ah Tryz.prog false none 65 [.row 3 f (.elems l)] h n K KW:=by
 refine ah.QO [] (S.agX l f hl hs) rfl rfl rfl rfl rfl trivial hn (by simp) ?_;rintro t hp ⟨rfl,rfl⟩;rw[Az] at hK;exact⟨.own n,[some (aZ (y8 l))],rfl,rfl,⟨dt some (tX rfl _).symm,trivial⟩,hK⟩
def Xc(O G:List Elem):Prop:=(∀ x∈O,x∈G)/\ ∀ y∈G,O.any (fun x=>kL x y)=true
theorem ae9{O G:List Elem}(h:Xc O G):aK O=aK G:=by
 refine zG (bZ O).1 (bZ G).1 fun x=>?_
 rw[(bZ O).2,(bZ G).2];constructor
 ·rintro⟨h1,h2⟩;refine⟨h.1 x h1,?_⟩;rw[co] at h2 ⊢;intro g hg hab;obtain⟨o,ho,hle⟩:=bw.1 (h.2 g hg);obtain⟨a1,a2⟩:=nJ.1 hab;by_cases e:o=x
  ·subst e;have c1:=Gl hab;have c2:=Gj hle;rw[nV] at c1;omega
  ·exact h2 o ho (nJ.2 ⟨uy hle a1,e⟩)
 ·rintro⟨h1,h2⟩;rw[co] at h2;obtain⟨o,ho,hle⟩:=bw.1 (h.2 x h1);have e:o=x:=by
   by_cases e:o=x
   ·exact e
   ·exact absurd (nJ.2 ⟨hle,e⟩) (h2 o (h.1 o ho))
  subst e;refine⟨ho,?_⟩;rw[co];exact fun y hy=>h2 y (h.1 y hy)
theorem ac4(l:List Elem):Xc (aK l) l:=⟨fun _ h=>mQ h,fun y hy=>by rw[KP]; exact bw.2 ⟨y,hy,zq y⟩⟩
theorem ac5{O G:List Elem}{y:Elem}(h:Xc O G)(hy:O.any (fun x=>kL x y)=true):Xc O (G++[y]):=by
 refine⟨fun x hx=>List.mem_append_left _ (h.1 x hx),fun z hz=>?_⟩;rcases cH.1 hz with hz|hz
 ·exact h.2 z hz
 ·rw[bl.1 hz]; exact hy
theorem afa{O G:List Elem}{y:Elem}(hs:SS O)(h:Xc O G):Xc (og O y) (G++[y]):=by
 have hm:=(EX (e:=y) hs).2;refine⟨fun x hx=>?_,fun z hz=>?_⟩
 ·rcases(hm x).1 hx with rfl|hx
  ·exact List.mem_append_right _ (bl.2 rfl)
  ·exact List.mem_append_left _ (h.1 x hx)
 ·rcases cH.1 hz with hz|hz
  ·obtain⟨o,ho,hle⟩:=bw.1 (h.2 z hz);exact bw.2 ⟨o,(hm o).2 (.inr ho),hle⟩
  ·rw[bl.1 hz];exact bw.2 ⟨y,(hm y).2 (.inl rfl),zq y⟩
def Xd(p:aI)(b:List Elem):V:=bif b.any (fun x=>(jl p x).1 !=0) then .dQ [.row 3 false (.elems []),.bool false] else .dQ [.row 3 false (.elems (aK (gV p b b.length))),.bool (decide ((aK (gV p b b.length)).length<=100))]
theorem aaw{p:aI}{b:List Elem}:(Xd p b).free=true:=by
 unfold Xd;cases b.any (fun x=>(jl p x).1 !=0)<;>rfl
structure DT(p:aI)(b:List Elem)(i j:Nat)(O:List Elem):Prop where
 ss:SS O
 len:O.length<=b.length+i*100+j
 dom:Xc O (gV p b i++(jl p (b.getD i default)).2.take j)
theorem UZ{p:aI}{b:List Elem}{i:Nat}(hi:i<b.length){O:List Elem}(h:DT p b i (jl p (b.getD i default)).2.length O):DT p b (i+1) 0 O:=by
 have:=@DL p (b.getD i default);refine⟨h.ss,by have:=h.len; omega,?_⟩;have:=h.dom;rw[bp,<- FN hi] at this;rw[List.take_zero,cN]; exact this
theorem DT.fit{p:aI}{b:List Elem}{i j:Nat}{O:List Elem}(h:DT p b i j O)(hb:yD p b)(hi:j=0\/i<b.length):yD p O:=by
 intro x hx;rcases cH.1 (h.dom.1 x hx) with hx|hx
 ·exact wY hb x hx
 ·rcases hi with rfl|hi
  ·cases hx
  ·have hF:=hb (b.getD i default) (by rw[getD_some hi]; exact be hi);exact Nz hF (ND hF (cU hx))
theorem Js{α:Type}{l:List α}{j:Nat}{d:α}(h:j<l.length):l.take (j+1)=l.take j++[l.getD j d]:=by
 rw[bj h,getD_some h]
theorem DT.ins{p:aI}{b:List Elem}{i j:Nat}{O:List Elem}(h:DT p b i j O)(hj:j<(jl p (b.getD i default)).2.length):DT p b i (j+1) (og O ((jl p (b.getD i default)).2.getD j default)):=by
 refine⟨(EX h.ss).1,?_,?_⟩
 ·have h1:=h.len;have h2:=@Sr O ((jl p (b.getD i default)).2.getD j default);omega
 ·rw[Js (d:=default) hj,<- ax];exact afa h.ss h.dom
theorem DT.skip{p:aI}{b:List Elem}{i j:Nat}{O:List Elem}(h:DT p b i j O)(hj:j<(jl p (b.getD i default)).2.length)(hy:O.any (fun x=>kL x ((jl p (b.getD i default)).2.getD j default))=true):DT p b i (j+1) O:=by
 refine⟨h.ss,by have:=h.len; omega,?_⟩;rw[Js (d:=default) hj,<- ax];exact ac5 h.dom hy
theorem ak.ah1{b:Bool}{k:Nat}{h:Hz}:ak (.dQ [.row 3 false (.elems []),.bool b]) (.dQ [.row k true .nil,.bool b]) h:=⟨by
  show T.sub _ _ (.dQ [.sl 3 false [],(V.bool b).aH]) (.dQ [.sl k true [],(V.bool b).aH]);simp only[T.sub,T.dF]
  exact⟨⟨.inl trivial,.inr trivial,fun h=>by cases h⟩,aC _,trivial⟩⟩
theorem uz{p:aI}{l:List Elem}(h:yD p l):vM l:=fun x hx=>by
 have h1:=(h x hx).valid.states;have h2:=(h x hx).len;omega
set_option maxHeartbeats 2000000 in
theorem S.Ah(p:aI)(b:List Elem)(f:Bool)(hp:dU p)(hfit:yD p b)(hb:b.length<=1000)(ha: ∀ r∈p.rules,r.all=[]):aj Tryz.prog 36 [.dat (.fQ p),.row 3 f (.elems b)] (Xd p b):=by
 generalize hres:Xd p b=res;refine aj.of Bd.Ah (by simp) rfl (by rw[<- hres]; exact aaw) ?_;refine ah.agX rfl (by omega) (uz hfit) ?_;conv=>whnf
 have hg0:DT p b 0 0 (aK b):=⟨(bZ b).1,by have:=uI b; omega,by rw[List.take_zero,cN]; exact(by have:=ac4 b; unfold gV; simpa using this)⟩
 refine aA.objs 3 [1,2] (fun x:Nat×List Elem=>[(7,.int x.1),(6,.own 2)]) (fun x=>[(0,Ad p),(2,aZ x.2)]) (fun x=>x.1<=b.length/\DT p b x.1 0 x.2/\(b.take x.1).any (fun x=>(jl p x).1 !=0)=false) (fun x=>b.length-x.1) (0,aK b) [0,4] rfl (by decide) (fun _=>rfl) ⟨ab _,hg0,rfl⟩ (sR rfl) ⟨dA rfl rfl,dA rfl rfl,trivial⟩ ?_;refine⟨(sR rfl),rfl,?_⟩;rintro⟨i,O⟩ ⟨hi,hI,hno⟩;replace hi:i<=b.length:=hi;replace hI:DT p b i 0 O:=hI;replace hno:(b.take i).any (fun x=>(jl p x).1 !=0)=false:=hno;refine⟨fun h1=>?_,fun h1=>?_⟩
 ·have hi':i<b.length:=by simpa using h1
  have hmem:b.getD i default∈b:=by rw[getD_some hi']; exact be hi'
  have hFx:=hfit _ hmem;have hpre:=S.Ip p (b.getD i default) hp hFx ha;have hpl:=@DL p (b.getD i default);refine .mk (by first|(simp only[Rw.rng]; omega)|(simp only[Rw.rng]; omega)) ?_;refine ah.pure hpre rfl ?_;generalize hq:jl p (b.getD i default)=q at hpl;refine⟨fun h2=>?_,fun h2=>?_⟩
  ·replace h2:(q.1 !=0)=true:=h2;have hany:b.any (fun x=>(jl p x).1 !=0)=true:=bw.2 ⟨_,hmem,by rw[hq]; exact h2⟩;conv=>whnf
   rw[<- hres];unfold Xd;rw[hany];exact ak.ah1
  ·replace h2:(q.1 !=0)=false:=h2;refine aA.objs 3 [1,2] (fun x:Nat×List Elem=>[(10,.int x.1),(8,.row 3 false (.elems q.2)),(7,.int i),(6,.own 2)]) (fun x=>[(0,Ad p),(2,aZ x.2)]) (fun x=>x.1<=q.2.length/\DT p b i x.1 x.2) (fun x=>q.2.length-x.1) (0,O) [0,2] rfl (by decide) (fun _=>rfl) ⟨ab _,hI⟩ (sR rfl) ⟨dA rfl rfl,dA rfl rfl,trivial⟩ ?_;refine⟨(sR rfl),rfl,?_⟩;have aiL:=hno;clear hI hno;rintro⟨j,O⟩ ⟨hj,hI⟩;replace hj:j<=q.2.length:=hj;replace hI:DT p b i j O:=hI;have hOf:=hI.fit hfit (.inr hi');have hOs:=uz hOf;have hOl:=hI.len;refine⟨fun h3=>?_,fun h3=>?_⟩
   ·have hj':j<q.2.length:=by simpa using h3
    have hym:q.2.getD j default∈(jl p (b.getD i default)).2:=by rw[hq,getD_some hj']; exact be hj'
    have hyF:=Nz hFx (ND hFx hym);have hyl:(q.2.getD j default).counts.length<2^30:=by
     have h1:=hyF.valid.states;have h2:=hyF.len;omega
    refine .mk (by first|(simp only[Rw.rng]; omega)|(simp only[Rw.rng]; omega)) ?_;refine ah.lend (S.mP O (q.2.getD j default) false (by omega) hOs.e (by omega)) ⟨CG trivial rfl,aC _,trivial⟩ rfl rfl ?_;refine⟨fun h4=>?_,fun h4=>?_⟩
    ·have hin:=DT.ins hI (by rw[hq]; exact hj');rw[hq] at hin;refine .mk (by first|(simp only[Rw.rng]; omega)|(simp only[Rw.rng]; omega)) ?_;refine ah.insert (i:=2) rfl rfl (by show O.length<2^30; omega) hOs.e hyl (fun hf=>?_) (fun _=>?_)
     ·replace hf:y5 O (q.2.getD j default)=true:=hf;have hsm:og O (q.2.getD j default)=O:=by rw[og,bk hf]
      refine .mk (by simp only[okI] at *; omega) ?_;exact⟨(j+1,og O (q.2.getD j default)),[0,2],⟨hj',hin⟩,by show q.2.length-(j+1)<q.2.length-j; omega,(sR rfl),(sR rfl),dA rfl rfl,⟨rfl,nofun,rfl,rfl,rfl,_,rfl,rfl,rfl,dJ.of_eq (by show(aZ (og O (q.2.getD j default))).au.l=(aZ O).au.l; rw[hsm])⟩,trivial⟩
     ·conv=>whnf
      refine .mk (by simp only[okI] at *; omega) ?_;exact⟨(j+1,og O (q.2.getD j default)),[0,19],⟨hj',hin⟩,by show q.2.length-(j+1)<q.2.length-j; omega,(sR rfl),(sR rfl),dA rfl rfl,dA rfl rfl,trivial⟩
    ·have hsk:=DT.skip hI (by rw[hq]; exact hj') (by rw[hq]; simpa using h4);refine .mk (by simp only[okI] at *; omega) ?_;exact⟨(j+1,O),[0,2],⟨hj',hsk⟩,by show q.2.length-(j+1)<q.2.length-j; omega,(sR rfl),(sR rfl),dA rfl rfl,dA rfl rfl,trivial⟩
   ·have hj':j=q.2.length:=by have:=aL h3; omega
    subst hj';have hnx:=UZ hi' (by rw[hq]; exact hI);refine .mk (by simp only[okI] at *; omega) ?_;refine⟨(i+1,O),[0,2],⟨hi',hnx,?_⟩,by show b.length-(i+1)<b.length-i; omega,(sR rfl),(sR rfl),dA rfl rfl,dA rfl rfl,trivial⟩;show(b.take (i+1)).any _=false;rw[Js (d:=default) hi',dq,aiL,eJ,hq,h2]; rfl
 ·have hi':i=b.length:=by have:=aL h1; omega
  subst hi';rw[bp] at hno;have hM:aK O=aK (gV p b b.length):=by
   have:=hI.dom;rw[List.take_zero,cN] at this;exact ae9 this
  have hOs:=uz (hI.fit hfit (.inl rfl));have hOl:=hI.len;refine ah.shut (fun c=>c=2) (h2:=[]) trivial (S.kW O false (by omega) hOs) ⟨CG rfl rfl,trivial⟩ ?_;rw[<- Az,hM];conv=>whnf
  rw[<- hres];unfold Xd;rw[hno];have hdec:decide (((aK (gV p b b.length)).length:Int)<=100)=decide ((aK (gV p b b.length)).length<=100):=by rw[cK,ag,ag]; omega
  rw[hdec];exact ak.eqv rfl
def yN(p:aI)(q:Prop')(rounds:Int):Int×List Elem×Int×Bool:=bif cZ p q !=0 then(cZ p q,[],0,false) else bif decide (100<rounds) then(1,[],0,false) else match yF p q rounds with
 |none=>(4,[],0,false)
 |some (b,k,d)=>(0,b,k,d)
def ac6(x:Int×List Elem×Int×Bool):V:=.dQ [.agg [.int 0,.row 3 false (.elems x.2.1),.int 0,.int x.2.2.1],.bool x.2.2.2,.int x.1]
theorem ak.NK{h:Hz}{a c d e f:V}:ak (.dQ [.agg [a,.row 3 false (.elems []),c,d],e,f]) (.dQ [.agg [a,.row 0 true .nil,c,d],e,f]) h:=⟨by
 show T.sub (fun _=>True) h.ay (.dQ [.agg [a.aH,.sl 3 false [],c.aH,d.aH],e.aH,f.aH]) (.dQ [.agg [a.aH,.sl 0 true [],c.aH,d.aH],e.aH,f.aH]);simp only[T.sub,T.dF]
 exact⟨⟨aC _,⟨.inl trivial,.inr trivial,fun h=>by cases h⟩,aC _,aC _,trivial⟩,aC _,aC _,trivial⟩⟩
abbrev ah2:OV:=.box 38 5 (.agg [.int 0,.row 0 true .nil,.int 0,.int 0])
def NK(o:Option (List Elem×Nat×Bool)):V:=match o with
 |none=>ac6 (4,[],0,false)
 |some (b,k,d)=>ac6 (0,b,k,d)
set_option maxHeartbeats 4000000 in
theorem S.yA(p:aI)(q:Prop')(rounds:Int)(hp:dU p)(hq:jm q):aj Tryz.prog 15 [.dat (.fQ p),.dat (.prop q),.int rounds] (ac6 (yN p q rounds)):=by
 generalize hres:ac6 (yN p q rounds)=res;refine aj.of Bd.yA (by simp) rfl (by rw[<- hres]; rfl) ?_;refine ah.pure (S.zC p q hp hq) rfl ?_;refine⟨fun h1=>?_,fun h1=>?_⟩
 ·replace h1:(cZ p q !=0)=true:=h1;conv=>whnf
  rw[<- hres,yN,h1];exact ak.NK
 replace h1:(cZ p q !=0)=false:=h1;have hc:=BM h1;refine⟨fun h2=>?_,fun h2=>?_⟩
 ·replace h2:decide (100<rounds)=true:=h2;conv=>whnf
  rw[<- hres,yN,h1,h2];exact ak.NK
 replace h2:decide (100<rounds)=false:=h2;have hr:=aL h2;have hX:ac6 (yN p q rounds)=NK (yF p q rounds):=by
  rw[yN,h1,h2];cases yF p q rounds<;>rfl
 have hbf:=Rk hc;obtain⟨l1,l2⟩:=Cj p q hp;obtain⟨_,b2,b3,b4⟩:=Iw hc;have hv:=KX b3;have v1:=hv.pos; have v2:=hv.states; have v3:=hv.values;have hall:=(YE b4).2;have hbad:iR p q=lJ q p.states.length (max 1 p.values.length):=by rw[iR,h1]; rfl
 refine ah.pure (S.Gi p q p.states.length (max 1 p.values.length) hp hq rfl v1 v2 rfl (by omega) b2) rfl ?_;rw[<- hbad];refine⟨fun h3=>?_,fun h3=>?_⟩
 ·have h3':=ai h3;have hB:yF p q rounds=none:=by unfold yF; rw[cJ (by omega:100<(iR p q).length)]; rfl
  conv=>whnf
  rw[<- hres,hX,hB];exact ak.NK
 have h3':=aL h3;have hB:yF p q rounds=nP p rounds.toNat (iR p q) 0:=by unfold yF; rw[cF (by omega: ¬ 100<(iR p q).length)]; rfl
 rw[hX,hB] at hres;conv=>whnf
 rw[show max rounds 0=((rounds.toNat:Nat):Int) by omega];have hRb:rounds.toNat<=100:=by omega
 generalize rounds.toNat=R at hres hRb;refine aA.objs 3 [3,6] (fun x:Nat×List Elem=>[(11,.int x.1),(10,.row 3 false (.elems x.2)),(2,.int R)]) (fun _=>[(0,Ad p),(2,ah2)]) (fun x=>x.2.length<=100/\yD p x.2/\x.1<=R/\NK (nP p (R-x.1) x.2 x.1)=res) (fun x=>R-x.1) (0,iR p q) [0,2] rfl (by decide) (fun _=>rfl) ⟨by show(iR p q).length<=100; omega,hbf,ab _,hres⟩ (sR rfl) ⟨dA rfl rfl,dA rfl rfl,trivial⟩ ?_;refine⟨(sR rfl),rfl,?_⟩;clear hres hbf hX hB hbad;rintro⟨k,b⟩ ⟨hb,hfit,hk,hres⟩;replace hb:b.length<=100:=hb;replace hfit:yD p b:=hfit;replace hk:k<=R:=hk;replace hres:NK (nP p (R-k) b k)=res:=hres;have hgr:=S.Ah p b false hp hfit (by omega) hall;have hgE:growE p b=bif b.any (fun x=>(jl p x).1 !=0) then none else bif decide (100<(aK (gV p b b.length)).length) then none else some (aK (gV p b b.length)):=rfl;have hML:=uI (gV p b b.length);have hGL:=Jp (p:=p) (b:=b) (i:=b.length);have hMs:dS (aK (gV p b b.length)):=(uz (fun x hx=>wY hfit x (mQ hx))).e;have hbs:=(uz hfit).e;have hMf:yD p (aK (gV p b b.length)):=fun x hx=>wY hfit x (mQ hx)
 unfold Xd at hgr;generalize aK (gV p b b.length)=M at hgE hgr hML hMs hMf;refine⟨fun h4=>?_,fun h4=>?_⟩
 ·have hk':k<R:=by have:=ai h4; omega
  conv=>whnf
  cases hany:b.any (fun x=>(jl p x).1 !=0) with
  |true =>
   rw[hany,bS] at hgr hgE;refine ah.pure hgr rfl ?_;refine Fork.mk (fun _=>?_) (fun q=>absurd (q.symm.trans (rfl)) aq);conv=>whnf
   rw[<- hres,pI hgE];exact ak.NK
  |false =>
   rw[hany,bO] at hgr hgE;refine ah.pure hgr rfl ?_;refine⟨fun h5=>?_,fun h5=>?_⟩
   ·have h5':100<M.length:=by
     replace h5:(!(decide (M.length<=100)))=true:=h5;simpa using h5
    rw[cJ h5',bS] at hgE;conv=>whnf
    rw[<- hres,pI hgE];exact ak.NK
   have h5':M.length<=100:=by
    replace h5:(!(decide (M.length<=100)))=false:=h5;simpa using h5
   rw[cF (by omega: ¬ 100<M.length),bO] at hgE;refine ah.pure (S.uT M b false false (by omega) (by omega) hMs hbs) rfl ?_;refine⟨fun h6=>?_,fun h6=>?_⟩
   ·have h6':M=b:=ai h6;rw[h6'] at hgE;conv=>whnf
    rw[<- hres,FK hgE];exact ak.eqv rfl
   ·have h6':M≠b:=aL h6;rw[show R-k=(R-(k+1))+1 by omega,FM hgE h6'] at hres;refine .mk (by show okI ((k:Int)+1); simp only[okI]; omega) ?_;exact⟨(k+1,M),[0,2],⟨h5',hMf,hk',hres⟩,by show R-(k+1)<R-k; omega,(sR rfl),(sR rfl),dA rfl rfl,dA rfl rfl,trivial⟩
 ·have hk':k=R:=by have:=aL h4; omega
  subst hk';rw[fp] at hres;conv=>whnf
  cases hany:b.any (fun x=>(jl p x).1 !=0) with
  |true =>
   rw[hany,bS] at hgr hgE;refine ah.pure hgr rfl ?_;refine Fork.mk (fun _=>?_) (fun q=>absurd (q.symm.trans (rfl)) aq);conv=>whnf
   rw[<- hres,pI hgE];exact ak.NK
  |false =>
   rw[hany,bO] at hgr hgE;refine ah.pure hgr rfl ?_;refine⟨fun h5=>?_,fun h5=>?_⟩
   ·have h5':100<M.length:=by
     replace h5:(!(decide (M.length<=100)))=true:=h5;simpa using h5
    rw[cJ h5',bS] at hgE;conv=>whnf
    rw[<- hres,pI hgE];exact ak.NK
   have h5':M.length<=100:=by
    replace h5:(!(decide (M.length<=100)))=false:=h5;simpa using h5
   rw[cF (by omega: ¬ 100<M.length),bO] at hgE;refine ah.pure (S.uT M b false false (by omega) (by omega) hMs hbs) rfl ?_;conv=>whnf
   rw[<- hres];have hfin:nP p 0 b k=some (b,k,decide (M=b)):=by
    rw[nP,hgE]
   rw[hfin];exact ak.eqv rfl
abbrev ah3(a:Int)(b:List Elem)(c d:Int):OV:=.box 38 5 (.agg [.int a,.row 3 false (.elems b),.int c,.int d])
set_option maxHeartbeats 1000000 in
theorem S.wG(p:aI)(q:Prop')(rounds:Int)(hp:dU p)(hq:jm q):aj Tryz.prog 6 [.dat (.fQ p),.dat (.prop q),.int rounds] (ae3 (yE p q rounds)):=by
 have hX:yE p q rounds=bif (yN p q rounds).1 !=0 then((yN p q rounds).1,0,[],0,0) else bif (yN p q rounds).2.2.2 then(0,(Bj p q (yN p q rounds).2.1 (yN p q rounds).2.1.length).1,(yN p q rounds).2.1,(Bj p q (yN p q rounds).2.1 (yN p q rounds).2.1.length).2,(yN p q rounds).2.2.1) else(0,0,[],0,(yN p q rounds).2.2.1):=by
  unfold yE yN;cases hc:cZ p q !=0 with
  |true=>simp only[bS]; rw[hc]; rfl
  |false =>
   cases decide (100<rounds) with
   |true=>rfl
   |false =>
    cases yF p q rounds with
    |none=>rfl
    |some x=>obtain⟨b,k,d⟩:=x; cases d<;>rfl
 have ah4:(yN p q rounds).1=0->cZ p q=0/\yD p (yN p q rounds).2.1/\(yN p q rounds).2.1.length<=100:=by
  unfold yN;cases hc:cZ p q !=0 with
  |true=>intro h; replace h:cZ p q=0:=h; rw[h] at hc; cases hc
  |false =>
   cases decide (100<rounds) with
   |true=>intro h; exact absurd (show(1:Int)=0 from h) (by decide)
   |false =>
    cases hs:yF p q rounds with
    |none=>intro h; exact absurd (show(4:Int)=0 from h) (by decide)
    |some x=>obtain⟨b,k,d⟩:=x; intro _; exact⟨BM hc,KQ (BM hc) hs⟩
 rw[hX];have hS:=S.yA p q rounds hp hq;generalize yN p q rounds=X at hS ah4 ⊢;obtain⟨g,b,k,d⟩:=X;generalize hres:ae3 _=res;refine aj.of Bd.wG (by simp) rfl (by rw[<- hres]; rfl) ?_;refine ah.pure hS rfl ?_;refine⟨fun h1=>?_,fun h1=>?_⟩
 ·replace h1:(g !=0)=true:=h1;conv=>whnf
  rw[<- hres,show((g,b,k,d):Int×List Elem×Int×Bool).1=g from rfl,h1];exact ak.aac
 replace h1:(g !=0)=false:=h1;have hg:g=0:=BM h1;obtain⟨hc,hfit,hb⟩:=ah4 hg;replace hfit:yD p b:=hfit;replace hb:b.length<=100:=hb;subst hg;refine⟨fun h2=>?_,fun h2=>?_⟩
 ·have h2':d=false:=by
   replace h2:(!d)=true:=h2;simpa using h2
  subst h2';conv=>whnf
  rw[<- hres];exact ak.aac
 have h2':d=true:=by
  replace h2:(!d)=false:=h2;simpa using h2
 subst h2';refine aA.objs 4 [3,4,6] (fun i:Nat=>[(11,.int i),(8,.ptr 3 0 0)]) (fun i=>[(0,Ad p),(1,Oh q),(2,ah2),(3,ah3 (Bj p q b i).1 b (Bj p q b i).2 k)]) (fun i=>i<=b.length) (fun i=>b.length-i) 0 [0,1,2,12] rfl (by decide) (fun _=>rfl) (ab _) (sR rfl) ⟨dA rfl rfl,dA rfl rfl,dA rfl rfl,dA rfl rfl,trivial⟩ ?_;refine⟨(sR rfl),rfl,?_⟩;rintro i hi;refine⟨fun h3=>?_,fun h3=>?_⟩
 ·have hi':i<b.length:=by simpa using h3
  have hst:=P6 (p:=p) (q:=q) hi';have hF:=hfit (b.getD i default) (by rw[getD_some hi']; exact be hi');have hle:(b.getD i default).counts.length<2^30:=by have:=hF.len; have:=hF.valid.states; omega
  refine .mk (by first|(simp only[Rw.rng]; omega)|(simp only[Rw.rng]; omega)) ?_;refine ah.pure (S.Ai (b.getD i default) (by omega)) rfl ?_;refine .mk (by first|(simp only[Rw.rng]; omega)|(simp only[Rw.rng]; omega)) ?_;refine ah.pure (S.uU p q (b.getD i default) hp hq hle (Aq hc)) rfl ?_;generalize hS:Bj p q b i=s at hst;repeat(refine VC.mk (by first|exact id|exact fun h=>⟨h,h⟩|(intro h; simp_all; done)) ?_)
  refine⟨fun h4=>?_,fun h4=>?_⟩
  ·replace h4:(vW p q (b.getD i default)&&(s.1==1||decide (dL (b.getD i default)<s.2)))=true:=h4;have hst':Bj p q b (i+1)=(2,dL (b.getD i default)):=by rw[hst,Z9,h4]; rfl
   refine .mk (by simp only[okI] at *; omega) ?_;exact⟨i+1,[0,1,2,3],hi',by omega,(sR rfl),(sR rfl),dA rfl rfl,dA rfl rfl,dA rfl rfl,⟨rfl,nofun,rfl,rfl,rfl,_,rfl,rfl,rfl,dJ.of_eq (by rw[hst']; rfl)⟩,trivial⟩
  ·replace h4:(vW p q (b.getD i default)&&(s.1==1||decide (dL (b.getD i default)<s.2)))=false:=h4;have hst':Bj p q b (i+1)=s:=by rw[hst,Z9,h4]; rfl
   refine .mk (by simp only[okI] at *; omega) ?_;exact⟨i+1,[0,1,2,3],hi',by omega,(sR rfl),(sR rfl),dA rfl rfl,dA rfl rfl,dA rfl rfl,⟨rfl,nofun,rfl,rfl,rfl,_,rfl,rfl,rfl,dJ.of_eq (by rw[hst'])⟩,trivial⟩
 ·have hi':i=b.length:=by have:=aL h3; omega
  subst hi';conv=>whnf
  rw[<- hres];exact ak.eqv rfl
def cutV(x:Int×Int×List Elem×Int×Int):V:=bif x.1 !=0||x.2.1==0 then .dQ [.int 0,.int 0,.int x.1] else bif x.2.1==1 then .dQ [.int 1,.int 1,.int 0] else .dQ [.int x.2.2.2.1,.int 2,.int 0]
theorem P9{x:Int×Int×List Elem×Int×Int}:(cutV x).free=true:=by
 unfold cutV;cases x.1 !=0||x.2.1==0 with
 |true=>rfl
 |false=>cases x.2.1==1<;>rfl
theorem S.wZ(p:aI)(q:Prop')(rounds:Int)(hp:dU p)(hq:jm q):aj Tryz.prog 8 [.dat (.fQ p),.dat (.prop q),.int rounds] (cutV (yE p q rounds)):=by
 have hS:=S.wG p q rounds hp hq;generalize yE p q rounds=X at hS ⊢;generalize hres:cutV X=res;refine aj.of Bd.wZ (by simp) rfl (by rw[<- hres]; exact P9) ?_;refine ah.pure hS rfl ?_;repeat(refine VC.mk (by first|exact id|(intro h; rw[h]; rfl)) ?_)
 refine⟨fun h1=>?_,fun h1=>?_⟩
 ·replace h1:(X.1 !=0||X.2.1==0)=true:=h1;conv=>whnf
  rw[<- hres,cutV,h1];exact ak.eqv rfl
 replace h1:(X.1 !=0||X.2.1==0)=false:=h1;refine⟨fun h2=>?_,fun h2=>?_⟩
 ·replace h2:(X.2.1==1)=true:=h2;conv=>whnf
  rw[<- hres,cutV,h1,h2];exact ak.eqv rfl
 ·replace h2:(X.2.1==1)=false:=h2;conv=>whnf
  rw[<- hres,cutV,h1,h2];exact ak.eqv rfl
theorem S.sJ(p:aI)(q:Prop')(rounds:Int)(hp:dU p)(hq:jm q):aj Tryz.prog 7 [.dat (.fQ p),.dat (.prop q),.int rounds] (cutV (yE p q rounds)):=by
 have hS:=S.oQ p q rounds hp hq;generalize yE p q rounds=X at hS ⊢;generalize hres:cutV X=res;refine aj.of Bd.sJ (by simp) rfl (by rw[<- hres]; exact P9) ?_;refine ah.pure hS rfl ?_;repeat(refine VC.mk (by first|exact id|(intro h; rw[h]; rfl)) ?_)
 refine⟨fun h1=>?_,fun h1=>?_⟩
 ·replace h1:(X.1 !=0||X.2.1==0)=true:=h1;conv=>whnf
  rw[<- hres,cutV,h1];exact ak.eqv rfl
 replace h1:(X.1 !=0||X.2.1==0)=false:=h1;refine⟨fun h2=>?_,fun h2=>?_⟩
 ·replace h2:(X.2.1==1)=true:=h2;conv=>whnf
  rw[<- hres,cutV,h1,h2];exact ak.eqv rfl
 ·replace h2:(X.2.1==1)=false:=h2;conv=>whnf
  rw[<- hres,cutV,h1,h2];exact ak.eqv rfl
end Go.Proofs.YtbdbmfccbpfeoabGreatDoor
