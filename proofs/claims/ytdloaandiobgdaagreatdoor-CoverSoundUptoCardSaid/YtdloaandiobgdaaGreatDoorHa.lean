/-
 A part of the proof. No condition.
-/
import Derived.Test.YtdloaandiobgdaaGreatDoorKa
import Derived.Test.YtdloaandiobgdaaGreatDoorVa
namespace Go.Proofs.YtdloaandiobgdaaGreatDoor
open Go.Ab Go.Proofs
set_option maxRecDepth 100000
theorem ZJ(e:Elem):0<=fH e/\fH e<=6291456:=by
 unfold fH;split
 ·omega
 ·split
  ·rename_i h1 h2;have:=KG h2;omega
  ·omega
theorem S.vY(x y:Elem)(hx:x.counts.length<2^40)(hy:y.counts.length<2^40):ak Tryz.prog 52 [.dat (.elem x),.dat (.elem y)] (.int (fH x-fH y)):=by
 have h1:=ZJ x;have h2:=ZJ y;refine ak.of Bd.mW (by simp) rfl rfl ?_;refine ah.pure (S.oh x hx) rfl ?_;refine ah.pure (S.oh y hy) rfl ?_;refine .mk (by simp only[okI] at *; omega) ?_;exact ay.int rfl
def jY(l:List Elem):Prop:=l.Pairwise fun x y=>fH x<=fH y
theorem set_mid{α:Type}{P Q:List α}{x z:α}:(P++x::Q).set P.length z=P++z::Q:=by
 rw[ga _ _ (ba _),eN,eV]
theorem agZ{α:Type}{P Q:List α}{x d:α}:(P++x::Q).getD P.length d=x:=by
 rw[ab,ck (ba _),eN]; rfl
theorem yC{α:Type}{P Q:List α}{x z:α}{k:Nat}(h:k=P.length):(P++x::Q).set k z=P++z::Q:=by subst h; exact set_mid
theorem get_at{α:Type}{P Q:List α}{x d:α}{k:Nat}(h:k=P.length):(P++x::Q).getD k d=x:=by subst h; exact agZ
def swp(A X M Y B:List Elem)(i:Nat):List Elem:=A++(Y.take i++(X.drop i++(M++(X.take i++(Y.drop i++B)))))
theorem ag0{A X M Y B:List Elem}{i:Nat}(h:X.length=Y.length):(swp A X M Y B i).length=A.length+X.length+M.length+Y.length+B.length:=by
 simp[swp]; omega
theorem adI{A X M Y B:List Elem}{i:Nat}(h:X.length=Y.length)(hi:i<X.length){d:Elem} :
  ((swp A X M Y B i).set (A.length+i) ((swp A X M Y B i).getD (A.length+X.length+M.length+i) d)).set (A.length+X.length+M.length+i) ((swp A X M Y B i).getD (A.length+i) d)=swp A X M Y B (i+1):=by
 have hx:=dO d hi;have hy:=dO d (show i<Y.length by omega);have tx:X.take (i+1)=X.take i++[X.getD i d]:=by rw[cQ]; simp[hi]
 have ty:Y.take (i+1)=Y.take i++[Y.getD i d]:=by rw[cQ]; simp[show i<Y.length by omega]
 have e0:swp A X M Y B i=(A++Y.take i)++X.getD i d::((X.drop (i+1)++(M++X.take i))++Y.getD i d::(Y.drop (i+1)++B)):=by
  rw[swp,hx,hy]; simp
 have e1:swp A X M Y B i=((A++Y.take i)++X.getD i d::(X.drop (i+1)++(M++X.take i)))++Y.getD i d::(Y.drop (i+1)++B):=by
  rw[e0]; simp
 have l0:A.length+i=(A++Y.take i).length:=by simp; omega
 have l1:A.length+X.length+M.length+i=((A++Y.take i)++X.getD i d::(X.drop (i+1)++(M++X.take i))).length:=by simp; omega
 have g1:(swp A X M Y B i).getD (A.length+X.length+M.length+i) d=Y.getD i d:=by rw[e1]; exact get_at l1
 have g0:(swp A X M Y B i).getD (A.length+i) d=X.getD i d:=by rw[e0]; exact get_at l0
 rw[g0,g1,e0,yC l0];have e2:(A++Y.take i)++Y.getD i d::((X.drop (i+1)++(M++X.take i))++Y.getD i d::(Y.drop (i+1)++B))=((A++Y.take i)++Y.getD i d::(X.drop (i+1)++(M++X.take i)))++Y.getD i d::(Y.drop (i+1)++B):=by simp
 rw[e2,yC (by rw[l1]; simp),swp,tx,ty];simp
theorem adJ{A X M Y B:List Elem}:swp A X M Y B 0=A++(X++(M++(Y++B))):=by simp[swp]
theorem swp_all{A X M Y B:List Elem}(h:X.length=Y.length):swp A X M Y B X.length=A++(Y++(M++(X++B))):=by
 simp only[swp];rw[bm (by omega:Y.length<=X.length),cJ (ba _),bm (ba _),cJ (by omega:Y.length<=X.length)];simp
abbrev fnT:V:=.fn 52 []
theorem S.swapRange(A X M Y B:List Elem)(a b k:Int)(n:Nat)(h:X.length=Y.length)(ha:a=A.length)(hb:b=A.length+X.length+M.length)(hk:k=X.length)(hl:A.length+X.length+M.length+Y.length+B.length<2^40) :
  aP Tryz.prog 169 (V.aS [.own 0,.int a,.int b,.int k,fnT]) (h1 (A++(X++(M++(Y++B))))).aj n (fun t hp=>t= .dD []/\hp=(h1 (A++(Y++(M++(X++B))))).aj):=by
 subst ha; subst hb; subst hk;rw[<- adJ,<- swp_all h];refine nT.of (nx:=1) Bd.dM (by simp) ⟨_,_,rfl,rfl⟩ rfl rfl ?_;refine aG.objs 1 [0,1,2,3] (fun i:Nat=>[(10,.int i)]) (fun i=>[(0,dX (swp A X M Y B i))]) (fun i=>i<=X.length) (fun i=>X.length-i) 0 [0] rfl (by decide) (fun _=>rfl) (ao _) ?_ ?_ ?_
 ·exact(sR rfl)
 ·exact⟨mV rfl rfl,trivial⟩
 refine⟨(sR rfl),rfl,?_⟩;rintro i hi;have hL:=ag0 (A:=A) (M:=M) (B:=B) (i:=i) h;refine⟨fun h3=>?_,fun h3=>?_⟩
 ·have hi':i<X.length:=by simpa using h3
  have hst:=adI (A:=A) (M:=M) (B:=B) (d:=default) h hi';have e1:((A.length:Int)+i).toNat=A.length+i:=by omega
  have e2:((A.length:Int)+X.length+M.length+i).toNat=A.length+X.length+M.length+i:=by omega
  repeat(refine VC.mk (by first|(simp only[okI]; omega)|(show(0:Int)<=_/\_<((swp A X M Y B i).length:Int); rw[hL]; omega)|(simp only[Rw.rng,dv,hL]; omega)) ?_)
  refine⟨i+1,[0],by omega,by omega,(sR rfl),(sR rfl),⟨rfl,(fun _=>rfl),rfl,rfl,rfl,_,rfl,rfl,rfl,dB.of_eq ?_⟩,trivial⟩;rw[e1,e2,hst]
 ·have hi':i=X.length:=by
   have: ¬ ((i:Int)<(X.length:Int)):=aM h3
   omega
  subst hi';exact gq.one (c:=0) (j:=0) (o:=dX (swp A X M Y B X.length)) (t:=.dD []) rfl rfl rfl (fun _=>rfl) (.inl rfl) trivial (.eq rfl) ⟨rfl,rfl⟩
structure X9 where
 A:List Elem
 X:List Elem
 Y:List Elem
 B:List Elem
def X9.row(s:X9):List Elem:=s.A++(s.X++(s.Y++s.B))
theorem S.rotate(A U D B:List Elem)(a m b:Int)(n:Nat)(hU:0<U.length)(hV:0<D.length)(ha:a=A.length)(hm:m=A.length+U.length)(hb:b=A.length+U.length+D.length)(hl:A.length+U.length+D.length+B.length<2^40) :
  aP Tryz.prog 147 (V.aS [.own 0,.int a,.int m,.int b,fnT]) (h1 (A++(U++(D++B)))).aj n (fun t hp=>t= .dD []/\hp=(h1 (A++(D++(U++B)))).aj):=by
 subst ha; subst hm; subst hb;refine nT.of (nx:=1) Bd.eP (by simp) ⟨_,_,rfl,rfl⟩ rfl rfl ?_;repeat(refine VC.mk (by simp only[okI] at *; omega) ?_)
 refine aG.objs 1 [0,1,2,3,4] (fun s:X9=>[(10,.int s.X.length),(11,.int s.Y.length)]) (fun s=>[(0,dX s.row)]) (fun s=>0<s.X.length/\0<s.Y.length/\s.A.length+s.X.length=A.length+U.length/\s.A.length+s.X.length+s.Y.length+s.B.length=A.length+U.length+D.length+B.length/\s.A++(s.Y++(s.X++s.B))=A++(D++(U++B))) (fun s=>s.X.length+s.Y.length) ⟨A,U,D,B⟩ [0] rfl (by decide) (fun _=>rfl) ⟨hU,hV,rfl,rfl,rfl⟩ ?_ ?_ ?_
 ·refine⟨⟨_,rfl,.eq ?_⟩,⟨_,rfl,.eq ?_⟩,trivial⟩
  ·show T.int (U.length:Int)=T.int (((A.length:Int)+U.length)-A.length)
   congr 2; omega
  ·show T.int (D.length:Int)=T.int (((A.length:Int)+U.length+D.length)-((A.length:Int)+U.length))
   congr 2; omega
 ·exact⟨mV rfl rfl,trivial⟩
 refine⟨(sR rfl),rfl,?_⟩;rintro⟨A',X,Y,B'⟩ ⟨i1,i2,i3,i4,i5⟩;simp only at i1 i2 i3 i4 i5;refine⟨fun h3=>?_,fun h3=>?_⟩
 ·have hne:X.length≠Y.length:=by
   have:(X.length:Int)≠(Y.length:Int):=by simpa using h3
   omega
  refine⟨fun h4=>?_,fun h4=>?_⟩
  ·have hgt:Y.length<X.length:=by
    have:(Y.length:Int)<(X.length:Int):=ag h4
    omega
   have hX:X=X.take Y.length++X.drop Y.length:=(cK _ _).symm;have l1:(X.take Y.length).length=Y.length:=by simp; omega
   have l2:(X.drop Y.length).length=X.length-Y.length:=by simp
   generalize X.take Y.length=X1 at hX l1;generalize X.drop Y.length=X2 at hX l2;subst hX;refine .mk (by simp only[okI] at *; omega) ?_;refine ah.sZ (S.swapRange A' X1 X2 Y B' _ _ _ _ l1 (by simp only[aL] at *; omega) (by simp only[aL] at *; omega) (by dsimp only; omega) (by simp only[aL] at *; omega)) (by simp only[X9.row,bO]; rfl) ?_;rintro t hp ⟨rfl,rfl⟩;refine⟨.dD [],h1 _,rfl,rfl,?_⟩;refine .mk (by simp only[okI] at *; omega) ?_;refine⟨⟨A'++Y,X2,X1,B'⟩,[0],⟨?_,?_,?_,?_,?_⟩,?_,⟨⟨_,rfl,.eq ?_⟩,⟨_,rfl,.eq ?_⟩,trivial⟩,(sR rfl),⟨rfl,(fun _=>rfl),rfl,rfl,rfl,_,rfl,rfl,rfl,dB.of_eq ?_⟩,trivial⟩
   ·show 0<X2.length; simp only[aL] at *; omega
   ·show 0<X1.length; omega
   ·show(A'++Y).length+X2.length=_; simp only[aL] at *; omega
   ·show(A'++Y).length+X2.length+X1.length+B'.length=_; simp only[aL] at *; omega
   ·show(A'++Y)++(X1++(X2++B'))=_; rw[<- i5]; simp
   ·show X2.length+X1.length<(X1++X2).length+Y.length; simp only[aL] at *; omega
   ·show T.int (X2.length:Int)=T.int (((X1++X2).length:Int)-Y.length); congr 2; simp only[aL] at *; omega
   ·show T.int (X1.length:Int)=T.int (Y.length:Int); rw[l1]
   ·simp only[X9.row,bO]
  ·have hlt:X.length<Y.length:=by
    have: ¬ (Y.length:Int)<(X.length:Int):=aM h4
    omega
   have hY:Y=Y.take (Y.length-X.length)++Y.drop (Y.length-X.length):=(cK _ _).symm;have l1:(Y.take (Y.length-X.length)).length=Y.length-X.length:=by simp
   have l2:(Y.drop (Y.length-X.length)).length=X.length:=by simp; omega
   generalize Y.take (Y.length-X.length)=Y1 at hY l1;generalize Y.drop (Y.length-X.length)=Y2 at hY l2;subst hY;repeat(refine VC.mk (by simp only[okI] at *; omega) ?_)
   refine ah.sZ (S.swapRange A' X Y1 Y2 B' _ _ _ _ l2.symm (by simp only[aL] at *; omega) (by simp only[aL] at *; omega) rfl (by simp only[aL] at *; omega)) (by simp only[X9.row,bO]; rfl) ?_;rintro t hp ⟨rfl,rfl⟩;refine⟨.dD [],h1 _,rfl,rfl,?_⟩;refine .mk (by simp only[okI] at *; omega) ?_;refine⟨⟨A',Y2,Y1,X++B'⟩,[0],⟨?_,?_,?_,?_,?_⟩,?_,⟨⟨_,rfl,.eq ?_⟩,⟨_,rfl,.eq ?_⟩,trivial⟩,(sR rfl),⟨rfl,(fun _=>rfl),rfl,rfl,rfl,_,rfl,rfl,rfl,dB.of_eq ?_⟩,trivial⟩
   ·show 0<Y2.length; omega
   ·show 0<Y1.length; simp only[aL] at *; omega
   ·show A'.length+Y2.length=_; omega
   ·show A'.length+Y2.length+Y1.length+(X++B').length=_; simp only[aL] at *; omega
   ·show A'++(Y1++(Y2++(X++B')))=_; rw[<- i5]; simp
   ·show Y2.length+Y1.length<X.length+(Y1++Y2).length; simp only[aL] at *; omega
   ·show T.int (Y2.length:Int)=T.int (X.length:Int); rw[l2]
   ·show T.int (Y1.length:Int)=T.int (((Y1++Y2).length:Int)-X.length); congr 2; simp only[aL] at *; omega
   ·simp only[X9.row]
 ·have heq:X.length=Y.length:=by
   have:(X.length:Int)=(Y.length:Int):=by simpa using h3
   omega
  refine .mk (by simp only[okI] at *; omega) ?_;refine ah.sZ (S.swapRange A' X [] Y B' _ _ _ _ heq (by dsimp only; omega) (by simp only[cC]; omega) rfl (by simp only[cC]; omega)) rfl ?_;rintro t hp ⟨rfl,rfl⟩;refine⟨.dD [],h1 _,rfl,rfl,?_⟩;refine gq.one (c:=0) (j:=0) (o:=dX (A'++(Y++([]++(X++B'))))) (t:=.dD []) rfl rfl rfl (fun _=>rfl) (.inl rfl) trivial (.eq rfl) ⟨rfl,?_⟩;rw[<- i5]; rfl
theorem gI.perm{l l':List Elem}(h:gI l)(p:l'.Perm l):gI l':=fun e he=>h e (p.mem_iff.1 he)
structure alE where
 S:List Elem
 R:List Elem
theorem Og{α:Type}: ∀ {l:List α},0<l.length-> ∃ l' y,l=l'++[y]:=by
 intro l h;rcases List.eq_nil_or_concat l with e|⟨l',y,e⟩
 ·subst e; cases h
 ·exact⟨l',y,by simpa using e⟩
theorem ag1{P Q:List Elem}{x:Elem}(h:jY (P++Q))(h1: ∀ q∈Q,fH x<fH q)(h2: ∀ P' y,P=P'++[y]->fH y<=fH x):jY (P++(x::Q)):=by
 simp only[jY,fx,dp] at h ⊢;refine⟨h.1,⟨fun q hq=>by have:=h1 q hq; omega,h.2.1⟩,fun p hp y hy=>?_⟩;rcases bv.1 hy with rfl|hy
 ·rcases Nat.eq_zero_or_pos P.length with e|e
  ·rw[gE] at e; subst e; cases hp
  ·obtain⟨P',z,rfl⟩:=Og e;have hz:=h2 P' z rfl;rcases ci.1 hp with hp|hp
   ·have:=(fx.1 h.1).2.2 p hp z (by simp);omega
   ·rw[br] at hp; subst hp; exact hz
 ·exact h.2.2 p hp y hy
theorem S.insertion(A U B:List Elem)(a b:Int)(n:Nat)(ha:a=A.length)(hb:b=A.length+U.length)(hl:A.length+U.length+B.length<2^40)(hs:gI (A++(U++B))) :
  aP Tryz.prog 118 (V.aS [.own 0,.int a,.int b,fnT]) (h1 (A++(U++B))).aj n (fun t hp=> ∃ W,W.Perm U/\jY W/\t= .dD []/\hp=(h1 (A++(W++B))).aj):=by
 subst ha; subst hb;refine nT.of (nx:=1) Bd.bH (by simp) ?_ rfl rfl ?_
 ·exact⟨_,_,U.mergeSort (fun x y=>decide (fH x<=fH y)),List.mergeSort_perm _ _,by
   have:=List.pairwise_mergeSort (le:=fun x y:Elem=>decide (fH x<=fH y)) (fun a b c h1 h2=>by simp only[aq] at *; omega) (fun a b=>by simp only[cY,aq]; omega) U
   exact this.imp (fun h=>ag h),rfl,rfl⟩
 refine .mk (by simp only[okI] at *; first|omega|(simp_all; omega)) ?_;refine aG.objs 1 [0,1,2,3] (fun s:alE=>[(8,.int (A.length+max 1 s.S.length:Nat))]) (fun s=>[(0,dX (A++(s.S++(s.R++B))))]) (fun s=>(s.S++s.R).Perm U/\jY s.S/\(1<=s.S.length\/U=[])) (fun s=>s.R.length) ⟨U.take 1,U.drop 1⟩ [0] rfl (by decide) (fun _=>rfl) ⟨by rw[cK],?_,?_⟩ ?_ ?_ ?_
 ·rcases U with _|⟨u,U⟩<;>simp[jY]
 ·rcases U with _|⟨u,U⟩<;>simp
 ·refine⟨⟨_,rfl,.eq ?_⟩,trivial⟩;show T.int ((A.length+max 1 (U.take 1).length:Nat):Int)=T.int ((A.length:Int)+1);rw[bR,show max 1 (min 1 U.length)=1 by omega]; rfl
 ·refine⟨⟨rfl,(fun _=>rfl),rfl,rfl,rfl,_,rfl,rfl,rfl,dB.of_eq ?_⟩,trivial⟩;show(dX (A++(U.take 1++(U.drop 1++B)))).au.l=_;rw[<- bO (U.take 1),cK]
 refine⟨(sR rfl),rfl,?_⟩;rintro⟨S,R⟩ ⟨i1,i2,i3⟩;simp only at i1 i2 i3;have hlen:S.length+R.length=U.length:=by rw[<- aL]; exact i1.length_eq
 refine⟨fun h3=>?_,fun h3=>?_⟩
 ·have hlt:max 1 S.length<U.length:=by
   have:((A.length+max 1 S.length:Nat):Int)<(A.length:Int)+U.length:=ag h3
   omega
  have hS1:1<=S.length:=by
   rcases i3 with i3|i3
   ·exact i3
   ·subst i3; simp at hlt
  have hm:max 1 S.length=S.length:=by omega
  obtain⟨x,R',rfl⟩: ∃ x R',R=x::R':=by
   rcases R with _|⟨x,R'⟩
   ·simp at hlen; omega
   ·exact⟨x,R',rfl⟩
  simp only[bX] at hlen;rw[hm];refine aG.objs 1 [0,1,2,3,8] (fun s:alE=>[(9,.int (A.length+s.S.length:Nat))]) (fun s=>[(0,dX (A++(s.S++(x::(s.R++(R'++B))))))]) (fun s=>s.S++s.R=S/\ ∀ q∈s.R,fH x<fH q) (fun s=>s.S.length) ⟨S,[]⟩ [0] rfl (by decide) (fun _=>rfl) ⟨by simp,by simp⟩ ?_ ?_ ?_
  ·exact(sR rfl)
  ·exact⟨mV rfl rfl,trivial⟩
  refine⟨(sR rfl),rfl,?_⟩;rintro⟨P,Q⟩ ⟨j1,j2⟩;simp only at j1 j2;subst j1;dsimp only;simp only[aL] at hlen hS1;have hperm:(A++(P++(x::(Q++(R'++B))))).Perm (A++(U++B)):=by
   refine dz _ ?_;have e1:(P++(x::(Q++(R'++B)))).Perm (((P++Q)++(x::R'))++B):=by
    simp only[bO,cj];exact dz _ List.perm_middle.symm
   exact e1.trans (i1.append_right B)
  have hsm:=hs.perm hperm;have hL:(A++(P++(x::(Q++(R'++B))))).length=A.length+U.length+B.length:=by rw[hperm.length_eq]; simp; omega
  have gx: ∀ {k:Nat},k=A.length+P.length->(A++(P++(x::(Q++(R'++B))))).getD k default=x:=fun {k} hk=>by
   rw[<- bO]; exact get_at (by rw[hk]; simp)
  have e1:(((A.length+P.length:Nat):Int)).toNat=A.length+P.length:=rfl;have e2:(((A.length+P.length:Nat):Int)-1).toNat=A.length+P.length-1:=by omega
  repeat(refine VC.mk (by first|(intro h; simp only[h,iA]; done)|(intro h; (repeat' apply And.intro)<;>first|exact h|omega|(simp only[Rw.vT]; omega)|(simp only[Rw.rng]; omega))|(simp only[Rw.rng] at *; first|omega|(simp_all; omega))) ?_)
  refine ah.iJ (fun _=>S.vY _ _ (hsm.get _) (hsm.get _)) rfl ?_;repeat(refine VC.mk id ?_)
  refine⟨fun h4=>?_,fun h4=>?_⟩
  ·rw[aD] at h4;have hP:0<P.length:=by
    have:=ag h4.1;omega
   obtain⟨P',y,rfl⟩:=Og hP;have gy: ∀ {k:Nat},k=A.length+P'.length->(A++(P'++[y]++(x::(Q++(R'++B))))).getD k default=y:=fun {k} hk=>by
    rw[show A++(P'++[y]++(x::(Q++(R'++B))))=(A++P')++(y::(x::(Q++(R'++B)))) by simp];exact get_at (by rw[hk]; simp)
   have hlt2:=ag h4.2;rw[e1,e2,gx rfl,gy (by simp)] at hlt2;repeat(refine VC.mk (by first|(simp only[okI]; omega)|(show(0:Int)<=_/\_<((A++(P'++[y]++(x::(Q++(R'++B))))).length:Int); rw[hL]; simp only[aL,bX,cC] at *; omega)|(simp only[Rw.rng,dv,hL]; simp only[aL,bX,cC] at *; omega)) ?_)
   refine⟨⟨P',y::Q⟩,[0],⟨by simp,fun q hq=>?_⟩,?_,⟨⟨_,rfl,.eq ?_⟩,trivial⟩,(sR rfl),⟨rfl,(fun _=>rfl),rfl,rfl,rfl,_,rfl,rfl,rfl,dB.of_eq ?_⟩,trivial⟩
   ·rcases bv.1 hq with rfl|hq
    ·omega
    ·exact j2 q hq
   ·show P'.length<(P'++[y]).length; simp
   ·show T.int ((A.length+P'.length:Nat):Int)=T.int (((A.length+(P'++[y]).length:Nat):Int)-1)
    congr 2; simp; omega
   ·rw[e1,e2,gx rfl,gy (by simp)];have s1:(A++(P'++[y]++(x::(Q++(R'++B))))).set (A.length+(P'++[y]).length) y=(A++P')++(y::(y::(Q++(R'++B)))):=by
     rw[show A++(P'++[y]++(x::(Q++(R'++B))))=(A++(P'++[y]))++(x::(Q++(R'++B))) by simp,yC (by simp)];simp
    show(dX (A++(P'++(x::(y::Q++(R'++B)))))).au.l=(dX (((A++(P'++[y]++(x::(Q++(R'++B))))).set (A.length+(P'++[y]).length) y).set (A.length+(P'++[y]).length-1) x)).au.l;rw[s1,yC (by simp)];simp
  ·have hst:=ag1 (P:=P) (Q:=Q) (x:=x) i2 j2 (fun P' y e=>by
    subst e;have gy: ∀ {k:Nat},k=A.length+P'.length->(A++(P'++[y]++(x::(Q++(R'++B))))).getD k default=y:=fun {k} hk=>by
     rw[show A++(P'++[y]++(x::(Q++(R'++B))))=(A++P')++(y::(x::(Q++(R'++B)))) by simp];exact get_at (by rw[hk]; simp)
    rw[cH] at h4;rcases h4 with h4|h4
    ·have:=aM h4;simp only[aL,bX,cC] at this;omega
    ·have:=aM h4;rw[e1,e2,gx rfl,gy (by simp)] at this
     omega)
   refine .mk (by simp only[okI] at *; first|omega|(simp_all; omega)) ?_;refine⟨⟨P++(x::Q),R'⟩,[0],⟨?_,hst,.inl (by simp; omega)⟩,by simp,⟨⟨_,rfl,.eq ?_⟩,trivial⟩,(sR rfl),⟨rfl,(fun _=>rfl),rfl,rfl,rfl,_,rfl,rfl,rfl,dB.of_eq ?_⟩,trivial⟩
   ·have e1:(P++(x::Q)++R').Perm ((P++Q)++(x::R')):=by
     simp only[bO,cj];exact dz _ List.perm_middle.symm
    exact e1.trans i1
   ·show T.int ((A.length+max 1 (P++(x::Q)).length:Nat):Int)=T.int (((A.length+(P++Q).length:Nat):Int)+1)
    congr 2; simp; omega
   ·show(dX (A++((P++(x::Q))++(R'++B)))).au.l=_;simp
 ·have hR:R=[]:=by
   have: ¬ ((A.length+max 1 S.length:Nat):Int)<(A.length:Int)+U.length:=aM h3
   rcases R with _|⟨x,R'⟩
   ·rfl
   ·exfalso;simp only[bX] at hlen;rcases i3 with i3|i3
    ·omega
    ·subst i3; simp at hlen
  subst hR;exact gq.one (c:=0) (j:=0) (o:=dX (A++(S++([]++B)))) (t:=.dD []) rfl rfl rfl (fun _=>rfl) (.inl rfl) trivial (.eq rfl) ⟨S,by simpa using i1,i2,rfl,rfl⟩
end Go.Proofs.YtdloaandiobgdaaGreatDoor
