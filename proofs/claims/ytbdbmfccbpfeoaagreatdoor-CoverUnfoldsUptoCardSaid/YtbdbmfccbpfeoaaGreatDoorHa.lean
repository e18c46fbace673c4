/-
 A part of the proof. No condition.
-/
import Derived.Test.YtbdbmfccbpfeoaaGreatDoorKa
import Derived.Test.YtbdbmfccbpfeoaaGreatDoorVa
namespace Go.Proofs.YtbdbmfccbpfeoaaGreatDoor
open Go.Ab Go.Proofs
set_option maxRecDepth 100000
theorem Xw(e:Elem):0<=dS e/\dS e<=6291456:=by
 unfold dS;split
 ·omega
 ·split
  ·rename_i h1 h2;have:=IE h2;omega
  ·omega
theorem S.tq(x y:Elem)(hx:x.counts.length<2^40)(hy:y.counts.length<2^40):aj Tryz.prog 109 [.dat (.elem x),.dat (.elem y)] (.int (dS x-dS y)):=by
 have h1:=Xw x;have h2:=Xw y;refine aj.of Bd.qW (by simp) rfl rfl ?_;refine ah.pure (S.oL x hx) rfl ?_;refine ah.pure (S.oL y hy) rfl ?_;refine .mk (by simp only[okI] at *; omega) ?_;exact ak.int rfl
def iU(l:List Elem):Prop:=l.Pairwise fun x y=>dS x<=dS y
theorem set_mid{α:Type}{P Q:List α}{x z:α}:(P++x::Q).set P.length z=P++z::Q:=by
 rw[f9 _ _ (bO _),fe,eO]
theorem ad2{α:Type}{P Q:List α}{x d:α}:(P++x::Q).getD P.length d=x:=by
 rw[ag,ci (bO _),fe]; rfl
theorem wG{α:Type}{P Q:List α}{x z:α}{k:Nat}(h:k=P.length):(P++x::Q).set k z=P++z::Q:=by subst h; exact set_mid
theorem get_at{α:Type}{P Q:List α}{x d:α}{k:Nat}(h:k=P.length):(P++x::Q).getD k d=x:=by subst h; exact ad2
def swp(A X M Y B:List Elem)(i:Nat):List Elem:=A++(Y.take i++(X.drop i++(M++(X.take i++(Y.drop i++B)))))
theorem ad3{A X M Y B:List Elem}{i:Nat}(h:X.length=Y.length):(swp A X M Y B i).length=A.length+X.length+M.length+Y.length+B.length:=by
 simp[swp]; omega
theorem aaW{A X M Y B:List Elem}{i:Nat}(h:X.length=Y.length)(hi:i<X.length){d:Elem} :
  ((swp A X M Y B i).set (A.length+i) ((swp A X M Y B i).getD (A.length+X.length+M.length+i) d)).set (A.length+X.length+M.length+i) ((swp A X M Y B i).getD (A.length+i) d)=swp A X M Y B (i+1):=by
 have hx:=dh d hi;have hy:=dh d (show i<Y.length by omega);have tx:X.take (i+1)=X.take i++[X.getD i d]:=by rw[cJ]; simp[hi]
 have ty:Y.take (i+1)=Y.take i++[Y.getD i d]:=by rw[cJ]; simp[show i<Y.length by omega]
 have e0:swp A X M Y B i=(A++Y.take i)++X.getD i d::((X.drop (i+1)++(M++X.take i))++Y.getD i d::(Y.drop (i+1)++B)):=by
  rw[swp,hx,hy]; simp
 have e1:swp A X M Y B i=((A++Y.take i)++X.getD i d::(X.drop (i+1)++(M++X.take i)))++Y.getD i d::(Y.drop (i+1)++B):=by
  rw[e0]; simp
 have l0:A.length+i=(A++Y.take i).length:=by simp; omega
 have l1:A.length+X.length+M.length+i=((A++Y.take i)++X.getD i d::(X.drop (i+1)++(M++X.take i))).length:=by simp; omega
 have g1:(swp A X M Y B i).getD (A.length+X.length+M.length+i) d=Y.getD i d:=by rw[e1]; exact get_at l1
 have g0:(swp A X M Y B i).getD (A.length+i) d=X.getD i d:=by rw[e0]; exact get_at l0
 rw[g0,g1,e0,wG l0];have e2:(A++Y.take i)++Y.getD i d::((X.drop (i+1)++(M++X.take i))++Y.getD i d::(Y.drop (i+1)++B))=((A++Y.take i)++Y.getD i d::(X.drop (i+1)++(M++X.take i)))++Y.getD i d::(Y.drop (i+1)++B):=by simp
 rw[e2,wG (by rw[l1]; simp),swp,tx,ty];simp
theorem aaX{A X M Y B:List Elem}:swp A X M Y B 0=A++(X++(M++(Y++B))):=by simp[swp]
theorem swp_all{A X M Y B:List Elem}(h:X.length=Y.length):swp A X M Y B X.length=A++(Y++(M++(X++B))):=by
 simp only[swp];rw[bk (by omega:Y.length<=X.length),cD (bO _),bk (bO _),cD (by omega:Y.length<=X.length)];simp
abbrev fnT:V:=.fn 109 []
theorem S.swapRange(A X M Y B:List Elem)(a b k:Int)(n:Nat)(h:X.length=Y.length)(ha:a=A.length)(hb:b=A.length+X.length+M.length)(hk:k=X.length)(hl:A.length+X.length+M.length+Y.length+B.length<2^40) :
  aO Tryz.prog 169 (V.aQ [.own 0,.int a,.int b,.int k,fnT]) (h1 (A++(X++(M++(Y++B))))).au n (fun t hp=>t= .bU []/\hp=(h1 (A++(Y++(M++(X++B))))).au):=by
 subst ha; subst hb; subst hk;rw[<- aaX,<- swp_all h];refine og.of (nx:=1) Bd.gB (by simp) ⟨_,_,rfl,rfl⟩ rfl rfl ?_;refine aF.objs 1 [0,1,2,3] (fun i:Nat=>[(10,.int i)]) (fun i=>[(0,bT (swp A X M Y B i))]) (fun i=>i<=X.length) (fun i=>X.length-i) 0 [0] rfl (by decide) (fun _=>rfl) (ap _) ?_ ?_ ?_
 ·exact(sR rfl)
 ·exact⟨gK rfl rfl,trivial⟩
 refine⟨(sR rfl),rfl,?_⟩;rintro i hi;have hL:=ad3 (A:=A) (M:=M) (B:=B) (i:=i) h;refine⟨fun h3=>?_,fun h3=>?_⟩
 ·have hi':i<X.length:=by simpa using h3
  have hst:=aaW (A:=A) (M:=M) (B:=B) (d:=default) h hi';have e1:((A.length:Int)+i).toNat=A.length+i:=by omega
  have e2:((A.length:Int)+X.length+M.length+i).toNat=A.length+X.length+M.length+i:=by omega
  repeat(refine VC.mk (by first|(simp only[okI]; omega)|(show(0:Int)<=_/\_<((swp A X M Y B i).length:Int); rw[hL]; omega)|(simp only[Rw.rng,co,hL]; omega)) ?_)
  refine⟨i+1,[0],by omega,by omega,(sR rfl),(sR rfl),⟨rfl,(fun _=>rfl),rfl,rfl,rfl,_,rfl,rfl,rfl,dH.of_eq ?_⟩,trivial⟩;rw[e1,e2,hst]
 ·have hi':i=X.length:=by
   have: ¬ ((i:Int)<(X.length:Int)):=aR h3
   omega
  subst hi';exact gG.one (c:=0) (j:=0) (o:=bT (swp A X M Y B X.length)) (t:=.bU []) rfl rfl rfl (fun _=>rfl) (.inl rfl) trivial (.eq rfl) ⟨rfl,rfl⟩
structure Vx where
 A:List Elem
 X:List Elem
 Y:List Elem
 B:List Elem
def Vx.row(s:Vx):List Elem:=s.A++(s.X++(s.Y++s.B))
theorem S.rotate(A U D B:List Elem)(a m b:Int)(n:Nat)(hU:0<U.length)(hV:0<D.length)(ha:a=A.length)(hm:m=A.length+U.length)(hb:b=A.length+U.length+D.length)(hl:A.length+U.length+D.length+B.length<2^40) :
  aO Tryz.prog 167 (V.aQ [.own 0,.int a,.int m,.int b,fnT]) (h1 (A++(U++(D++B)))).au n (fun t hp=>t= .bU []/\hp=(h1 (A++(D++(U++B)))).au):=by
 subst ha; subst hm; subst hb;refine og.of (nx:=1) Bd.iH (by simp) ⟨_,_,rfl,rfl⟩ rfl rfl ?_;repeat(refine VC.mk (by simp only[okI] at *; omega) ?_)
 refine aF.objs 1 [0,1,2,3,4] (fun s:Vx=>[(10,.int s.X.length),(11,.int s.Y.length)]) (fun s=>[(0,bT s.row)]) (fun s=>0<s.X.length/\0<s.Y.length/\s.A.length+s.X.length=A.length+U.length/\s.A.length+s.X.length+s.Y.length+s.B.length=A.length+U.length+D.length+B.length/\s.A++(s.Y++(s.X++s.B))=A++(D++(U++B))) (fun s=>s.X.length+s.Y.length) ⟨A,U,D,B⟩ [0] rfl (by decide) (fun _=>rfl) ⟨hU,hV,rfl,rfl,rfl⟩ ?_ ?_ ?_
 ·refine⟨⟨_,rfl,.eq ?_⟩,⟨_,rfl,.eq ?_⟩,trivial⟩
  ·show T.int (U.length:Int)=T.int (((A.length:Int)+U.length)-A.length)
   congr 2; omega
  ·show T.int (D.length:Int)=T.int (((A.length:Int)+U.length+D.length)-((A.length:Int)+U.length))
   congr 2; omega
 ·exact⟨gK rfl rfl,trivial⟩
 refine⟨(sR rfl),rfl,?_⟩;rintro⟨A',X,Y,B'⟩ ⟨i1,i2,i3,i4,i5⟩;simp only at i1 i2 i3 i4 i5;refine⟨fun h3=>?_,fun h3=>?_⟩
 ·have hne:X.length≠Y.length:=by
   have:(X.length:Int)≠(Y.length:Int):=by simpa using h3
   omega
  refine⟨fun h4=>?_,fun h4=>?_⟩
  ·have hgt:Y.length<X.length:=by
    have:(Y.length:Int)<(X.length:Int):=aq h4
    omega
   have hX:X=X.take Y.length++X.drop Y.length:=(bx _ _).symm;have l1:(X.take Y.length).length=Y.length:=by simp; omega
   have l2:(X.drop Y.length).length=X.length-Y.length:=by simp
   generalize X.take Y.length=X1 at hX l1;generalize X.drop Y.length=X2 at hX l2;subst hX;refine .mk (by simp only[okI] at *; omega) ?_;refine ah.pY (S.swapRange A' X1 X2 Y B' _ _ _ _ l1 (by simp only[aL] at *; omega) (by simp only[aL] at *; omega) (by dsimp only; omega) (by simp only[aL] at *; omega)) (by simp only[Vx.row,ax]; rfl) ?_;rintro t hp ⟨rfl,rfl⟩;refine⟨.bU [],h1 _,rfl,rfl,?_⟩;refine .mk (by simp only[okI] at *; omega) ?_;refine⟨⟨A'++Y,X2,X1,B'⟩,[0],⟨?_,?_,?_,?_,?_⟩,?_,⟨⟨_,rfl,.eq ?_⟩,⟨_,rfl,.eq ?_⟩,trivial⟩,(sR rfl),⟨rfl,(fun _=>rfl),rfl,rfl,rfl,_,rfl,rfl,rfl,dH.of_eq ?_⟩,trivial⟩
   ·show 0<X2.length; simp only[aL] at *; omega
   ·show 0<X1.length; omega
   ·show(A'++Y).length+X2.length=_; simp only[aL] at *; omega
   ·show(A'++Y).length+X2.length+X1.length+B'.length=_; simp only[aL] at *; omega
   ·show(A'++Y)++(X1++(X2++B'))=_; rw[<- i5]; simp
   ·show X2.length+X1.length<(X1++X2).length+Y.length; simp only[aL] at *; omega
   ·show T.int (X2.length:Int)=T.int (((X1++X2).length:Int)-Y.length); congr 2; simp only[aL] at *; omega
   ·show T.int (X1.length:Int)=T.int (Y.length:Int); rw[l1]
   ·simp only[Vx.row,ax]
  ·have hlt:X.length<Y.length:=by
    have: ¬ (Y.length:Int)<(X.length:Int):=aR h4
    omega
   have hY:Y=Y.take (Y.length-X.length)++Y.drop (Y.length-X.length):=(bx _ _).symm;have l1:(Y.take (Y.length-X.length)).length=Y.length-X.length:=by simp
   have l2:(Y.drop (Y.length-X.length)).length=X.length:=by simp; omega
   generalize Y.take (Y.length-X.length)=Y1 at hY l1;generalize Y.drop (Y.length-X.length)=Y2 at hY l2;subst hY;repeat(refine VC.mk (by simp only[okI] at *; omega) ?_)
   refine ah.pY (S.swapRange A' X Y1 Y2 B' _ _ _ _ l2.symm (by simp only[aL] at *; omega) (by simp only[aL] at *; omega) rfl (by simp only[aL] at *; omega)) (by simp only[Vx.row,ax]; rfl) ?_;rintro t hp ⟨rfl,rfl⟩;refine⟨.bU [],h1 _,rfl,rfl,?_⟩;refine .mk (by simp only[okI] at *; omega) ?_;refine⟨⟨A',Y2,Y1,X++B'⟩,[0],⟨?_,?_,?_,?_,?_⟩,?_,⟨⟨_,rfl,.eq ?_⟩,⟨_,rfl,.eq ?_⟩,trivial⟩,(sR rfl),⟨rfl,(fun _=>rfl),rfl,rfl,rfl,_,rfl,rfl,rfl,dH.of_eq ?_⟩,trivial⟩
   ·show 0<Y2.length; omega
   ·show 0<Y1.length; simp only[aL] at *; omega
   ·show A'.length+Y2.length=_; omega
   ·show A'.length+Y2.length+Y1.length+(X++B').length=_; simp only[aL] at *; omega
   ·show A'++(Y1++(Y2++(X++B')))=_; rw[<- i5]; simp
   ·show Y2.length+Y1.length<X.length+(Y1++Y2).length; simp only[aL] at *; omega
   ·show T.int (Y2.length:Int)=T.int (X.length:Int); rw[l2]
   ·show T.int (Y1.length:Int)=T.int (((Y1++Y2).length:Int)-X.length); congr 2; simp only[aL] at *; omega
   ·simp only[Vx.row]
 ·have heq:X.length=Y.length:=by
   have:(X.length:Int)=(Y.length:Int):=by simpa using h3
   omega
  refine .mk (by simp only[okI] at *; omega) ?_;refine ah.pY (S.swapRange A' X [] Y B' _ _ _ _ heq (by dsimp only; omega) (by simp only[bw]; omega) rfl (by simp only[bw]; omega)) rfl ?_;rintro t hp ⟨rfl,rfl⟩;refine⟨.bU [],h1 _,rfl,rfl,?_⟩;refine gG.one (c:=0) (j:=0) (o:=bT (A'++(Y++([]++(X++B'))))) (t:=.bU []) rfl rfl rfl (fun _=>rfl) (.inl rfl) trivial (.eq rfl) ⟨rfl,?_⟩;rw[<- i5]; rfl
theorem eG.perm{l l':List Elem}(h:eG l)(p:l'.Perm l):eG l':=fun e he=>h e (p.mem_iff.1 he)
structure ahS where
 S:List Elem
 R:List Elem
theorem Le{α:Type}: ∀ {l:List α},0<l.length-> ∃ l' y,l=l'++[y]:=by
 intro l h;rcases List.eq_nil_or_concat l with e|⟨l',y,e⟩
 ·subst e; cases h
 ·exact⟨l',y,by simpa using e⟩
theorem ad4{P Q:List Elem}{x:Elem}(h:iU (P++Q))(h1: ∀ q∈Q,dS x<dS q)(h2: ∀ P' y,P=P'++[y]->dS y<=dS x):iU (P++(x::Q)):=by
 simp only[iU,ek,dT] at h ⊢;refine⟨h.1,⟨fun q hq=>by have:=h1 q hq; omega,h.2.1⟩,fun p hp y hy=>?_⟩;rcases bm.1 hy with rfl|hy
 ·rcases Nat.eq_zero_or_pos P.length with e|e
  ·rw[fp] at e; subst e; cases hp
  ·obtain⟨P',z,rfl⟩:=Le e;have hz:=h2 P' z rfl;rcases cN.1 hp with hp|hp
   ·have:=(ek.1 h.1).2.2 p hp z (by simp);omega
   ·rw[bt] at hp; subst hp; exact hz
 ·exact h.2.2 p hp y hy
theorem S.insertion(A U B:List Elem)(a b:Int)(n:Nat)(ha:a=A.length)(hb:b=A.length+U.length)(hl:A.length+U.length+B.length<2^40)(hs:eG (A++(U++B))) :
  aO Tryz.prog 119 (V.aQ [.own 0,.int a,.int b,fnT]) (h1 (A++(U++B))).au n (fun t hp=> ∃ W,W.Perm U/\iU W/\t= .bU []/\hp=(h1 (A++(W++B))).au):=by
 subst ha; subst hb;refine og.of (nx:=1) Bd.dI (by simp) ?_ rfl rfl ?_
 ·exact⟨_,_,U.mergeSort (fun x y=>decide (dS x<=dS y)),List.mergeSort_perm _ _,by
   have:=List.pairwise_mergeSort (le:=fun x y:Elem=>decide (dS x<=dS y)) (fun a b c h1 h2=>by simp only[ab] at *; omega) (fun a b=>by simp only[cS,ab]; omega) U
   exact this.imp (fun h=>aq h),rfl,rfl⟩
 refine .mk (by simp only[okI] at *; first|omega|(simp_all; omega)) ?_;refine aF.objs 1 [0,1,2,3] (fun s:ahS=>[(8,.int (A.length+max 1 s.S.length:Nat))]) (fun s=>[(0,bT (A++(s.S++(s.R++B))))]) (fun s=>(s.S++s.R).Perm U/\iU s.S/\(1<=s.S.length\/U=[])) (fun s=>s.R.length) ⟨U.take 1,U.drop 1⟩ [0] rfl (by decide) (fun _=>rfl) ⟨by rw[bx],?_,?_⟩ ?_ ?_ ?_
 ·rcases U with _|⟨u,U⟩<;>simp[iU]
 ·rcases U with _|⟨u,U⟩<;>simp
 ·refine⟨⟨_,rfl,.eq ?_⟩,trivial⟩;show T.int ((A.length+max 1 (U.take 1).length:Nat):Int)=T.int ((A.length:Int)+1);rw[bL,show max 1 (min 1 U.length)=1 by omega]; rfl
 ·refine⟨⟨rfl,(fun _=>rfl),rfl,rfl,rfl,_,rfl,rfl,rfl,dH.of_eq ?_⟩,trivial⟩;show(bT (A++(U.take 1++(U.drop 1++B)))).ay.l=_;rw[<- ax (U.take 1),bx]
 refine⟨(sR rfl),rfl,?_⟩;rintro⟨S,R⟩ ⟨i1,i2,i3⟩;simp only at i1 i2 i3;have hlen:S.length+R.length=U.length:=by rw[<- aL]; exact i1.length_eq
 refine⟨fun h3=>?_,fun h3=>?_⟩
 ·have hlt:max 1 S.length<U.length:=by
   have:((A.length+max 1 S.length:Nat):Int)<(A.length:Int)+U.length:=aq h3
   omega
  have hS1:1<=S.length:=by
   rcases i3 with i3|i3
   ·exact i3
   ·subst i3; simp at hlt
  have hm:max 1 S.length=S.length:=by omega
  obtain⟨x,R',rfl⟩: ∃ x R',R=x::R':=by
   rcases R with _|⟨x,R'⟩
   ·simp at hlen; omega
   ·exact⟨x,R',rfl⟩
  simp only[bN] at hlen;rw[hm];refine aF.objs 1 [0,1,2,3,8] (fun s:ahS=>[(9,.int (A.length+s.S.length:Nat))]) (fun s=>[(0,bT (A++(s.S++(x::(s.R++(R'++B))))))]) (fun s=>s.S++s.R=S/\ ∀ q∈s.R,dS x<dS q) (fun s=>s.S.length) ⟨S,[]⟩ [0] rfl (by decide) (fun _=>rfl) ⟨by simp,by simp⟩ ?_ ?_ ?_
  ·exact(sR rfl)
  ·exact⟨gK rfl rfl,trivial⟩
  refine⟨(sR rfl),rfl,?_⟩;rintro⟨P,Q⟩ ⟨j1,j2⟩;simp only at j1 j2;subst j1;dsimp only;simp only[aL] at hlen hS1;have hperm:(A++(P++(x::(Q++(R'++B))))).Perm (A++(U++B)):=by
   refine dp _ ?_;have e1:(P++(x::(Q++(R'++B)))).Perm (((P++Q)++(x::R'))++B):=by
    simp only[ax,cw];exact dp _ List.perm_middle.symm
   exact e1.trans (i1.append_right B)
  have hsm:=hs.perm hperm;have hL:(A++(P++(x::(Q++(R'++B))))).length=A.length+U.length+B.length:=by rw[hperm.length_eq]; simp; omega
  have gx: ∀ {k:Nat},k=A.length+P.length->(A++(P++(x::(Q++(R'++B))))).getD k default=x:=fun {k} hk=>by
   rw[<- ax]; exact get_at (by rw[hk]; simp)
  have e1:(((A.length+P.length:Nat):Int)).toNat=A.length+P.length:=rfl;have e2:(((A.length+P.length:Nat):Int)-1).toNat=A.length+P.length-1:=by omega
  repeat(refine VC.mk (by first|(intro h; simp only[h,gH]; done)|(intro h; (repeat' apply And.intro)<;>first|exact h|omega|(simp only[Rw.sH]; omega)|(simp only[Rw.rng]; omega))|(simp only[Rw.rng] at *; first|omega|(simp_all; omega))) ?_)
  refine ah.eY (fun _=>S.tq _ _ (hsm.get _) (hsm.get _)) rfl ?_;repeat(refine VC.mk id ?_)
  refine⟨fun h4=>?_,fun h4=>?_⟩
  ·rw[aD] at h4;have hP:0<P.length:=by
    have:=aq h4.1;omega
   obtain⟨P',y,rfl⟩:=Le hP;have gy: ∀ {k:Nat},k=A.length+P'.length->(A++(P'++[y]++(x::(Q++(R'++B))))).getD k default=y:=fun {k} hk=>by
    rw[show A++(P'++[y]++(x::(Q++(R'++B))))=(A++P')++(y::(x::(Q++(R'++B)))) by simp];exact get_at (by rw[hk]; simp)
   have hlt2:=aq h4.2;rw[e1,e2,gx rfl,gy (by simp)] at hlt2;repeat(refine VC.mk (by first|(simp only[okI]; omega)|(show(0:Int)<=_/\_<((A++(P'++[y]++(x::(Q++(R'++B))))).length:Int); rw[hL]; simp only[aL,bN,bw] at *; omega)|(simp only[Rw.rng,co,hL]; simp only[aL,bN,bw] at *; omega)) ?_)
   refine⟨⟨P',y::Q⟩,[0],⟨by simp,fun q hq=>?_⟩,?_,⟨⟨_,rfl,.eq ?_⟩,trivial⟩,(sR rfl),⟨rfl,(fun _=>rfl),rfl,rfl,rfl,_,rfl,rfl,rfl,dH.of_eq ?_⟩,trivial⟩
   ·rcases bm.1 hq with rfl|hq
    ·omega
    ·exact j2 q hq
   ·show P'.length<(P'++[y]).length; simp
   ·show T.int ((A.length+P'.length:Nat):Int)=T.int (((A.length+(P'++[y]).length:Nat):Int)-1)
    congr 2; simp; omega
   ·rw[e1,e2,gx rfl,gy (by simp)];have s1:(A++(P'++[y]++(x::(Q++(R'++B))))).set (A.length+(P'++[y]).length) y=(A++P')++(y::(y::(Q++(R'++B)))):=by
     rw[show A++(P'++[y]++(x::(Q++(R'++B))))=(A++(P'++[y]))++(x::(Q++(R'++B))) by simp,wG (by simp)];simp
    show(bT (A++(P'++(x::(y::Q++(R'++B)))))).ay.l=(bT (((A++(P'++[y]++(x::(Q++(R'++B))))).set (A.length+(P'++[y]).length) y).set (A.length+(P'++[y]).length-1) x)).ay.l;rw[s1,wG (by simp)];simp
  ·have hst:=ad4 (P:=P) (Q:=Q) (x:=x) i2 j2 (fun P' y e=>by
    subst e;have gy: ∀ {k:Nat},k=A.length+P'.length->(A++(P'++[y]++(x::(Q++(R'++B))))).getD k default=y:=fun {k} hk=>by
     rw[show A++(P'++[y]++(x::(Q++(R'++B))))=(A++P')++(y::(x::(Q++(R'++B)))) by simp];exact get_at (by rw[hk]; simp)
    rw[cC] at h4;rcases h4 with h4|h4
    ·have:=aR h4;simp only[aL,bN,bw] at this;omega
    ·have:=aR h4;rw[e1,e2,gx rfl,gy (by simp)] at this
     omega)
   refine .mk (by simp only[okI] at *; first|omega|(simp_all; omega)) ?_;refine⟨⟨P++(x::Q),R'⟩,[0],⟨?_,hst,.inl (by simp; omega)⟩,by simp,⟨⟨_,rfl,.eq ?_⟩,trivial⟩,(sR rfl),⟨rfl,(fun _=>rfl),rfl,rfl,rfl,_,rfl,rfl,rfl,dH.of_eq ?_⟩,trivial⟩
   ·have e1:(P++(x::Q)++R').Perm ((P++Q)++(x::R')):=by
     simp only[ax,cw];exact dp _ List.perm_middle.symm
    exact e1.trans i1
   ·show T.int ((A.length+max 1 (P++(x::Q)).length:Nat):Int)=T.int (((A.length+(P++Q).length:Nat):Int)+1)
    congr 2; simp; omega
   ·show(bT (A++((P++(x::Q))++(R'++B)))).ay.l=_;simp
 ·have hR:R=[]:=by
   have: ¬ ((A.length+max 1 S.length:Nat):Int)<(A.length:Int)+U.length:=aR h3
   rcases R with _|⟨x,R'⟩
   ·rfl
   ·exfalso;simp only[bN] at hlen;rcases i3 with i3|i3
    ·omega
    ·subst i3; simp at hlen
  subst hR;exact gG.one (c:=0) (j:=0) (o:=bT (A++(S++([]++B)))) (t:=.bU []) rfl rfl rfl (fun _=>rfl) (.inl rfl) trivial (.eq rfl) ⟨S,by simpa using i1,i2,rfl,rfl⟩
end Go.Proofs.YtbdbmfccbpfeoaaGreatDoor
