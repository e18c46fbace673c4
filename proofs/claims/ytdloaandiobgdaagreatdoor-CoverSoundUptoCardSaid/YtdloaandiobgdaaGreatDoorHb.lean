/-
 A part of the proof. No condition.
-/
import Derived.Test.YtdloaandiobgdaaGreatDoorHa
import Derived.Test.YtdloaandiobgdaaGreatDoorFa
namespace Go.Proofs.YtdloaandiobgdaaGreatDoor
open Go.Ab Go.Proofs
set_option maxRecDepth 100000
theorem zx(l:List Elem): ∃ W,W.Perm l/\jY W:=⟨l.mergeSort (fun x y=>decide (fH x<=fH y)),List.mergeSort_perm _ _,by
 have:=List.pairwise_mergeSort (le:=fun x y:Elem=>decide (fH x<=fH y)) (fun a b c h1 h2=>by simp only[aq] at *; omega) (fun a b=>by simp only[cY,aq]; omega) l
 exact this.imp (fun h=>ag h)⟩
theorem yK{l:List Elem}(h:jY l){i j:Nat}(hij:i<=j)(hj:j<l.length):fH (l.getD i default)<=fH (l.getD j default):=by
 rcases eR i j with hlt|hge
 ·have:=List.pairwise_iff_getElem.1 h i j (by omega) hj hlt;simpa [show i<l.length by omega,hj] using this
 ·rw[show i=j by omega]; exact fp _
theorem EK{l:List Elem}{k:Nat}{x:Elem}(h:x∈l.take k): ∃ i,i<k/\i<l.length/\x=l.getD i default:=by
 rw[fW] at h;obtain⟨i,hi,rfl⟩:=h;exact⟨i,by omega,by omega,by simp[show i<l.length by omega]⟩
theorem BR{l:List Elem}{k:Nat}{x:Elem}(h:x∈l.drop k): ∃ i,k<=i/\i<l.length/\x=l.getD i default:=by
 rw[List.mem_drop_iff_getElem] at h;obtain⟨i,hi,rfl⟩:=h;exact⟨k+i,by omega,by omega,by simp[show k+i<l.length by omega]⟩
theorem ZK{l:List Elem}{x:Elem}{p:Nat}(h:jY l)(hp:p<=l.length)(h1:p=0\/fH (l.getD (p-1) default)<=fH x)(h2:p=l.length\/fH x<=fH (l.getD p default)):jY (l.take p++(x::l.drop p)):=by
 have a1: ∀ y∈l.take p,fH y<=fH x:=fun y hy=>by
  obtain⟨i,e1,e2,rfl⟩:=EK hy;rcases h1 with h1|h1
  ·omega
  ·have:=yK h (i:=i) (j:=p-1) (by omega) (by omega); omega
 have a2: ∀ y∈l.drop p,fH x<=fH y:=fun y hy=>by
  obtain⟨i,e1,e2,rfl⟩:=BR hy;rcases h2 with h2|h2
  ·omega
  ·have:=yK h (i:=p) (j:=i) e1 e2; omega
 simp only[jY,fx,dp];refine⟨dq (ge _ _) h,⟨a2,dq (gg _ _) h⟩,fun y hy z hz=>?_⟩;rcases bv.1 hz with rfl|hz
 ·exact a1 y hy
 ·have:=a1 y hy; have:=a2 z hz; omega
theorem Vq{l:List Elem}{x:Elem}{p:Nat}:(l.take p++(x::l.drop p)).Perm (x::l):=by
 refine List.perm_middle.trans ?_;rw[cK]
theorem Nr{P Q R:List Elem}{k i:Nat}(hi:i<Q.length)(hk:k=P.length+i):(P++(Q++R)).getD k default=Q.getD i default:=by
 subst hk;rw[ab,ck (by omega),show P.length+i-P.length=i by omega,co hi,ab]
structure alF where
 p:Nat
 q:Nat
theorem S.abo(A:List Elem)(x:Elem)(D B:List Elem)(n:Nat)(hD:0<D.length)(sD:jY D)(hl:A.length+1+D.length+B.length<2^40)(hs:gI (A++([x]++(D++B)))) :
  aP Tryz.prog 119 (V.aS [.own 0,.int A.length,.int (A.length+1:Nat),.int (A.length+1+D.length:Nat),fnT]) (h1 (A++([x]++(D++B)))).aj n (fun t hp=> ∃ W,W.Perm ([x]++D)/\jY W/\t= .dD []/\hp=(h1 (A++(W++B))).aj):=by
 have gx: ∀ {k:Nat},k=A.length->(A++([x]++(D++B))).getD k default=x:=fun {k} hk=>get_at hk
 have gd: ∀ {k i:Nat},i<D.length->k=A.length+1+i->(A++([x]++(D++B))).getD k default=D.getD i default:=fun {k i} hi hk=>by
  rw[<- bO]; exact Nr hi (by rw[hk]; simp)
 have hL:(A++([x]++(D++B))).length=A.length+1+D.length+B.length:=by simp; omega
 obtain⟨W0,w1,w2⟩:=zx ([x]++D);refine nT.of (nx:=1) Bd.bJ (by simp) ⟨_,_,W0,w1,w2,rfl,rfl⟩ rfl rfl ?_;refine .mk (by simp only[okI] at *; omega) ?_;refine Fork.mk (fun _=>?_) (fun q=>absurd (q.symm.trans ((by simp only[bt]; omega))) aR);refine aG.same [0,1,2,3,4] (fun s:alF=>[(10,.int (A.length+1+s.p:Nat)),(11,.int (A.length+1+s.q:Nat))]) (fun s=>s.p<=s.q/\s.q<=D.length/\(s.p=0\/fH (D.getD (s.p-1) default)<fH x)/\(s.q=D.length\/fH x<=fH (D.getD s.q default))) (fun s=>s.q-s.p) ⟨0,D.length⟩ rfl (by decide) rfl (fun _=>rfl) ⟨ao _,ba _,.inl rfl,.inl rfl⟩ ⟨⟨_,rfl,rfl⟩,⟨_,rfl,rfl⟩,trivial⟩ ?_;refine⟨rfl,?_⟩;rintro⟨p,q⟩ ⟨i1,i2,i3,i4⟩;simp only at i1 i2 i3 i4;dsimp only;refine⟨fun h3=>?_,fun h3=>?_⟩
 ·have hpq:p<q:=by
   have:=ag h3; omega
  have hc:Qv (((A.length+1+p:Nat):Int)+((A.length+1+q:Nat):Int)) 1=((A.length+1+(p+q) / 2:Nat):Int):=by rw[EL]; omega
  repeat(refine VC.mk (by first|(simp only[okI]; omega)|omega|(simp only[Rw.rng,hL]; omega)) ?_)
  rw[hc];refine ah.pure (S.vY _ _ (hs.get _) (hs.get _)) rfl ?_;conv=>whnf
  have e1:(((A.length+1+(p+q) / 2:Nat):Int)).toNat=A.length+1+(p+q) / 2:=rfl;have e2:((A.length:Int)).toNat=A.length:=rfl;refine⟨fun h4=>?_,fun h4=>?_⟩
  ·have h5:=ag h4;rw[e1,e2,gx rfl,gd (show(p+q) / 2<D.length by omega) rfl] at h5;refine .mk (by first|(simp only[okI]; omega)|omega) ?_;refine⟨⟨(p+q) / 2+1,q⟩,⟨by show(p+q) / 2+1<=q; omega,i2,.inr ?_,i4⟩,by show q-((p+q) / 2+1)<q-p; omega,⟨⟨_,rfl,?_⟩,⟨_,rfl,rfl⟩,trivial⟩,?_,rfl⟩
   ·show fH (D.getD ((p+q) / 2+1-1) default)<fH x;rw[Nat.add_sub_cancel]; omega
   ·show T.int ((A.length+1+((p+q) / 2+1):Nat):Int)=T.int (((A.length+1+(p+q) / 2:Nat):Int)+1)
    congr 2
   ·repeat' (first|exact trivial|exact⟨_,rfl,rfl⟩|constructor)
  ·have h5:=aM h4;rw[e1,e2,gx rfl,gd (show(p+q) / 2<D.length by omega) rfl] at h5;refine⟨⟨p,(p+q) / 2⟩,⟨by show p<=(p+q) / 2; omega,by show(p+q) / 2<=D.length; omega,i3,.inr ?_⟩,by show(p+q) / 2-p<q-p; omega,⟨⟨_,rfl,rfl⟩,⟨_,rfl,rfl⟩,trivial⟩,?_,rfl⟩
   ·show fH x<=fH (D.getD ((p+q) / 2) default); omega
   ·repeat' (first|exact trivial|exact⟨_,rfl,rfl⟩|constructor)
 ·have hpq:p=q:=by
   have:=aM h3; omega
  subst hpq;have hst:=ZK (x:=x) sD i2 (by rcases i3 with i3|i3; exact .inl i3; exact .inr (by omega)) i4;refine aG.objs 1 [0,1,2,3,4,10] (fun c:Nat=>[(13,.int (A.length+c:Nat))]) (fun c=>[(0,dX (A++(D.take c++(x::(D.drop c++B)))))]) (fun c=>c<=p) (fun c=>p-c) 0 [0] rfl (by decide) (fun _=>rfl) (ao _) ?_ ?_ ?_
  ·exact(sR rfl)
  ·exact⟨mV rfl rfl,trivial⟩
  refine⟨(sR rfl),rfl,?_⟩;rintro c hc;have hLc:(A++(D.take c++(x::(D.drop c++B)))).length=A.length+1+D.length+B.length:=by simp; omega
  refine .mk (by first|(simp only[okI]; omega)|omega) ?_;refine⟨fun h5=>?_,fun h5=>?_⟩
  ·have hcp:c<p:=by
    have:=ag h5; omega
   have hcd:c<D.length:=by omega
   have hd:=dO default hcd;have ht:D.take (c+1)=D.take c++[D.getD c default]:=by rw[cQ]; simp[hcd]
   have r0:A++(D.take c++(x::(D.drop c++B)))=(A++D.take c)++(x::(D.getD c default::(D.drop (c+1)++B))):=by rw[hd]; simp
   have l0:A.length+c=(A++D.take c).length:=by simp; omega
   have e1:(((A.length+c:Nat):Int)).toNat=A.length+c:=rfl;have e2:(((A.length+c:Nat):Int)+1).toNat=A.length+c+1:=rfl;have g1:(A++(D.take c++(x::(D.drop c++B)))).getD (A.length+c) default=x:=by rw[r0]; exact get_at l0
   have g2:(A++(D.take c++(x::(D.drop c++B)))).getD (A.length+c+1) default=D.getD c default:=by
    rw[r0,show(A++D.take c)++(x::(D.getD c default::(D.drop (c+1)++B)))=((A++D.take c)++[x])++(D.getD c default::(D.drop (c+1)++B)) by simp];exact get_at (by simp only[aL,bX,cC,bR]; omega)
   repeat(refine VC.mk (by first|(simp only[okI]; omega)|omega|(simp only[Rw.rng,dv,hLc]; omega)) ?_)
   refine⟨c+1,[0],by omega,by omega,⟨⟨_,rfl,.eq ?_⟩,trivial⟩,(sR rfl),⟨rfl,(fun _=>rfl),rfl,rfl,rfl,_,rfl,rfl,rfl,dB.of_eq ?_⟩,trivial⟩
   ·show T.int ((A.length+(c+1):Nat):Int)=T.int (((A.length+c:Nat):Int)+1)
    congr 2
   ·rw[e1,e2,g1,g2,r0,yC l0,show(A++D.take c)++(D.getD c default::(D.getD c default::(D.drop (c+1)++B)))=((A++D.take c)++[D.getD c default])++(D.getD c default::(D.drop (c+1)++B)) by simp,yC (by simp only[aL,bX,cC,bR]; omega),ht];simp
  ·have hcp:c=p:=by
    have:=aM h5; omega
   subst hcp;exact gq.one (c:=0) (j:=0) (o:=dX (A++(D.take c++(x::(D.drop c++B))))) (t:=.dD []) rfl rfl rfl (fun _=>rfl) (.inl rfl) trivial (.eq rfl) ⟨_,Vq,hst,rfl,by simp⟩
theorem S.abp(A:List Elem)(x:Elem)(U B:List Elem)(n:Nat)(hU:1<U.length)(sU:jY U)(hl:A.length+U.length+1+B.length<2^40)(hs:gI (A++(U++([x]++B)))) :
  aP Tryz.prog 119 (V.aS [.own 0,.int A.length,.int (A.length+U.length:Nat),.int (A.length+U.length+1:Nat),fnT]) (h1 (A++(U++([x]++B)))).aj n (fun t hp=> ∃ W,W.Perm (U++[x])/\jY W/\t= .dD []/\hp=(h1 (A++(W++B))).aj):=by
 have gx: ∀ {k:Nat},k=A.length+U.length->(A++(U++([x]++B))).getD k default=x:=fun {k} hk=>by
  rw[<- bO]; exact get_at (by rw[hk]; simp)
 have gd: ∀ {k i:Nat},i<U.length->k=A.length+i->(A++(U++([x]++B))).getD k default=U.getD i default:=fun {k i} hi hk=>Nr hi hk
 have hL:(A++(U++([x]++B))).length=A.length+U.length+1+B.length:=by simp; omega
 obtain⟨W0,w1,w2⟩:=zx (U++[x]);refine nT.of (nx:=1) Bd.bJ (by simp) ⟨_,_,W0,w1,w2,rfl,rfl⟩ rfl rfl ?_;refine .mk (by simp only[okI] at *; omega) ?_;refine Fork.mk (fun q=>absurd (q.symm.trans ((by simp only[cE]; omega))).symm aR) (fun _=>?_);refine .mk (by simp only[okI] at *; omega) ?_;refine Fork.mk (fun _=>?_) (fun q=>absurd (q.symm.trans ((by simp only[bt]; omega))) aR);refine aG.same [0,1,2,3,4] (fun s:alF=>[(14,.int (A.length+s.p:Nat)),(15,.int (A.length+s.q:Nat))]) (fun s=>s.p<=s.q/\s.q<=U.length/\(s.p=0\/fH (U.getD (s.p-1) default)<=fH x)/\(s.q=U.length\/fH x<fH (U.getD s.q default))) (fun s=>s.q-s.p) ⟨0,U.length⟩ rfl (by decide) rfl (fun _=>rfl) ⟨ao _,ba _,.inl rfl,.inl rfl⟩ ⟨⟨_,rfl,rfl⟩,⟨_,rfl,rfl⟩,trivial⟩ ?_;refine⟨rfl,?_⟩;rintro⟨p,q⟩ ⟨i1,i2,i3,i4⟩;simp only at i1 i2 i3 i4;dsimp only;refine⟨fun h3=>?_,fun h3=>?_⟩
 ·have hpq:p<q:=by
   have:=ag h3; omega
  have hc:Qv (((A.length+p:Nat):Int)+((A.length+q:Nat):Int)) 1=((A.length+(p+q) / 2:Nat):Int):=by rw[EL]; omega
  repeat(refine VC.mk (by first|(simp only[okI]; omega)|omega|(simp only[Rw.rng,hL]; omega)) ?_)
  rw[hc];refine ah.pure (S.vY _ _ (hs.get _) (hs.get _)) rfl ?_;conv=>whnf
  have e1:(((A.length+(p+q) / 2:Nat):Int)).toNat=A.length+(p+q) / 2:=rfl;have e2:(((A.length+U.length:Nat):Int)).toNat=A.length+U.length:=rfl;refine⟨fun h4=>?_,fun h4=>?_⟩
  ·rw[bq] at h4;have h5:=aM h4;rw[e1,e2,gx rfl,gd (show(p+q) / 2<U.length by omega) rfl] at h5;refine .mk (by first|(simp only[okI]; omega)|omega) ?_;refine⟨⟨(p+q) / 2+1,q⟩,⟨by show(p+q) / 2+1<=q; omega,i2,.inr ?_,i4⟩,by show q-((p+q) / 2+1)<q-p; omega,⟨⟨_,rfl,?_⟩,⟨_,rfl,rfl⟩,trivial⟩,?_,rfl⟩
   ·show fH (U.getD ((p+q) / 2+1-1) default)<=fH x;rw[Nat.add_sub_cancel]; omega
   ·show T.int ((A.length+((p+q) / 2+1):Nat):Int)=T.int (((A.length+(p+q) / 2:Nat):Int)+1)
    congr 2
   ·repeat' (first|exact trivial|exact⟨_,rfl,rfl⟩|constructor)
  ·rw[dg] at h4;have h5:=ag h4;rw[e1,e2,gx rfl,gd (show(p+q) / 2<U.length by omega) rfl] at h5;refine⟨⟨p,(p+q) / 2⟩,⟨by show p<=(p+q) / 2; omega,by show(p+q) / 2<=U.length; omega,i3,.inr ?_⟩,by show(p+q) / 2-p<q-p; omega,⟨⟨_,rfl,rfl⟩,⟨_,rfl,rfl⟩,trivial⟩,?_,rfl⟩
   ·show fH x<fH (U.getD ((p+q) / 2) default); omega
   ·repeat' (first|exact trivial|exact⟨_,rfl,rfl⟩|constructor)
 ·have hpq:p=q:=by
   have:=aM h3; omega
  subst hpq;have hst:=ZK (x:=x) sU i2 i3 (by rcases i4 with i4|i4; exact .inl i4; exact .inr (by omega));refine aG.objs 1 [0,1,2,3,4,14] (fun c:Nat=>[(17,.int (A.length+c:Nat))]) (fun c=>[(0,dX (A++(U.take c++(x::(U.drop c++B)))))]) (fun c=>p<=c/\c<=U.length) (fun c=>c) U.length [0] rfl (by decide) (fun _=>rfl) ⟨i2,ba _⟩ ?_ ?_ ?_
  ·exact(sR rfl)
  ·refine⟨⟨rfl,(fun _=>rfl),rfl,rfl,rfl,_,rfl,rfl,rfl,dB.of_eq ?_⟩,trivial⟩;rw[bm (ba _),cJ (ba _)]; rfl
  refine⟨(sR rfl),rfl,?_⟩;rintro c ⟨hc0,hc⟩;have hLc:(A++(U.take c++(x::(U.drop c++B)))).length=A.length+U.length+1+B.length:=by simp; omega
  refine⟨fun h5=>?_,fun h5=>?_⟩
  ·obtain⟨c,rfl⟩: ∃ k,c=k+1:=⟨c-1,by have:=ag h5; omega⟩
   have hcp:p<c+1:=by
    have:=ag h5; omega
   have hcd:c<U.length:=by omega
   have hd:=dO default hcd;have ht:U.take (c+1)=U.take c++[U.getD c default]:=by rw[cQ]; simp[hcd]
   have r0:A++(U.take (c+1)++(x::(U.drop (c+1)++B)))=(A++U.take c)++(U.getD c default::(x::(U.drop (c+1)++B))):=by rw[ht]; simp
   have l0:A.length+c=(A++U.take c).length:=by simp; omega
   have e1:(((A.length+(c+1):Nat):Int)).toNat=A.length+c+1:=rfl;have e2:(((A.length+(c+1):Nat):Int)-1).toNat=A.length+c:=by omega
   have g1:(A++(U.take (c+1)++(x::(U.drop (c+1)++B)))).getD (A.length+c) default=U.getD c default:=by rw[r0]; exact get_at l0
   have g2:(A++(U.take (c+1)++(x::(U.drop (c+1)++B)))).getD (A.length+c+1) default=x:=by
    rw[r0,show(A++U.take c)++(U.getD c default::(x::(U.drop (c+1)++B)))=((A++U.take c)++[U.getD c default])++(x::(U.drop (c+1)++B)) by simp];exact get_at (by simp only[aL,bX,cC,bR]; omega)
   repeat(refine VC.mk (by first|(simp only[okI]; omega)|omega|(simp only[Rw.rng,dv,hLc]; omega)) ?_)
   refine⟨c,[0],⟨by omega,by omega⟩,by omega,⟨⟨_,rfl,.eq ?_⟩,trivial⟩,(sR rfl),⟨rfl,(fun _=>rfl),rfl,rfl,rfl,_,rfl,rfl,rfl,dB.of_eq ?_⟩,trivial⟩
   ·show T.int ((A.length+c:Nat):Int)=T.int (((A.length+(c+1):Nat):Int)-1)
    congr 2; omega
   ·rw[e1,e2,g1,g2,r0,show(A++U.take c)++(U.getD c default::(x::(U.drop (c+1)++B)))=((A++U.take c)++[U.getD c default])++(x::(U.drop (c+1)++B)) by simp,yC (by simp only[aL,bX,cC,bR]; omega),show((A++U.take c)++[U.getD c default])++(U.getD c default::(U.drop (c+1)++B))=(A++U.take c)++(U.getD c default::(U.getD c default::(U.drop (c+1)++B))) by simp,yC l0,hd];simp
  ·have hcp:c=p:=by
    have:=aM h5; omega
   subst hcp;exact gq.one (c:=0) (j:=0) (o:=dX (A++(U.take c++(x::(U.drop c++B))))) (t:=.dD []) rfl rfl rfl (fun _=>rfl) (.inl rfl) trivial (.eq rfl) ⟨_,Vq.trans (List.perm_append_comm (l₁:=[x])),hst,rfl,by simp⟩
theorem halves{U D:List Elem}{su ve:Nat}(sU:jY U)(sD:jY D)(h1:su<=U.length)(h2:ve<=D.length)
  (f1:su=0\/ve=D.length\/fH (U.getD (su-1) default)<=fH (D.getD ve default)) (f2:ve=0\/su=U.length\/fH (D.getD (ve-1) default)<=fH (U.getD su default)) :
  ∀ x∈U.take su++D.take ve,∀ y∈U.drop su++D.drop ve,fH x<=fH y:=by
 intro x hx y hy;rcases ci.1 hx with hx|hx<;>rcases ci.1 hy with hy|hy
 ·obtain⟨i,a1,a2,rfl⟩:=EK hx;obtain⟨j,b1,b2,rfl⟩:=BR hy;exact yK sU (by omega) b2
 ·obtain⟨i,a1,a2,rfl⟩:=EK hx;obtain⟨j,b1,b2,rfl⟩:=BR hy;rcases f1 with f1|f1|f1
  ·omega
  ·omega
  ·have g1:=yK sU (i:=i) (j:=su-1) (by omega) (by omega);have g2:=yK sD (i:=ve) (j:=j) b1 b2;omega
 ·obtain⟨i,a1,a2,rfl⟩:=EK hx;obtain⟨j,b1,b2,rfl⟩:=BR hy;rcases f2 with f2|f2|f2
  ·omega
  ·omega
  ·have g1:=yK sD (i:=i) (j:=ve-1) (by omega) (by omega);have g2:=yK sU (i:=su) (j:=j) b1 b2;omega
 ·obtain⟨i,a1,a2,rfl⟩:=EK hx;obtain⟨j,b1,b2,rfl⟩:=BR hy;exact yK sD (by omega) b2
theorem oV{W1 W2 X Y:List Elem}(h1:jY W1)(h2:jY W2)(p1:W1.Perm X)(p2:W2.Perm Y)(h: ∀ x∈X,∀ y∈Y,fH x<=fH y):jY (W1++W2):=by
 simp only[jY,fx];exact⟨h1,h2,fun x hx y hy=>h x (p1.mem_iff.1 hx) y (p2.mem_iff.1 hy)⟩
theorem qI{U D:List Elem}(sU:jY U)(sD:jY D)(h:U=[]\/D=[]):jY (U++D):=by
 rcases h with rfl|rfl
 ·simpa using sD
 ·simpa using sU
theorem fG{U1 U2 D1 D2 W1 W2:List Elem}(p1:W1.Perm (U1++D1))(p2:W2.Perm (U2++D2)):(W1++W2).Perm ((U1++U2)++(D1++D2)):=by
 refine(p1.append p2).trans ?_;simp only[bO];refine dz _ ?_;rw[<- bO,<- bO];exact List.perm_append_comm.append_right D2
structure ajm where
 s:Int
 t:Int
set_option maxHeartbeats 4000000 in
theorem S.symMerge: ∀ (N:Nat) (A U D B:List Elem) (a m b:Int) (n:Nat),U.length+D.length<=N->0<U.length->0<D.length->jY U->jY D->a=A.length->m=A.length+U.length->b=A.length+U.length+D.length->A.length+U.length+D.length+B.length<2^40->gI (A++(U++(D++B))) ->
  aP Tryz.prog 119 (V.aS [.own 0,.int a,.int m,.int b,fnT]) (h1 (A++(U++(D++B)))).aj n (fun t hp=> ∃ W,W.Perm (U++D)/\jY W/\t= .dD []/\hp=(h1 (A++(W++B))).aj):=by
 intro N;induction N with
 |zero=>intro A U D B a m b n h1 h2 h3; omega
 |succ N ih =>
  intro A U D B a m b n hN hU hD sU sD ha hm hb hl hs;by_cases e1:U.length=1
  ·obtain⟨x,rfl⟩:=List.length_eq_one_iff.1 e1;have:=S.abo A x D B n hD sD (by simp at hl ⊢; omega) hs;subst ha; subst hm; subst hb;exact this
  by_cases e2:D.length=1
  ·obtain⟨x,rfl⟩:=List.length_eq_one_iff.1 e2;have:=S.abp A x U B n (by omega) sU (by simp at hl ⊢; omega) hs;subst ha; subst hm; subst hb;exact this
  obtain⟨W0,w1,w2⟩:=zx (U++D);obtain⟨L,hLd⟩: ∃ L,L=A++(U++(D++B)):=⟨_,rfl⟩
  have hL:L.length=A.length+U.length+D.length+B.length:=by rw[hLd]; simp; omega
  have hsL:gI L:=by rw[hLd]; exact hs
  have gu: ∀ {k:Int} {i:Nat},i<U.length->k=A.length+i->L.getD k.toNat default=U.getD i default:=fun {k i} hi hk=>by
   rw[hLd]; exact Nr hi (by omega)
  have gv: ∀ {k:Int} {i:Nat},i<D.length->k=m+i->L.getD k.toNat default=D.getD i default:=fun {k i} hi hk=>by
   rw[hLd,<- bO]; exact Nr hi (by rw[aL]; omega)
  refine nT.of (nx:=1) Bd.bJ (by simp) ⟨_,_,W0,w1,w2,rfl,rfl⟩ rfl rfl ?_;rw[<- hLd];refine .mk (by first|(simp only[okI]; omega)|omega) ?_;refine Fork.mk (fun q=>absurd (q.symm.trans ((by simp only[cE]; omega))).symm aR) (fun _=>?_);refine .mk (by simp only[okI] at *; first|omega|(simp_all; done)|(simp_all; omega)) ?_;refine Fork.mk (fun q=>absurd (q.symm.trans ((by simp only[cE]; omega))).symm aR) (fun _=>?_);repeat(refine VC.mk (by first|(omega)|(simp only[okI] at *; first|omega|(simp_all; done)|(simp_all; omega))) ?_)
  obtain⟨M,hM⟩: ∃ M,M=(a+b) / 2:=⟨_,rfl⟩
  rw[show Qv (a+b) 1=M by rw[EL,hM]];repeat(refine VC.mk (by first|(simp only[okI]; omega)|omega) ?_)
  refine⟨fun h3=>?_,fun h3=>?_⟩
  ·have hMm:M<m:=ag h3;obtain⟨s0,hs0'⟩: ∃ s0,s0=M+m-b:=⟨_,rfl⟩
   obtain⟨r0,ajQ⟩: ∃ r0,r0=M:=⟨_,rfl⟩
   have hsr:s0<=r0:=by omega
   have hp1: ∀ c,s0<=c->c<r0->a<=c/\c<m/\m<=M+m-1-c/\M+m-1-c<b:=by intro c q1 q2; omega
   have hb1: ∀ {s:Int},s=s0-> ∀ su ve:Nat,s=A.length+su->M-s=ve->su=0\/ve=D.length:=by intro s q su ve q1 q2; omega
   have hb2: ∀ {s:Int},s=r0-> ∀ su ve:Nat,s=A.length+su->M-s=ve->ve=0\/su=U.length:=by intro s q su ve q1 q2; omega
   have hs0:(V.int s0).aI=(V.int (M+m-b)).aI:=by rw[hs0']
   have hr0:(V.int r0).aI=(V.int M).aI:=by rw[ajQ]
   repeat(refine VC.mk (by first|(simp only[okI]; omega)|omega) ?_)
   refine aG.same [0,1,2,3,4,18,19,22] (fun i:ajm=>[(20,.int i.s),(21,.int i.t)]) (fun i=>s0<=i.s/\i.s<=i.t/\i.t<=r0/\(i.s=s0\/fH (L.getD (i.s-1).toNat default)<=fH (L.getD (M+m-1-(i.s-1)).toNat default))/\(i.t=r0\/fH (L.getD (M+m-1-i.t).toNat default)<fH (L.getD i.t.toNat default))) (fun i=>(i.t-i.s).toNat) ⟨s0,r0⟩ rfl (by decide) rfl (fun _=>rfl) ⟨fp _,hsr,fp _,.inl rfl,.inl rfl⟩ ⟨⟨_,rfl,hs0⟩,⟨_,rfl,hr0⟩,trivial⟩ ?_;refine⟨rfl,?_⟩;rintro⟨s,t⟩ ⟨i1,i2,i3,i4,i5⟩;simp only at i1 i2 i3 i4 i5;dsimp only;refine⟨fun h4=>?_,fun h4=>?_⟩
   ·have hst:s<t:=ag h4;repeat(refine VC.mk (by first|omega|(simp only[okI]; omega)) ?_)
    obtain⟨c,hc⟩: ∃ c,c=(s+t) / 2:=⟨_,rfl⟩
    rw[show Qv (s+t) 1=c by rw[EL,hc]];have hc1:s<=c/\c<t:=by omega
    have hrg:=hp1 c (by omega) (by omega);repeat(refine VC.mk (by first|(simp only[okI]; omega)|omega|(simp only[Rw.rng,hL]; omega)) ?_)
    refine ah.pure (S.vY _ _ (hsL.get _) (hsL.get _)) rfl ?_;refine⟨fun h5=>?_,fun h5=>?_⟩
    ·rw[bq] at h5;have h6:=aM h5;refine .mk (by first|(simp only[okI]; omega)|omega) ?_;refine⟨⟨c+1,t⟩,⟨by show s0<=c+1; omega,by show c+1<=t; omega,i3,.inr ?_,i5⟩,by show(t-(c+1)).toNat<(t-s).toNat; omega,⟨⟨_,rfl,rfl⟩,⟨_,rfl,rfl⟩,trivial⟩,?_,rfl⟩
     ·show fH (L.getD (c+1-1).toNat default)<=fH (L.getD (M+m-1-(c+1-1)).toNat default);rw[show c+1-1=c by omega]; omega
     ·repeat' (first|exact trivial|exact⟨_,rfl,rfl⟩|constructor)
    ·rw[dg] at h5;have h6:=ag h5;refine⟨⟨s,c⟩,⟨i1,by show s<=c; omega,by show c<=r0; omega,i4,.inr ?_⟩,by show(c-s).toNat<(t-s).toNat; omega,⟨⟨_,rfl,rfl⟩,⟨_,rfl,rfl⟩,trivial⟩,?_,rfl⟩
     ·show fH (L.getD (M+m-1-c).toNat default)<fH (L.getD c.toNat default);omega
     ·repeat' (first|exact trivial|exact⟨_,rfl,rfl⟩|constructor)
   have hst:s=t:=by
    have:=aM h4; omega
   subst hst;obtain⟨su,hsu⟩: ∃ su:Nat,s=A.length+su:=⟨(s-A.length).toNat,by omega⟩
   obtain⟨ve,hve⟩: ∃ ve:Nat,M-s=ve:=⟨(M-s).toNat,by omega⟩
   have lu:su<=U.length:=by omega
   have lv:ve<=D.length:=by omega
   have TD:=halves sU sD lu lv (by
    rcases i4 with i4|i4
    ·rcases hb1 i4 su ve hsu hve with e|e
     ·exact .inl e
     ·exact .inr (.inl e)
    ·by_cases e0:su=0
     ·exact .inl e0
     by_cases e1:ve=D.length
     ·exact .inr (.inl e1)
     refine .inr (.inr ?_);rw[gu (k:=s-1) (i:=su-1) (by omega) (by omega),gv (k:=M+m-1-(s-1)) (i:=ve) (by omega) (by omega)] at i4
     exact i4) (by
    rcases i5 with i5|i5
    ·rcases hb2 i5 su ve hsu hve with e|e
     ·exact .inl e
     ·exact .inr (.inl e)
    ·by_cases e0:ve=0
     ·exact .inl e0
     by_cases e1:su=U.length
     ·exact .inr (.inl e1)
     refine .inr (.inr ?_);rw[gu (k:=s) (i:=su) (by omega) (by omega),gv (k:=M+m-1-s) (i:=ve-1) (by omega) (by omega)] at i5
     omega)
   obtain⟨U1,hU1⟩: ∃ X,X=U.take su:=⟨_,rfl⟩
   obtain⟨U2,hU2⟩: ∃ X,X=U.drop su:=⟨_,rfl⟩
   obtain⟨D1,hD1⟩: ∃ X,X=D.take ve:=⟨_,rfl⟩
   obtain⟨D2,hD2⟩: ∃ X,X=D.drop ve:=⟨_,rfl⟩
   have l1:U1.length=su:=by rw[hU1,bR]; omega
   have l2:U2.length=U.length-su:=by rw[hU2,cA]
   have l3:D1.length=ve:=by rw[hD1,bR]; omega
   have l4:D2.length=D.length-ve:=by rw[hD2,cA]
   have sU1:jY U1:=by rw[hU1]; exact dq (ge _ _) sU
   have Vr:jY U2:=by rw[hU2]; exact dq (gg _ _) sU
   have sD1:jY D1:=by rw[hD1]; exact dq (ge _ _) sD
   have Vs:jY D2:=by rw[hD2]; exact dq (gg _ _) sD
   have hU:U=U1++U2:=by rw[hU1,hU2,cK]
   have hD:D=D1++D2:=by rw[hD1,hD2,cK]
   rw[<- hU1,<- hD1,<- hU2,<- hD2] at TD;clear hU1 hU2 hD1 hD2 i4 i5 h4;have hUD:A++(U++(D++B))=A++((U1++U2)++((D1++D2)++B)):=by rw[<- hU,<- hD]
   repeat(refine VC.mk (by first|(first|(simp only[okI]; omega)|omega)|exact fun h=>h|exact fun h=>⟨h,h⟩) ?_)
   rw[hLd];have hhp:((U1++D1)++(U2++D2)).Perm ((U1++U2)++(D1++D2)):=fG (dc _) (dc _)
   have hsB: ∀ W1:List Elem,W1.Perm (U1++D1)->gI ((A++W1)++(U2++(D2++B))):=fun W1 pW=>hs.perm (by
    have:=((pW.append_right (U2++D2)).trans hhp).append_right B;rw[hUD,bO]
    exact dz _ (by simpa using this))
   have hsA:=hsB (U1++D1) (dc _);rw[show(A++(U1++D1))++(U2++(D2++B))=A++(U1++(D1++(U2++(D2++B)))) by simp] at hsA;have hlB: ∀ W1:List Elem,W1.Perm (U1++D1)->W1.length=su+ve:=fun W1 pW=>by rw[pW.length_eq,aL]; omega
   have hA1: ∀ W1:List Elem,W1.length=su+ve->((A++W1).length:Int)=M:=fun W1 h=>by rw[aL,h]; omega
   have hl2: ∀ W1:List Elem,W1.length=su+ve->(A++W1).length+U2.length+D2.length+B.length<2^40:=fun W1 h=>by rw[aL,h]; omega
   have hMb:M+U2.length=M+m-s/\M+U2.length+D2.length=b/\U2.length+D2.length<=N/\U1.length+D1.length<=N/\a+U1.length=s/\s+D1.length=M:=by omega
   obtain⟨hb3,hb4,hn2,hn1,hb5,hb6⟩:=hMb;refine⟨fun h6=>?_,fun h6=>?_⟩
   ·rw[aD,aq,aq] at h6;refine ah.sZ (S.rotate (A++U1) U2 D1 (D2++B) _ _ _ _ (by omega) (by omega) (by rw[aL]; omega) (by rw[aL]; omega) (by rw[aL]; omega) (by simp only[aL]; omega)) (by rw[hUD]; simp only[bO]) ?_;rintro t hp ⟨rfl,rfl⟩;refine⟨.dD [],h1 (A++(U1++(D1++(U2++(D2++B))))),rfl,by rw[bO],?_⟩;repeat(refine VC.mk (by first|exact id|exact fun h=>⟨h,h⟩) ?_)
    refine⟨fun h7=>?_,fun h7=>?_⟩
    ·rw[aD,aq,aq] at h7;refine ah.sZ (ih A U1 D1 (U2++(D2++B)) _ _ _ _ hn1 (by omega) (by omega) sU1 sD1 ha (by omega) (by omega) (by simp only[aL]; omega) hsA) rfl ?_;rintro t hp ⟨W1,vZ,KI,rfl,rfl⟩;have Dy:=hlB W1 vZ;refine⟨.dD [],h1 _,rfl,rfl,?_⟩;repeat(refine VC.mk (by first|exact id|exact fun h=>⟨h,h⟩) ?_)
     refine⟨fun h8=>?_,fun h8=>?_⟩
     ·rw[aD,aq,aq] at h8;refine ah.sZ (ih (A++W1) U2 D2 B _ _ _ _ hn2 (by omega) (by omega) Vr Vs (hA1 W1 Dy).symm (by rw[hA1 W1 Dy,hb3]) (by rw[hA1 W1 Dy,hb4]) (hl2 W1 Dy) (hsB W1 vZ)) (by rw[bO]) ?_;rintro t hp ⟨W2,zy,Ht,rfl,rfl⟩;refine⟨.dD [],h1 _,rfl,rfl,?_⟩;exact gq.one (c:=0) (j:=0) (o:=dX ((A++W1)++(W2++B))) (t:=.dD []) rfl rfl rfl (fun _=>rfl) (.inl rfl) trivial (.eq rfl) ⟨W1++W2,by rw[hU,hD]; exact fG vZ zy,oV KI Ht vZ zy TD,rfl,by simp⟩
     ·have Ht:jY (U2++D2):=qI Vr Vs (by
       rw[cH,bA,bA] at h8;rcases h8 with h8|h8
       ·exact .inl (ai (by omega))
       ·exact .inr (ai (by omega)))
      have zy:(U2++D2).Perm (U2++D2):=dc _;exact gq.one (c:=0) (j:=0) (o:=dX (A++(W1++(U2++(D2++B))))) (t:=.dD []) rfl rfl rfl (fun _=>rfl) (.inl rfl) trivial (.eq rfl) ⟨W1++(U2++D2),by rw[hU,hD]; exact fG vZ zy,oV KI Ht vZ zy TD,rfl,by simp⟩
    ·have KI:jY (U1++D1):=qI sU1 sD1 (by
      rw[cH,bA,bA] at h7;rcases h7 with h7|h7
      ·exact .inl (ai (by omega))
      ·exact .inr (ai (by omega)))
     have vZ:(U1++D1).Perm (U1++D1):=dc _;obtain⟨W1,hW1⟩: ∃ W1,W1=U1++D1:=⟨_,rfl⟩
     rw[show A++(U1++(D1++(U2++(D2++B))))=A++(W1++(U2++(D2++B))) by rw[hW1,bO]];rw[<- hW1] at KI;replace vZ:W1.Perm (U1++D1):=by rw[hW1]
     have Dy:=hlB W1 vZ;repeat(refine VC.mk (by first|exact id|exact fun h=>⟨h,h⟩) ?_)
     refine⟨fun h8=>?_,fun h8=>?_⟩
     ·rw[aD,aq,aq] at h8;refine ah.sZ (ih (A++W1) U2 D2 B _ _ _ _ hn2 (by omega) (by omega) Vr Vs (hA1 W1 Dy).symm (by rw[hA1 W1 Dy,hb3]) (by rw[hA1 W1 Dy,hb4]) (hl2 W1 Dy) (hsB W1 vZ)) (by rw[bO]) ?_;rintro t hp ⟨W2,zy,Ht,rfl,rfl⟩;refine⟨.dD [],h1 _,rfl,rfl,?_⟩;exact gq.one (c:=0) (j:=0) (o:=dX ((A++W1)++(W2++B))) (t:=.dD []) rfl rfl rfl (fun _=>rfl) (.inl rfl) trivial (.eq rfl) ⟨W1++W2,by rw[hU,hD]; exact fG vZ zy,oV KI Ht vZ zy TD,rfl,by simp⟩
     ·have Ht:jY (U2++D2):=qI Vr Vs (by
       rw[cH,bA,bA] at h8;rcases h8 with h8|h8
       ·exact .inl (ai (by omega))
       ·exact .inr (ai (by omega)))
      have zy:(U2++D2).Perm (U2++D2):=dc _;exact gq.one (c:=0) (j:=0) (o:=dX (A++(W1++(U2++(D2++B))))) (t:=.dD []) rfl rfl rfl (fun _=>rfl) (.inl rfl) trivial (.eq rfl) ⟨W1++(U2++D2),by rw[hU,hD]; exact fG vZ zy,oV KI Ht vZ zy TD,rfl,by simp⟩
   ·rw[show A++(U++(D++B))=A++(U1++(D1++(U2++(D2++B)))) by
     rw[hUD];rw[cH,bA,bA] at h6;rcases h6 with h6|h6
     ·rw[ai (show U2.length=0 by omega)]; simp
     ·rw[ai (show D1.length=0 by omega)]; simp]
    repeat(refine VC.mk (by first|exact id|exact fun h=>⟨h,h⟩) ?_)
    refine⟨fun h7=>?_,fun h7=>?_⟩
    ·rw[aD,aq,aq] at h7;refine ah.sZ (ih A U1 D1 (U2++(D2++B)) _ _ _ _ hn1 (by omega) (by omega) sU1 sD1 ha (by omega) (by omega) (by simp only[aL]; omega) hsA) rfl ?_;rintro t hp ⟨W1,vZ,KI,rfl,rfl⟩;have Dy:=hlB W1 vZ;refine⟨.dD [],h1 _,rfl,rfl,?_⟩;repeat(refine VC.mk (by first|exact id|exact fun h=>⟨h,h⟩) ?_)
     refine⟨fun h8=>?_,fun h8=>?_⟩
     ·rw[aD,aq,aq] at h8;refine ah.sZ (ih (A++W1) U2 D2 B _ _ _ _ hn2 (by omega) (by omega) Vr Vs (hA1 W1 Dy).symm (by rw[hA1 W1 Dy,hb3]) (by rw[hA1 W1 Dy,hb4]) (hl2 W1 Dy) (hsB W1 vZ)) (by rw[bO]) ?_;rintro t hp ⟨W2,zy,Ht,rfl,rfl⟩;refine⟨.dD [],h1 _,rfl,rfl,?_⟩;exact gq.one (c:=0) (j:=0) (o:=dX ((A++W1)++(W2++B))) (t:=.dD []) rfl rfl rfl (fun _=>rfl) (.inl rfl) trivial (.eq rfl) ⟨W1++W2,by rw[hU,hD]; exact fG vZ zy,oV KI Ht vZ zy TD,rfl,by simp⟩
     ·have Ht:jY (U2++D2):=qI Vr Vs (by
       rw[cH,bA,bA] at h8;rcases h8 with h8|h8
       ·exact .inl (ai (by omega))
       ·exact .inr (ai (by omega)))
      have zy:(U2++D2).Perm (U2++D2):=dc _;exact gq.one (c:=0) (j:=0) (o:=dX (A++(W1++(U2++(D2++B))))) (t:=.dD []) rfl rfl rfl (fun _=>rfl) (.inl rfl) trivial (.eq rfl) ⟨W1++(U2++D2),by rw[hU,hD]; exact fG vZ zy,oV KI Ht vZ zy TD,rfl,by simp⟩
    ·have KI:jY (U1++D1):=qI sU1 sD1 (by
      rw[cH,bA,bA] at h7;rcases h7 with h7|h7
      ·exact .inl (ai (by omega))
      ·exact .inr (ai (by omega)))
     have vZ:(U1++D1).Perm (U1++D1):=dc _;obtain⟨W1,hW1⟩: ∃ W1,W1=U1++D1:=⟨_,rfl⟩
     rw[show A++(U1++(D1++(U2++(D2++B))))=A++(W1++(U2++(D2++B))) by rw[hW1,bO]];rw[<- hW1] at KI;replace vZ:W1.Perm (U1++D1):=by rw[hW1]
     have Dy:=hlB W1 vZ;repeat(refine VC.mk (by first|exact id|exact fun h=>⟨h,h⟩) ?_)
     refine⟨fun h8=>?_,fun h8=>?_⟩
     ·rw[aD,aq,aq] at h8;refine ah.sZ (ih (A++W1) U2 D2 B _ _ _ _ hn2 (by omega) (by omega) Vr Vs (hA1 W1 Dy).symm (by rw[hA1 W1 Dy,hb3]) (by rw[hA1 W1 Dy,hb4]) (hl2 W1 Dy) (hsB W1 vZ)) (by rw[bO]) ?_;rintro t hp ⟨W2,zy,Ht,rfl,rfl⟩;refine⟨.dD [],h1 _,rfl,rfl,?_⟩;exact gq.one (c:=0) (j:=0) (o:=dX ((A++W1)++(W2++B))) (t:=.dD []) rfl rfl rfl (fun _=>rfl) (.inl rfl) trivial (.eq rfl) ⟨W1++W2,by rw[hU,hD]; exact fG vZ zy,oV KI Ht vZ zy TD,rfl,by simp⟩
     ·have Ht:jY (U2++D2):=qI Vr Vs (by
       rw[cH,bA,bA] at h8;rcases h8 with h8|h8
       ·exact .inl (ai (by omega))
       ·exact .inr (ai (by omega)))
      have zy:(U2++D2).Perm (U2++D2):=dc _;exact gq.one (c:=0) (j:=0) (o:=dX (A++(W1++(U2++(D2++B))))) (t:=.dD []) rfl rfl rfl (fun _=>rfl) (.inl rfl) trivial (.eq rfl) ⟨W1++(U2++D2),by rw[hU,hD]; exact fG vZ zy,oV KI Ht vZ zy TD,rfl,by simp⟩
  ·have hMm:m<=M:=by have:=aM h3; omega
   obtain⟨s0,hs0'⟩: ∃ s0,s0=a:=⟨_,rfl⟩
   obtain⟨r0,ajQ⟩: ∃ r0,r0=m:=⟨_,rfl⟩
   have hsr:s0<=r0:=by omega
   have hp1: ∀ c,s0<=c->c<r0->a<=c/\c<m/\m<=M+m-1-c/\M+m-1-c<b:=by intro c q1 q2; omega
   have hb1: ∀ {s:Int},s=s0-> ∀ su ve:Nat,s=A.length+su->M-s=ve->su=0\/ve=D.length:=by intro s q su ve q1 q2; omega
   have hb2: ∀ {s:Int},s=r0-> ∀ su ve:Nat,s=A.length+su->M-s=ve->ve=0\/su=U.length:=by intro s q su ve q1 q2; omega
   have hs0:(V.int s0).aI=(V.int a).aI:=by rw[hs0']
   have hr0:(V.int r0).aI=(V.int m).aI:=by rw[ajQ]
   refine .mk (by first|(simp only[okI]; omega)|omega) ?_;refine aG.same [0,1,2,3,4,18,19,22] (fun i:ajm=>[(20,.int i.s),(21,.int i.t)]) (fun i=>s0<=i.s/\i.s<=i.t/\i.t<=r0/\(i.s=s0\/fH (L.getD (i.s-1).toNat default)<=fH (L.getD (M+m-1-(i.s-1)).toNat default))/\(i.t=r0\/fH (L.getD (M+m-1-i.t).toNat default)<fH (L.getD i.t.toNat default))) (fun i=>(i.t-i.s).toNat) ⟨s0,r0⟩ rfl (by decide) rfl (fun _=>rfl) ⟨fp _,hsr,fp _,.inl rfl,.inl rfl⟩ ⟨⟨_,rfl,hs0⟩,⟨_,rfl,hr0⟩,trivial⟩ ?_;refine⟨rfl,?_⟩;rintro⟨s,t⟩ ⟨i1,i2,i3,i4,i5⟩;simp only at i1 i2 i3 i4 i5;dsimp only;refine⟨fun h4=>?_,fun h4=>?_⟩
   ·have hst:s<t:=ag h4;repeat(refine VC.mk (by first|omega|(simp only[okI]; omega)) ?_)
    obtain⟨c,hc⟩: ∃ c,c=(s+t) / 2:=⟨_,rfl⟩
    rw[show Qv (s+t) 1=c by rw[EL,hc]];have hc1:s<=c/\c<t:=by omega
    have hrg:=hp1 c (by omega) (by omega);repeat(refine VC.mk (by first|(simp only[okI]; omega)|omega|(simp only[Rw.rng,hL]; omega)) ?_)
    refine ah.pure (S.vY _ _ (hsL.get _) (hsL.get _)) rfl ?_;refine⟨fun h5=>?_,fun h5=>?_⟩
    ·rw[bq] at h5;have h6:=aM h5;refine .mk (by first|(simp only[okI]; omega)|omega) ?_;refine⟨⟨c+1,t⟩,⟨by show s0<=c+1; omega,by show c+1<=t; omega,i3,.inr ?_,i5⟩,by show(t-(c+1)).toNat<(t-s).toNat; omega,⟨⟨_,rfl,rfl⟩,⟨_,rfl,rfl⟩,trivial⟩,?_,rfl⟩
     ·show fH (L.getD (c+1-1).toNat default)<=fH (L.getD (M+m-1-(c+1-1)).toNat default);rw[show c+1-1=c by omega]; omega
     ·repeat' (first|exact trivial|exact⟨_,rfl,rfl⟩|constructor)
    ·rw[dg] at h5;have h6:=ag h5;refine⟨⟨s,c⟩,⟨i1,by show s<=c; omega,by show c<=r0; omega,i4,.inr ?_⟩,by show(c-s).toNat<(t-s).toNat; omega,⟨⟨_,rfl,rfl⟩,⟨_,rfl,rfl⟩,trivial⟩,?_,rfl⟩
     ·show fH (L.getD (M+m-1-c).toNat default)<fH (L.getD c.toNat default);omega
     ·repeat' (first|exact trivial|exact⟨_,rfl,rfl⟩|constructor)
   have hst:s=t:=by
    have:=aM h4; omega
   subst hst;obtain⟨su,hsu⟩: ∃ su:Nat,s=A.length+su:=⟨(s-A.length).toNat,by omega⟩
   obtain⟨ve,hve⟩: ∃ ve:Nat,M-s=ve:=⟨(M-s).toNat,by omega⟩
   have lu:su<=U.length:=by omega
   have lv:ve<=D.length:=by omega
   have TD:=halves sU sD lu lv (by
    rcases i4 with i4|i4
    ·rcases hb1 i4 su ve hsu hve with e|e
     ·exact .inl e
     ·exact .inr (.inl e)
    ·by_cases e0:su=0
     ·exact .inl e0
     by_cases e1:ve=D.length
     ·exact .inr (.inl e1)
     refine .inr (.inr ?_);rw[gu (k:=s-1) (i:=su-1) (by omega) (by omega),gv (k:=M+m-1-(s-1)) (i:=ve) (by omega) (by omega)] at i4
     exact i4) (by
    rcases i5 with i5|i5
    ·rcases hb2 i5 su ve hsu hve with e|e
     ·exact .inl e
     ·exact .inr (.inl e)
    ·by_cases e0:ve=0
     ·exact .inl e0
     by_cases e1:su=U.length
     ·exact .inr (.inl e1)
     refine .inr (.inr ?_);rw[gu (k:=s) (i:=su) (by omega) (by omega),gv (k:=M+m-1-s) (i:=ve-1) (by omega) (by omega)] at i5
     omega)
   obtain⟨U1,hU1⟩: ∃ X,X=U.take su:=⟨_,rfl⟩
   obtain⟨U2,hU2⟩: ∃ X,X=U.drop su:=⟨_,rfl⟩
   obtain⟨D1,hD1⟩: ∃ X,X=D.take ve:=⟨_,rfl⟩
   obtain⟨D2,hD2⟩: ∃ X,X=D.drop ve:=⟨_,rfl⟩
   have l1:U1.length=su:=by rw[hU1,bR]; omega
   have l2:U2.length=U.length-su:=by rw[hU2,cA]
   have l3:D1.length=ve:=by rw[hD1,bR]; omega
   have l4:D2.length=D.length-ve:=by rw[hD2,cA]
   have sU1:jY U1:=by rw[hU1]; exact dq (ge _ _) sU
   have Vr:jY U2:=by rw[hU2]; exact dq (gg _ _) sU
   have sD1:jY D1:=by rw[hD1]; exact dq (ge _ _) sD
   have Vs:jY D2:=by rw[hD2]; exact dq (gg _ _) sD
   have hU:U=U1++U2:=by rw[hU1,hU2,cK]
   have hD:D=D1++D2:=by rw[hD1,hD2,cK]
   rw[<- hU1,<- hD1,<- hU2,<- hD2] at TD;clear hU1 hU2 hD1 hD2 i4 i5 h4;have hUD:A++(U++(D++B))=A++((U1++U2)++((D1++D2)++B)):=by rw[<- hU,<- hD]
   repeat(refine VC.mk (by first|(first|(simp only[okI]; omega)|omega)|exact fun h=>h|exact fun h=>⟨h,h⟩) ?_)
   rw[hLd];have hhp:((U1++D1)++(U2++D2)).Perm ((U1++U2)++(D1++D2)):=fG (dc _) (dc _)
   have hsB: ∀ W1:List Elem,W1.Perm (U1++D1)->gI ((A++W1)++(U2++(D2++B))):=fun W1 pW=>hs.perm (by
    have:=((pW.append_right (U2++D2)).trans hhp).append_right B;rw[hUD,bO]
    exact dz _ (by simpa using this))
   have hsA:=hsB (U1++D1) (dc _);rw[show(A++(U1++D1))++(U2++(D2++B))=A++(U1++(D1++(U2++(D2++B)))) by simp] at hsA;have hlB: ∀ W1:List Elem,W1.Perm (U1++D1)->W1.length=su+ve:=fun W1 pW=>by rw[pW.length_eq,aL]; omega
   have hA1: ∀ W1:List Elem,W1.length=su+ve->((A++W1).length:Int)=M:=fun W1 h=>by rw[aL,h]; omega
   have hl2: ∀ W1:List Elem,W1.length=su+ve->(A++W1).length+U2.length+D2.length+B.length<2^40:=fun W1 h=>by rw[aL,h]; omega
   have hMb:M+U2.length=M+m-s/\M+U2.length+D2.length=b/\U2.length+D2.length<=N/\U1.length+D1.length<=N/\a+U1.length=s/\s+D1.length=M:=by omega
   obtain⟨hb3,hb4,hn2,hn1,hb5,hb6⟩:=hMb;refine⟨fun h6=>?_,fun h6=>?_⟩
   ·rw[aD,aq,aq] at h6;refine ah.sZ (S.rotate (A++U1) U2 D1 (D2++B) _ _ _ _ (by omega) (by omega) (by rw[aL]; omega) (by rw[aL]; omega) (by rw[aL]; omega) (by simp only[aL]; omega)) (by rw[hUD]; simp only[bO]) ?_;rintro t hp ⟨rfl,rfl⟩;refine⟨.dD [],h1 (A++(U1++(D1++(U2++(D2++B))))),rfl,by rw[bO],?_⟩;repeat(refine VC.mk (by first|exact id|exact fun h=>⟨h,h⟩) ?_)
    refine⟨fun h7=>?_,fun h7=>?_⟩
    ·rw[aD,aq,aq] at h7;refine ah.sZ (ih A U1 D1 (U2++(D2++B)) _ _ _ _ hn1 (by omega) (by omega) sU1 sD1 ha (by omega) (by omega) (by simp only[aL]; omega) hsA) rfl ?_;rintro t hp ⟨W1,vZ,KI,rfl,rfl⟩;have Dy:=hlB W1 vZ;refine⟨.dD [],h1 _,rfl,rfl,?_⟩;repeat(refine VC.mk (by first|exact id|exact fun h=>⟨h,h⟩) ?_)
     refine⟨fun h8=>?_,fun h8=>?_⟩
     ·rw[aD,aq,aq] at h8;refine ah.sZ (ih (A++W1) U2 D2 B _ _ _ _ hn2 (by omega) (by omega) Vr Vs (hA1 W1 Dy).symm (by rw[hA1 W1 Dy,hb3]) (by rw[hA1 W1 Dy,hb4]) (hl2 W1 Dy) (hsB W1 vZ)) (by rw[bO]) ?_;rintro t hp ⟨W2,zy,Ht,rfl,rfl⟩;refine⟨.dD [],h1 _,rfl,rfl,?_⟩;exact gq.one (c:=0) (j:=0) (o:=dX ((A++W1)++(W2++B))) (t:=.dD []) rfl rfl rfl (fun _=>rfl) (.inl rfl) trivial (.eq rfl) ⟨W1++W2,by rw[hU,hD]; exact fG vZ zy,oV KI Ht vZ zy TD,rfl,by simp⟩
     ·have Ht:jY (U2++D2):=qI Vr Vs (by
       rw[cH,bA,bA] at h8;rcases h8 with h8|h8
       ·exact .inl (ai (by omega))
       ·exact .inr (ai (by omega)))
      have zy:(U2++D2).Perm (U2++D2):=dc _;exact gq.one (c:=0) (j:=0) (o:=dX (A++(W1++(U2++(D2++B))))) (t:=.dD []) rfl rfl rfl (fun _=>rfl) (.inl rfl) trivial (.eq rfl) ⟨W1++(U2++D2),by rw[hU,hD]; exact fG vZ zy,oV KI Ht vZ zy TD,rfl,by simp⟩
    ·have KI:jY (U1++D1):=qI sU1 sD1 (by
      rw[cH,bA,bA] at h7;rcases h7 with h7|h7
      ·exact .inl (ai (by omega))
      ·exact .inr (ai (by omega)))
     have vZ:(U1++D1).Perm (U1++D1):=dc _;obtain⟨W1,hW1⟩: ∃ W1,W1=U1++D1:=⟨_,rfl⟩
     rw[show A++(U1++(D1++(U2++(D2++B))))=A++(W1++(U2++(D2++B))) by rw[hW1,bO]];rw[<- hW1] at KI;replace vZ:W1.Perm (U1++D1):=by rw[hW1]
     have Dy:=hlB W1 vZ;repeat(refine VC.mk (by first|exact id|exact fun h=>⟨h,h⟩) ?_)
     refine⟨fun h8=>?_,fun h8=>?_⟩
     ·rw[aD,aq,aq] at h8;refine ah.sZ (ih (A++W1) U2 D2 B _ _ _ _ hn2 (by omega) (by omega) Vr Vs (hA1 W1 Dy).symm (by rw[hA1 W1 Dy,hb3]) (by rw[hA1 W1 Dy,hb4]) (hl2 W1 Dy) (hsB W1 vZ)) (by rw[bO]) ?_;rintro t hp ⟨W2,zy,Ht,rfl,rfl⟩;refine⟨.dD [],h1 _,rfl,rfl,?_⟩;exact gq.one (c:=0) (j:=0) (o:=dX ((A++W1)++(W2++B))) (t:=.dD []) rfl rfl rfl (fun _=>rfl) (.inl rfl) trivial (.eq rfl) ⟨W1++W2,by rw[hU,hD]; exact fG vZ zy,oV KI Ht vZ zy TD,rfl,by simp⟩
     ·have Ht:jY (U2++D2):=qI Vr Vs (by
       rw[cH,bA,bA] at h8;rcases h8 with h8|h8
       ·exact .inl (ai (by omega))
       ·exact .inr (ai (by omega)))
      have zy:(U2++D2).Perm (U2++D2):=dc _;exact gq.one (c:=0) (j:=0) (o:=dX (A++(W1++(U2++(D2++B))))) (t:=.dD []) rfl rfl rfl (fun _=>rfl) (.inl rfl) trivial (.eq rfl) ⟨W1++(U2++D2),by rw[hU,hD]; exact fG vZ zy,oV KI Ht vZ zy TD,rfl,by simp⟩
   ·rw[show A++(U++(D++B))=A++(U1++(D1++(U2++(D2++B)))) by
     rw[hUD];rw[cH,bA,bA] at h6;rcases h6 with h6|h6
     ·rw[ai (show U2.length=0 by omega)]; simp
     ·rw[ai (show D1.length=0 by omega)]; simp]
    repeat(refine VC.mk (by first|exact id|exact fun h=>⟨h,h⟩) ?_)
    refine⟨fun h7=>?_,fun h7=>?_⟩
    ·rw[aD,aq,aq] at h7;refine ah.sZ (ih A U1 D1 (U2++(D2++B)) _ _ _ _ hn1 (by omega) (by omega) sU1 sD1 ha (by omega) (by omega) (by simp only[aL]; omega) hsA) rfl ?_;rintro t hp ⟨W1,vZ,KI,rfl,rfl⟩;have Dy:=hlB W1 vZ;refine⟨.dD [],h1 _,rfl,rfl,?_⟩;repeat(refine VC.mk (by first|exact id|exact fun h=>⟨h,h⟩) ?_)
     refine⟨fun h8=>?_,fun h8=>?_⟩
     ·rw[aD,aq,aq] at h8;refine ah.sZ (ih (A++W1) U2 D2 B _ _ _ _ hn2 (by omega) (by omega) Vr Vs (hA1 W1 Dy).symm (by rw[hA1 W1 Dy,hb3]) (by rw[hA1 W1 Dy,hb4]) (hl2 W1 Dy) (hsB W1 vZ)) (by rw[bO]) ?_;rintro t hp ⟨W2,zy,Ht,rfl,rfl⟩;refine⟨.dD [],h1 _,rfl,rfl,?_⟩;exact gq.one (c:=0) (j:=0) (o:=dX ((A++W1)++(W2++B))) (t:=.dD []) rfl rfl rfl (fun _=>rfl) (.inl rfl) trivial (.eq rfl) ⟨W1++W2,by rw[hU,hD]; exact fG vZ zy,oV KI Ht vZ zy TD,rfl,by simp⟩
     ·have Ht:jY (U2++D2):=qI Vr Vs (by
       rw[cH,bA,bA] at h8;rcases h8 with h8|h8
       ·exact .inl (ai (by omega))
       ·exact .inr (ai (by omega)))
      have zy:(U2++D2).Perm (U2++D2):=dc _;exact gq.one (c:=0) (j:=0) (o:=dX (A++(W1++(U2++(D2++B))))) (t:=.dD []) rfl rfl rfl (fun _=>rfl) (.inl rfl) trivial (.eq rfl) ⟨W1++(U2++D2),by rw[hU,hD]; exact fG vZ zy,oV KI Ht vZ zy TD,rfl,by simp⟩
    ·have KI:jY (U1++D1):=qI sU1 sD1 (by
      rw[cH,bA,bA] at h7;rcases h7 with h7|h7
      ·exact .inl (ai (by omega))
      ·exact .inr (ai (by omega)))
     have vZ:(U1++D1).Perm (U1++D1):=dc _;obtain⟨W1,hW1⟩: ∃ W1,W1=U1++D1:=⟨_,rfl⟩
     rw[show A++(U1++(D1++(U2++(D2++B))))=A++(W1++(U2++(D2++B))) by rw[hW1,bO]];rw[<- hW1] at KI;replace vZ:W1.Perm (U1++D1):=by rw[hW1]
     have Dy:=hlB W1 vZ;repeat(refine VC.mk (by first|exact id|exact fun h=>⟨h,h⟩) ?_)
     refine⟨fun h8=>?_,fun h8=>?_⟩
     ·rw[aD,aq,aq] at h8;refine ah.sZ (ih (A++W1) U2 D2 B _ _ _ _ hn2 (by omega) (by omega) Vr Vs (hA1 W1 Dy).symm (by rw[hA1 W1 Dy,hb3]) (by rw[hA1 W1 Dy,hb4]) (hl2 W1 Dy) (hsB W1 vZ)) (by rw[bO]) ?_;rintro t hp ⟨W2,zy,Ht,rfl,rfl⟩;refine⟨.dD [],h1 _,rfl,rfl,?_⟩;exact gq.one (c:=0) (j:=0) (o:=dX ((A++W1)++(W2++B))) (t:=.dD []) rfl rfl rfl (fun _=>rfl) (.inl rfl) trivial (.eq rfl) ⟨W1++W2,by rw[hU,hD]; exact fG vZ zy,oV KI Ht vZ zy TD,rfl,by simp⟩
     ·have Ht:jY (U2++D2):=qI Vr Vs (by
       rw[cH,bA,bA] at h8;rcases h8 with h8|h8
       ·exact .inl (ai (by omega))
       ·exact .inr (ai (by omega)))
      have zy:(U2++D2).Perm (U2++D2):=dc _;exact gq.one (c:=0) (j:=0) (o:=dX (A++(W1++(U2++(D2++B))))) (t:=.dD []) rfl rfl rfl (fun _=>rfl) (.inl rfl) trivial (.eq rfl) ⟨W1++(U2++D2),by rw[hU,hD]; exact fG vZ zy,oV KI Ht vZ zy TD,rfl,by simp⟩
def Runs(n:Nat)(l:List Elem):Prop:= ∀ k,jY ((l.drop (k*n)).take n)
theorem rM{n:Nat}{W:List Elem}(h:jY W):Runs n W:=fun _=>dq ((ge _ _).trans (gg _ _)) h
theorem xQ{n c:Nat}{D W:List Elem}(hD:Runs n D)(hc:D.length=c*n)(hW:Runs n W):Runs n (D++W):=by
 intro k;rcases eR k c with h|h
 ·have h1:(k+1)*n<=c*n:=cr n h;rw[eM] at h1;rw[gD (by omega),List.take_append_of_le_length (by rw[cA]; omega)];exact hD k
 ·obtain⟨j,rfl⟩: ∃ j,k=c+j:=⟨k-c,by omega⟩
  rw[de,<- hc,<- dm,List.drop_left];exact hW j
theorem FX{n:Nat}{R:List Elem}(h:Runs n R):Runs n (R.drop n):=by
 intro k;rw[dm];have:=h (k+1);rw[eM,gR] at this;exact this
theorem FY{n:Nat}{R:List Elem}(h:Runs n R):jY (R.take n):=by
 have:=h 0;simpa using this
theorem Hu{n:Nat}{R:List Elem}(h:Runs n R)(hl:R.length<=n):jY R:=by
 have:=FY h;rwa [bm hl] at this
structure alG where
 D:List Elem
 R:List Elem
structure ang where
 bs:Nat
 L:List Elem
set_option maxHeartbeats 1000000 in
theorem S.stable(l:List Elem)(n:Nat)(hl:l.length<2^30)(hs:gI l) :
  aP Tryz.prog 83 (V.aS [.own 0,.int l.length,fnT]) (h1 l).aj n (fun t hp=> ∃ W,W.Perm l/\jY W/\t= .dD []/\hp=(h1 W).aj):=by
 obtain⟨W0,w1,w2⟩:=zx l;refine nT.of (nx:=1) Bd.eU (by simp) ⟨_,_,W0,w1,w2,rfl,rfl⟩ rfl rfl ?_;refine aG.objs 1 [0,1,2,6] (fun s:alG=>[(8,.int (s.D.length+20:Nat)),(7,.int s.D.length)]) (fun s=>[(0,dX (s.D++s.R))]) (fun s=>(s.D++s.R).Perm l/\(∃ c,s.D.length=c*20)/\Runs 20 s.D) (fun s=>s.R.length) ⟨[],l⟩ [0] rfl (by decide) (fun _=>rfl) ⟨dc _,⟨0,rfl⟩,rM List.Pairwise.nil⟩ ?_ ?_ ?_
 ·exact(sR rfl)
 ·exact⟨mV rfl rfl,trivial⟩
 refine⟨(sR rfl),rfl,?_⟩;rintro⟨D,R⟩ ⟨i1,⟨c,i2⟩,i3⟩;simp only at i1 i2 i3;dsimp only;have hlen:D.length+R.length=l.length:=by rw[<- aL]; exact i1.length_eq
 refine⟨fun h3=>?_,fun h3=>?_⟩
 ·have h4:D.length+20<=l.length:=by have:=ag h3; omega
  have hT:R.take 20++R.drop 20=R:=cK _ _;have lT:(R.take 20).length=20:=by rw[bR]; omega
  have lT':(R.drop 20).length=R.length-20:=cA;refine ah.sZ (S.insertion D (R.take 20) (R.drop 20) _ _ _ rfl (by rw[lT]; omega) (by omega) (by rw[hT]; exact hs.perm i1)) (by rw[hT]; rfl) ?_;rintro t hp ⟨W,pW,sW,rfl,rfl⟩;have lW:W.length=20:=by rw[pW.length_eq]; exact lT
  refine⟨.dD [],h1 _,rfl,rfl,?_⟩;refine .mk (by first|(simp only[okI]; omega)|omega) ?_;refine⟨⟨D++W,R.drop 20⟩,[0],⟨?_,⟨c+1,?_⟩,xQ i3 i2 (rM sW)⟩,?_,⟨⟨_,rfl,.eq ?_⟩,⟨_,rfl,.eq ?_⟩,trivial⟩,(sR rfl),⟨rfl,(fun _=>rfl),rfl,rfl,rfl,_,rfl,rfl,rfl,dB.of_eq ?_⟩,trivial⟩
  ·show(D++W++R.drop 20).Perm l;refine List.Perm.trans ?_ i1;rw[bO];refine dz _ ?_;refine(pW.append_right _).trans ?_;rw[hT]
  ·show(D++W).length=_; rw[aL]; omega
  ·show(R.drop 20).length<R.length; omega
  ·show T.int (((D++W).length+20:Nat):Int)=T.int (((D.length+20:Nat):Int)+20);exact dC T.int (by rw[aL,lW]; omega)
  ·show T.int ((D++W).length:Int)=T.int ((D.length+20:Nat):Int);rw[aL,lW]
  ·show(dX (D++W++R.drop 20)).au.l=_; rw[bO]
 have h4:l.length<D.length+20:=by have:=aM h3; omega
 refine ah.sZ (S.insertion D R [] _ _ _ rfl (by omega) (by simp only[cC]; omega) (by rw[cS]; exact hs.perm i1)) (by rw[cS]; rfl) ?_;rintro t hp ⟨W,pW,sW,rfl,rfl⟩;have hR:=xQ i3 i2 (rM (n:=20) sW);have hP:(D++W).Perm l:=((dz _ pW)).trans i1;refine⟨.dD [],h1 (D++W),rfl,by rw[cS],?_⟩;generalize D++W=L0 at hR hP;refine aG.objs 1 [0,1,2] (fun s:ang=>[(6,.int s.bs)]) (fun s=>[(0,dX s.L)]) (fun s=>s.L.Perm l/\Runs s.bs s.L/\20<=s.bs/\s.bs<2^32) (fun s=>l.length-s.bs) ⟨20,L0⟩ [0] rfl (by decide) (fun _=>rfl) ⟨hP,hR,ba 20,(show 20<2^32 by decide)⟩ ?_ ?_ ?_
 ·exact(sR rfl)
 ·exact⟨mV rfl rfl,trivial⟩
 refine⟨(sR rfl),rfl,?_⟩;rintro⟨bs,L⟩ ⟨j1,j2,j3,j4⟩;simp only at j1 j2 j3 j4;dsimp only;have hLl:=j1.length_eq;refine⟨fun h5=>?_,fun h5=>?_⟩
 ·have h6:bs<l.length:=by have:=ag h5; omega
  refine .mk (by first|(simp only[okI]; omega)|omega) ?_;refine aG.objs 1 [0,1,2,6] (fun s:alG=>[(8,.int (s.D.length+2*bs:Nat)),(7,.int s.D.length)]) (fun s=>[(0,dX (s.D++s.R))]) (fun s=>(s.D++s.R).Perm l/\(∃ c,s.D.length=c*(2*bs))/\Runs (2*bs) s.D/\Runs bs s.R) (fun s=>s.R.length) ⟨[],L⟩ [0] rfl (by decide) (fun _=>rfl) ⟨j1,⟨0,by simp⟩,rM List.Pairwise.nil,j2⟩ ?_ ?_ ?_
  ·refine⟨⟨_,rfl,.eq ?_⟩,⟨_,rfl,.eq rfl⟩,trivial⟩;show T.int ((0+2*bs:Nat):Int)=T.int (2*(bs:Int));exact dC T.int (by omega)
  ·exact⟨mV rfl rfl,trivial⟩
  refine⟨(sR rfl),rfl,?_⟩;rintro⟨D,R⟩ ⟨k1,⟨c,k2⟩,k3,k4⟩;simp only at k1 k2 k3 k4;dsimp only;have hlen:D.length+R.length=l.length:=by rw[<- aL]; exact k1.length_eq
  refine⟨fun h7=>?_,fun h7=>?_⟩
  ·have h8:D.length+2*bs<=l.length:=by have:=ag h7; omega
   have hT:R.take bs++((R.drop bs).take bs++(R.drop bs).drop bs)=R:=by rw[cK,cK]
   have l1:(R.take bs).length=bs:=by rw[bR]; omega
   have l2:((R.drop bs).take bs).length=bs:=by rw[bR,cA]; omega
   have l3:((R.drop bs).drop bs).length=R.length-2*bs:=by rw[cA,cA]; omega
   refine .mk (by first|(simp only[okI]; omega)|omega) ?_;refine ah.sZ (S.symMerge (2*bs) D (R.take bs) ((R.drop bs).take bs) ((R.drop bs).drop bs) _ _ _ _ (by omega) (by omega) (by omega) (FY k4) (FY (FX k4)) rfl (by rw[l1]) (by rw[l1,l2]; omega) (by omega) (by rw[hT]; exact hs.perm k1)) (by rw[hT]; rfl) ?_;rintro t hp ⟨W,pW,sW,rfl,rfl⟩;have lW:W.length=2*bs:=by rw[pW.length_eq,aL]; omega
   refine⟨.dD [],h1 _,rfl,rfl,?_⟩;repeat(refine VC.mk (by first|(simp only[okI]; omega)|omega) ?_)
   refine⟨⟨D++W,(R.drop bs).drop bs⟩,[0],⟨?_,⟨c+1,?_⟩,xQ k3 k2 (rM sW),FX (FX k4)⟩,?_,⟨⟨_,rfl,.eq ?_⟩,⟨_,rfl,.eq ?_⟩,trivial⟩,(sR rfl),⟨rfl,(fun _=>rfl),rfl,rfl,rfl,_,rfl,rfl,rfl,dB.of_eq ?_⟩,trivial⟩
   ·show(D++W++(R.drop bs).drop bs).Perm l;refine List.Perm.trans ?_ k1;rw[bO];refine dz _ ?_;refine(pW.append_right _).trans ?_;rw[bO,hT]
   ·show(D++W).length=_; rw[aL,eM]; omega
   ·show((R.drop bs).drop bs).length<R.length; omega
   ·show T.int (((D++W).length+2*bs:Nat):Int)=T.int (((D.length+2*bs:Nat):Int)+2*(bs:Int));exact dC T.int (by rw[aL,lW]; omega)
   ·show T.int ((D++W).length:Int)=T.int ((D.length+2*bs:Nat):Int);rw[aL,lW]
   ·show(dX (D++W++(R.drop bs).drop bs)).au.l=_; rw[bO]
  have h8:l.length<D.length+2*bs:=by have:=aM h7; omega
  refine .mk (by first|(simp only[okI]; omega)|omega) ?_;refine⟨fun h9=>?_,fun h9=>?_⟩
  ·have h10:D.length+bs<l.length:=by have:=ag h9; omega
   have hT:R.take bs++(R.drop bs++[])=R:=by rw[cS,cK]
   have l1:(R.take bs).length=bs:=by rw[bR]; omega
   have l2:(R.drop bs).length=R.length-bs:=cA;refine ah.sZ (S.symMerge (2*bs) D (R.take bs) (R.drop bs) [] _ _ _ _ (by omega) (by omega) (by omega) (FY k4) (Hu (FX k4) (by omega)) rfl (by rw[l1]) (by omega) (by simp only[cC]; omega) (by rw[hT]; exact hs.perm k1)) (by rw[hT]; rfl) ?_;rintro t hp ⟨W,pW,sW,rfl,rfl⟩;refine⟨.dD [],h1 _,rfl,rfl,?_⟩;refine .mk (by first|(simp only[okI]; omega)|omega) ?_;refine⟨⟨bs*2,D++W⟩,[0],⟨?_,?_,by show 20<=bs*2; omega,by show bs*2<_; omega⟩,by show l.length-bs*2<l.length-bs; omega,⟨⟨_,rfl,.eq ?_⟩,trivial⟩,(sR rfl),⟨rfl,(fun _=>rfl),rfl,rfl,rfl,_,rfl,rfl,rfl,dB.of_eq ?_⟩,trivial⟩
   ·show(D++W).Perm l;refine List.Perm.trans ?_ k1;refine dz _ (pW.trans ?_);rw[cK]
   ·show Runs (bs*2) (D++W);rw[gm]; exact xQ k3 k2 (rM sW)
   ·show T.int ((bs*2:Nat):Int)=T.int ((bs:Int)*2)
    congr 2
   ·show(dX (D++W)).au.l=_; rw[cS]
  ·have h10:l.length<=D.length+bs:=by have:=aM h9; omega
   refine .mk (by first|(simp only[okI]; omega)|omega) ?_;refine⟨⟨bs*2,D++R⟩,[0],⟨k1,?_,by show 20<=bs*2; omega,by show bs*2<_; omega⟩,by show l.length-bs*2<l.length-bs; omega,⟨⟨_,rfl,.eq ?_⟩,trivial⟩,(sR rfl),mV rfl rfl,trivial⟩
   ·show Runs (bs*2) (D++R);rw[gm]; exact xQ k3 k2 (rM (Hu k4 (by omega)))
   ·show T.int ((bs*2:Nat):Int)=T.int ((bs:Int)*2)
    congr 2
 ·have h6:l.length<=bs:=by have:=aM h5; omega
  exact gq.one (c:=0) (j:=0) (o:=dX L) (t:=.dD []) rfl rfl rfl (fun _=>rfl) (.inl rfl) trivial (.eq rfl) ⟨L,j1,Hu j2 (by omega),rfl,rfl⟩
theorem S.Ya(l:List Elem)(n:Nat)(hl:l.length<2^30)(hs:gI l) :
  aP Tryz.prog 51 (V.aS [.own 0,fnT]) (h1 l).aj n (fun t hp=> ∃ W,W.Perm l/\jY W/\t= .dD []/\hp=(h1 W).aj):=by
 obtain⟨W0,w1,w2⟩:=zx l;refine nT.of (nx:=1) Bd.bF (by simp) ⟨_,_,W0,w1,w2,rfl,rfl⟩ rfl rfl ?_;refine ah.heap (S.stable l _ hl hs) ?_;rintro t hp ⟨W,pW,sW,rfl,rfl⟩;refine⟨.dD [],h1 W,rfl,rfl,?_⟩;exact gq.one (c:=0) (j:=0) (o:=dX W) (t:=.dD []) rfl rfl rfl (fun _=>rfl) (.inl rfl) trivial (.eq rfl) ⟨W,pW,sW,rfl,rfl⟩
structure EI(e:Elem):Prop where
 len:e.counts.length<=6
 nums:X0 e.counts
theorem adK: ∀ {a b:List Int},jL a b=true->a.sum<=b.sum/\(a≠b->a.sum<b.sum):=by
 intro a;induction a with
 |nil=>intro b h; cases b<;>simp[jL] at *
 |cons x a ih =>
  intro b h;cases b with
  |nil=>simp[jL] at h
  |cons y b =>
   simp only[jL,aD,aq] at h;obtain⟨h1,h2⟩:=ih h.2;simp only[eJ];refine⟨by omega,fun hne=>?_⟩;by_cases e:a=b
   ·have:x≠y:=fun q=>hne (by rw[q,e])
    omega
   ·have:=h2 e; omega
theorem Vt{e:Elem}(h:EI e):fH e=e.counts.sum:=by
 have h1:=h.len;rw[fH,bB (by omega),bc];rw[bj];exact fun x hx=>TB.2 (h.nums x hx)
theorem ajR{a b:Elem}(ha:EI a)(hb:EI b)(h:pO a b=true)(hne:a≠b):fH a<fH b:=by
 rw[Vt ha,Vt hb];simp only[pO,aD,bt] at h;refine(adK h.2).2 fun e=>hne ?_
 obtain⟨v,c⟩:=a; obtain⟨w,d⟩:=b;simp only at h e;rw[h.1,e]
theorem adL{W:List Elem}(hs:jY W)(hg: ∀ e∈W,EI e): ∀ i,i<=W.length-> ∀ x,x∈(W.take i).foldl vg []↔x∈W.take i/\W.any (EM x)=false:=by
 intro i;induction i with
 |zero=>intro _ x; simp
 |succ i ih =>
  intro hi x;have ih:=ih (by omega);have hil:i<W.length:=by omega
  rw[Oh vg [] default hil];have hlast:W.take (i+1)=W.take i++[W.getD i default]:=by rw[cQ]; simp[hil]
  generalize hy:W.getD i default=y at hlast ⊢;have hyW:y∈W:=by rw[<- hy]; simp[hil]
  generalize hK:(W.take i).foldl vg []=K at ih ⊢;rw[hlast];unfold vg;cases hm:W.any (EM y) with
  |true =>
   rw[cL] at hm;obtain⟨u,hu,hab⟩:=hm;obtain⟨z,hz,h1,h2⟩:=adM W hu;have hu2:=BQ.1 hab;have hzy:pO z y=true:=Dt h1 hu2.1;have hne:z≠y:=by
    rintro rfl;have g1:=Vu h1;have g2:=TF hab;rw[vk] at g1; omega
   have hlt:=ajR (hg z hz) (hg y hyW) hzy hne;have hzt:z∈W.take i:=by
    rw[<- cK i W,ci] at hz;rcases hz with hz|hz
    ·exact hz
    ·exfalso;obtain⟨j,a1,a2,rfl⟩:=BR hz;have:=yK hs a1 a2;rw[hy] at this; omega
   have hzK:z∈K:=(ih z).2 ⟨hzt,h2⟩;rw[bc (cL.2 ⟨z,hzK,hzy⟩),ih];simp only[ci,br];constructor
   ·rintro⟨a,b⟩; exact⟨.inl a,b⟩
   ·rintro⟨a|a,b⟩
    ·exact⟨a,b⟩
    ·subst a;rw[cq] at b;exact absurd hab (b u hu)
  |false =>
   split
   ·rename_i hc;rw[cL] at hc;obtain⟨b,hb,hby⟩:=hc;have hbW:=eQ ((ih b).1 hb).1;have e:b=y:=by
     refine Classical.byContradiction fun hne=>?_
     rw[cq] at hm;exact hm b hbW (BQ.2 ⟨hby,hne⟩)
    subst e;rw[ih];simp only[ci,br];constructor
    ·rintro⟨a,b⟩; exact⟨.inl a,b⟩
    ·rintro⟨a|a,b⟩
     ·exact⟨a,b⟩
     ·subst a; exact(ih x).1 hb
   ·simp only[ci,br,ih];constructor
    ·rintro(⟨a,b⟩|a)
     ·exact⟨.inl a,b⟩
     ·subst a; exact⟨.inr rfl,hm⟩
    ·rintro⟨a|a,b⟩
     ·exact .inl ⟨a,b⟩
     ·exact .inr a
theorem ag2{l W:List Elem}(hg: ∀ e∈l,EI e)(p:W.Perm l)(hs:jY W):AA (W.foldl vg [])=bG l:=by
 refine KF (Vw _) (iY l).1 fun x=>?_
 have:=adL hs (fun e he=>hg e (p.mem_iff.1 he)) _ (ba _) x;rw[bx] at this;rw[KJ,this,(iY l).2,p.mem_iff,any_congr (fun y=>p.mem_iff)]
theorem S.BP(l:List Elem)(n:Nat)(hn:0<n)(hl:l.length<2^29)(hg: ∀ e∈l,EI e) :
  aP Tryz.prog 29 (V.aS [.own 0]) (h1 l).aj n (fun t hp=>(t= .own n/\hp=Hz.aj [(n,some (dX (bG l)))])\/(∃ m,t= .rG n 0 (bG l).length/\hp=Hz.aj [(n,some (.row 47 3 (.elems (bG l)) (List.replicate m zeroV)))])):=by
 have hs:Yb l:=fun e he=>by have:=(hg e he).len; omega
 refine nT.of (nx:=1) Bd.qJ (by simp) ⟨_,_,.inl ⟨rfl,rfl⟩⟩ rfl rfl ?_;refine ah.heap (S.Ya l _ (by omega) hs.e) ?_;rintro t hp ⟨W,pW,sW,rfl,rfl⟩;refine⟨.dD [],h1 W,rfl,rfl,?_⟩;have hWl:=pW.length_eq;have hWs:gI W:=hs.e.perm pW;have alH:=ag2 hg pW sW;refine aG.nil 3 47 3 (by rfl) rfl rfl rfl ?_;refine aG.objs 3 [9] (fun i:Nat=>[(10,.int i),(3,.own 2),(8,.own 0)]) (fun i=>[(0,dX W),(2,dX ((W.take i).foldl vg []))]) (fun i=>i<=W.length) (fun i=>W.length-i) 0 [0,8] rfl (by decide) (fun _=>rfl) (ao _) ?_ ?_ ?_
 ·exact(sR rfl)
 ·exact⟨mV rfl rfl,mV rfl rfl,trivial⟩
 refine⟨(sR rfl),rfl,?_⟩;rintro i hi;have hkl:((W.take i).foldl vg []).length<=i:=by
  have:=adN (W.take i) [];simp at this; omega
 refine⟨fun h3=>?_,fun h3=>?_⟩
 ·have hi':i<W.length:=by simpa using h3
  have hstep:=Oh vg [] (l:=W) default hi';repeat(refine VC.mk (by simp only[Rw.rng] at *; omega) ?_)
  refine ah.lend (S.jE _ (W.getD i default) false (by omega) (Oi hWs i) (hWs.get i)) ⟨Vx trivial rfl,aH _,trivial⟩ rfl rfl ?_;refine⟨fun h4=>?_,fun h4=>?_⟩
  ·conv=>whnf
   repeat(refine VC.mk (by first|(show(((W.take i).foldl vg []).length+(0+1))*32<=140737488355328/\((W.take i).foldl vg []).length+(0+1)<=1152921504606846976; omega)|(simp only[okI] at *; omega)) ?_)
   refine⟨i+1,[0,15],by omega,by omega,(sR rfl),(sR rfl),mV rfl rfl,⟨rfl,nofun,rfl,rfl,rfl,_,rfl,rfl,rfl,dB.of_eq ?_⟩,trivial⟩;rw[bq] at h4;rw[hstep,vg,bB (by rw[h4]; decide)];show List.map jK _++[]=List.map jK _++[jK _];simp
  ·conv=>whnf
   refine .mk (by simp only[okI] at *; omega) ?_;refine⟨i+1,[0,2],by omega,by omega,(sR rfl),(sR rfl),mV rfl rfl,⟨rfl,nofun,rfl,rfl,rfl,_,rfl,rfl,rfl,dB.of_eq ?_⟩,trivial⟩;rw[dg] at h4;rw[hstep,vg,bc h4]
 ·have hi':W.length<=i:=by simpa using h3
  rw[bm hi'] at hkl ⊢;conv=>whnf
  have hks:gI (W.foldl vg []):=by
   have:=Oi hWs W.length;rwa [bx] at this
  refine ah.tidy rfl rfl (by omega) hks ?_ (fun m=>?_)
  ·rw[alH];exact gq.one (c:=n) (j:=2) (o:=dX (bG l)) (t:=.own n) rfl rfl rfl (fun h=>by rw[adO hn] at h; cases h) (.inr rfl) rfl (.eq rfl) (.inl ⟨rfl,rfl⟩)
  ·rw[alH];exact gq.one (c:=n) (j:=2) (o:=.row 47 3 (.elems (bG l)) (List.replicate m zeroV)) (t:=.rG n 0 (bG l).length) rfl (Oj _ _ _) (I7 _ _) (fun h=>by rw[adO hn] at h; cases h) (.inr rfl) rfl (.eq rfl) (.inr ⟨m,rfl,rfl⟩)
end Go.Proofs.YtdloaandiobgdaaGreatDoor
