/-
 A part of the proof. No condition.
-/
import Derived.Test.YtbdbmfccbpfeoaaGreatDoorHa
import Derived.Test.YtbdbmfccbpfeoaaGreatDoorFa
namespace Go.Proofs.YtbdbmfccbpfeoaaGreatDoor
open Go.Ab Go.Proofs
set_option maxRecDepth 100000
theorem x8(l:List Elem): ∃ W,W.Perm l/\iU W:=⟨l.mergeSort (fun x y=>decide (dS x<=dS y)),List.mergeSort_perm _ _,by
 have:=List.pairwise_mergeSort (le:=fun x y:Elem=>decide (dS x<=dS y)) (fun a b c h1 h2=>by simp only[ab] at *; omega) (fun a b=>by simp only[cS,ab]; omega) l
 exact this.imp (fun h=>aq h)⟩
theorem wR{l:List Elem}(h:iU l){i j:Nat}(hij:i<=j)(hj:j<l.length):dS (l.getD i default)<=dS (l.getD j default):=by
 rcases ee i j with hlt|hge
 ·have:=fY.1 h i j (by omega) hj hlt;simpa [show i<l.length by omega,hj] using this
 ·rw[show i=j by omega]; exact Int.le_refl _
theorem CU{l:List Elem}{k:Nat}{x:Elem}(h:x∈l.take k): ∃ i,i<k/\i<l.length/\x=l.getD i default:=by
 rw[eD] at h;obtain⟨i,hi,rfl⟩:=h;exact⟨i,by omega,by omega,by simp[show i<l.length by omega]⟩
theorem zV{l:List Elem}{k:Nat}{x:Elem}(h:x∈l.drop k): ∃ i,k<=i/\i<l.length/\x=l.getD i default:=by
 rw[List.mem_drop_iff_getElem] at h;obtain⟨i,hi,rfl⟩:=h;exact⟨k+i,by omega,by omega,by simp[show k+i<l.length by omega]⟩
theorem Xx{l:List Elem}{x:Elem}{p:Nat}(h:iU l)(hp:p<=l.length)(h1:p=0\/dS (l.getD (p-1) default)<=dS x)(h2:p=l.length\/dS x<=dS (l.getD p default)):iU (l.take p++(x::l.drop p)):=by
 have a1: ∀ y∈l.take p,dS y<=dS x:=fun y hy=>by
  obtain⟨i,e1,e2,rfl⟩:=CU hy;rcases h1 with h1|h1
  ·omega
  ·have:=wR h (i:=i) (j:=p-1) (by omega) (by omega); omega
 have a2: ∀ y∈l.drop p,dS x<=dS y:=fun y hy=>by
  obtain⟨i,e1,e2,rfl⟩:=zV hy;rcases h2 with h2|h2
  ·omega
  ·have:=wR h (i:=p) (j:=i) e1 e2; omega
 simp only[iU,ek,dT];refine⟨db (fg _ _) h,⟨a2,db (fh _ _) h⟩,fun y hy z hz=>?_⟩;rcases bm.1 hz with rfl|hz
 ·exact a1 y hy
 ·have:=a1 y hy; have:=a2 z hz; omega
theorem RX{l:List Elem}{x:Elem}{p:Nat}:(l.take p++(x::l.drop p)).Perm (x::l):=by
 refine List.perm_middle.trans ?_;rw[bx]
theorem J8{P Q R:List Elem}{k i:Nat}(hi:i<Q.length)(hk:k=P.length+i):(P++(Q++R)).getD k default=Q.getD i default:=by
 subst hk;rw[ag,ci (by omega),show P.length+i-P.length=i by omega,cX hi,ag]
structure ahT where
 p:Nat
 q:Nat
theorem S.YW(A:List Elem)(x:Elem)(D B:List Elem)(n:Nat)(hD:0<D.length)(sD:iU D)(hl:A.length+1+D.length+B.length<2^40)(hs:eG (A++([x]++(D++B)))) :
  aO Tryz.prog 158 (V.aQ [.own 0,.int A.length,.int (A.length+1:Nat),.int (A.length+1+D.length:Nat),fnT]) (h1 (A++([x]++(D++B)))).au n (fun t hp=> ∃ W,W.Perm ([x]++D)/\iU W/\t= .bU []/\hp=(h1 (A++(W++B))).au):=by
 have gx: ∀ {k:Nat},k=A.length->(A++([x]++(D++B))).getD k default=x:=fun {k} hk=>get_at hk
 have gd: ∀ {k i:Nat},i<D.length->k=A.length+1+i->(A++([x]++(D++B))).getD k default=D.getD i default:=fun {k i} hi hk=>by
  rw[<- ax]; exact J8 hi (by rw[hk]; simp)
 have hL:(A++([x]++(D++B))).length=A.length+1+D.length+B.length:=by simp; omega
 obtain⟨W0,w1,w2⟩:=x8 ([x]++D);refine og.of (nx:=1) Bd.dw (by simp) ⟨_,_,W0,w1,w2,rfl,rfl⟩ rfl rfl ?_;refine .mk (by simp only[okI] at *; omega) ?_;refine Fork.mk (fun _=>?_) (fun q=>absurd (q.symm.trans ((by simp only[bo]; omega))) aM);refine aF.same [0,1,2,3,4] (fun s:ahT=>[(10,.int (A.length+1+s.p:Nat)),(11,.int (A.length+1+s.q:Nat))]) (fun s=>s.p<=s.q/\s.q<=D.length/\(s.p=0\/dS (D.getD (s.p-1) default)<dS x)/\(s.q=D.length\/dS x<=dS (D.getD s.q default))) (fun s=>s.q-s.p) ⟨0,D.length⟩ rfl (by decide) rfl (fun _=>rfl) ⟨ap _,bO _,.inl rfl,.inl rfl⟩ ⟨⟨_,rfl,rfl⟩,⟨_,rfl,rfl⟩,trivial⟩ ?_;refine⟨rfl,?_⟩;rintro⟨p,q⟩ ⟨i1,i2,i3,i4⟩;simp only at i1 i2 i3 i4;dsimp only;refine⟨fun h3=>?_,fun h3=>?_⟩
 ·have hpq:p<q:=by
   have:=aq h3; omega
  have hc:Vy (((A.length+1+p:Nat):Int)+((A.length+1+q:Nat):Int)) 1=((A.length+1+(p+q) / 2:Nat):Int):=by rw[CV]; omega
  repeat(refine VC.mk (by first|(simp only[okI]; omega)|omega|(simp only[Rw.rng,hL]; omega)) ?_)
  rw[hc];refine ah.pure (S.tq _ _ (hs.get _) (hs.get _)) rfl ?_;conv=>whnf
  have e1:(((A.length+1+(p+q) / 2:Nat):Int)).toNat=A.length+1+(p+q) / 2:=rfl;have e2:((A.length:Int)).toNat=A.length:=rfl;refine⟨fun h4=>?_,fun h4=>?_⟩
  ·have h5:=aq h4;rw[e1,e2,gx rfl,gd (show(p+q) / 2<D.length by omega) rfl] at h5;refine .mk (by first|(simp only[okI]; omega)|omega) ?_;refine⟨⟨(p+q) / 2+1,q⟩,⟨by show(p+q) / 2+1<=q; omega,i2,.inr ?_,i4⟩,by show q-((p+q) / 2+1)<q-p; omega,⟨⟨_,rfl,?_⟩,⟨_,rfl,rfl⟩,trivial⟩,?_,rfl⟩
   ·show dS (D.getD ((p+q) / 2+1-1) default)<dS x;rw[Nat.add_sub_cancel]; omega
   ·show T.int ((A.length+1+((p+q) / 2+1):Nat):Int)=T.int (((A.length+1+(p+q) / 2:Nat):Int)+1)
    congr 2
   ·repeat' (first|exact trivial|exact⟨_,rfl,rfl⟩|constructor)
  ·have h5:=aR h4;rw[e1,e2,gx rfl,gd (show(p+q) / 2<D.length by omega) rfl] at h5;refine⟨⟨p,(p+q) / 2⟩,⟨by show p<=(p+q) / 2; omega,by show(p+q) / 2<=D.length; omega,i3,.inr ?_⟩,by show(p+q) / 2-p<q-p; omega,⟨⟨_,rfl,rfl⟩,⟨_,rfl,rfl⟩,trivial⟩,?_,rfl⟩
   ·show dS x<=dS (D.getD ((p+q) / 2) default); omega
   ·repeat' (first|exact trivial|exact⟨_,rfl,rfl⟩|constructor)
 ·have hpq:p=q:=by
   have:=aR h3; omega
  subst hpq;have hst:=Xx (x:=x) sD i2 (by rcases i3 with i3|i3; exact .inl i3; exact .inr (by omega)) i4;refine aF.objs 1 [0,1,2,3,4,10] (fun c:Nat=>[(13,.int (A.length+c:Nat))]) (fun c=>[(0,bT (A++(D.take c++(x::(D.drop c++B)))))]) (fun c=>c<=p) (fun c=>p-c) 0 [0] rfl (by decide) (fun _=>rfl) (ap _) ?_ ?_ ?_
  ·exact(sR rfl)
  ·exact⟨gK rfl rfl,trivial⟩
  refine⟨(sR rfl),rfl,?_⟩;rintro c hc;have hLc:(A++(D.take c++(x::(D.drop c++B)))).length=A.length+1+D.length+B.length:=by simp; omega
  refine .mk (by first|(simp only[okI]; omega)|omega) ?_;refine⟨fun h5=>?_,fun h5=>?_⟩
  ·have hcp:c<p:=by
    have:=aq h5; omega
   have hcd:c<D.length:=by omega
   have hd:=dh default hcd;have ht:D.take (c+1)=D.take c++[D.getD c default]:=by rw[cJ]; simp[hcd]
   have r0:A++(D.take c++(x::(D.drop c++B)))=(A++D.take c)++(x::(D.getD c default::(D.drop (c+1)++B))):=by rw[hd]; simp
   have l0:A.length+c=(A++D.take c).length:=by simp; omega
   have e1:(((A.length+c:Nat):Int)).toNat=A.length+c:=rfl;have e2:(((A.length+c:Nat):Int)+1).toNat=A.length+c+1:=rfl;have g1:(A++(D.take c++(x::(D.drop c++B)))).getD (A.length+c) default=x:=by rw[r0]; exact get_at l0
   have g2:(A++(D.take c++(x::(D.drop c++B)))).getD (A.length+c+1) default=D.getD c default:=by
    rw[r0,show(A++D.take c)++(x::(D.getD c default::(D.drop (c+1)++B)))=((A++D.take c)++[x])++(D.getD c default::(D.drop (c+1)++B)) by simp];exact get_at (by simp only[aL,bN,bw,bL]; omega)
   repeat(refine VC.mk (by first|(simp only[okI]; omega)|omega|(simp only[Rw.rng,co,hLc]; omega)) ?_)
   refine⟨c+1,[0],by omega,by omega,⟨⟨_,rfl,.eq ?_⟩,trivial⟩,(sR rfl),⟨rfl,(fun _=>rfl),rfl,rfl,rfl,_,rfl,rfl,rfl,dH.of_eq ?_⟩,trivial⟩
   ·show T.int ((A.length+(c+1):Nat):Int)=T.int (((A.length+c:Nat):Int)+1)
    congr 2
   ·rw[e1,e2,g1,g2,r0,wG l0,show(A++D.take c)++(D.getD c default::(D.getD c default::(D.drop (c+1)++B)))=((A++D.take c)++[D.getD c default])++(D.getD c default::(D.drop (c+1)++B)) by simp,wG (by simp only[aL,bN,bw,bL]; omega),ht];simp
  ·have hcp:c=p:=by
    have:=aR h5; omega
   subst hcp;exact gG.one (c:=0) (j:=0) (o:=bT (A++(D.take c++(x::(D.drop c++B))))) (t:=.bU []) rfl rfl rfl (fun _=>rfl) (.inl rfl) trivial (.eq rfl) ⟨_,RX,hst,rfl,by simp⟩
theorem S.YX(A:List Elem)(x:Elem)(U B:List Elem)(n:Nat)(hU:1<U.length)(sU:iU U)(hl:A.length+U.length+1+B.length<2^40)(hs:eG (A++(U++([x]++B)))) :
  aO Tryz.prog 158 (V.aQ [.own 0,.int A.length,.int (A.length+U.length:Nat),.int (A.length+U.length+1:Nat),fnT]) (h1 (A++(U++([x]++B)))).au n (fun t hp=> ∃ W,W.Perm (U++[x])/\iU W/\t= .bU []/\hp=(h1 (A++(W++B))).au):=by
 have gx: ∀ {k:Nat},k=A.length+U.length->(A++(U++([x]++B))).getD k default=x:=fun {k} hk=>by
  rw[<- ax]; exact get_at (by rw[hk]; simp)
 have gd: ∀ {k i:Nat},i<U.length->k=A.length+i->(A++(U++([x]++B))).getD k default=U.getD i default:=fun {k i} hi hk=>J8 hi hk
 have hL:(A++(U++([x]++B))).length=A.length+U.length+1+B.length:=by simp; omega
 obtain⟨W0,w1,w2⟩:=x8 (U++[x]);refine og.of (nx:=1) Bd.dw (by simp) ⟨_,_,W0,w1,w2,rfl,rfl⟩ rfl rfl ?_;refine .mk (by simp only[okI] at *; omega) ?_;refine Fork.mk (fun q=>absurd (q.symm.trans ((by simp only[cE]; omega))).symm aM) (fun _=>?_);refine .mk (by simp only[okI] at *; omega) ?_;refine Fork.mk (fun _=>?_) (fun q=>absurd (q.symm.trans ((by simp only[bo]; omega))) aM);refine aF.same [0,1,2,3,4] (fun s:ahT=>[(14,.int (A.length+s.p:Nat)),(15,.int (A.length+s.q:Nat))]) (fun s=>s.p<=s.q/\s.q<=U.length/\(s.p=0\/dS (U.getD (s.p-1) default)<=dS x)/\(s.q=U.length\/dS x<dS (U.getD s.q default))) (fun s=>s.q-s.p) ⟨0,U.length⟩ rfl (by decide) rfl (fun _=>rfl) ⟨ap _,bO _,.inl rfl,.inl rfl⟩ ⟨⟨_,rfl,rfl⟩,⟨_,rfl,rfl⟩,trivial⟩ ?_;refine⟨rfl,?_⟩;rintro⟨p,q⟩ ⟨i1,i2,i3,i4⟩;simp only at i1 i2 i3 i4;dsimp only;refine⟨fun h3=>?_,fun h3=>?_⟩
 ·have hpq:p<q:=by
   have:=aq h3; omega
  have hc:Vy (((A.length+p:Nat):Int)+((A.length+q:Nat):Int)) 1=((A.length+(p+q) / 2:Nat):Int):=by rw[CV]; omega
  repeat(refine VC.mk (by first|(simp only[okI]; omega)|omega|(simp only[Rw.rng,hL]; omega)) ?_)
  rw[hc];refine ah.pure (S.tq _ _ (hs.get _) (hs.get _)) rfl ?_;conv=>whnf
  have e1:(((A.length+(p+q) / 2:Nat):Int)).toNat=A.length+(p+q) / 2:=rfl;have e2:(((A.length+U.length:Nat):Int)).toNat=A.length+U.length:=rfl;refine⟨fun h4=>?_,fun h4=>?_⟩
  ·rw[bl] at h4;have h5:=aR h4;rw[e1,e2,gx rfl,gd (show(p+q) / 2<U.length by omega) rfl] at h5;refine .mk (by first|(simp only[okI]; omega)|omega) ?_;refine⟨⟨(p+q) / 2+1,q⟩,⟨by show(p+q) / 2+1<=q; omega,i2,.inr ?_,i4⟩,by show q-((p+q) / 2+1)<q-p; omega,⟨⟨_,rfl,?_⟩,⟨_,rfl,rfl⟩,trivial⟩,?_,rfl⟩
   ·show dS (U.getD ((p+q) / 2+1-1) default)<=dS x;rw[Nat.add_sub_cancel]; omega
   ·show T.int ((A.length+((p+q) / 2+1):Nat):Int)=T.int (((A.length+(p+q) / 2:Nat):Int)+1)
    congr 2
   ·repeat' (first|exact trivial|exact⟨_,rfl,rfl⟩|constructor)
  ·rw[da] at h4;have h5:=aq h4;rw[e1,e2,gx rfl,gd (show(p+q) / 2<U.length by omega) rfl] at h5;refine⟨⟨p,(p+q) / 2⟩,⟨by show p<=(p+q) / 2; omega,by show(p+q) / 2<=U.length; omega,i3,.inr ?_⟩,by show(p+q) / 2-p<q-p; omega,⟨⟨_,rfl,rfl⟩,⟨_,rfl,rfl⟩,trivial⟩,?_,rfl⟩
   ·show dS x<dS (U.getD ((p+q) / 2) default); omega
   ·repeat' (first|exact trivial|exact⟨_,rfl,rfl⟩|constructor)
 ·have hpq:p=q:=by
   have:=aR h3; omega
  subst hpq;have hst:=Xx (x:=x) sU i2 i3 (by rcases i4 with i4|i4; exact .inl i4; exact .inr (by omega));refine aF.objs 1 [0,1,2,3,4,14] (fun c:Nat=>[(17,.int (A.length+c:Nat))]) (fun c=>[(0,bT (A++(U.take c++(x::(U.drop c++B)))))]) (fun c=>p<=c/\c<=U.length) (fun c=>c) U.length [0] rfl (by decide) (fun _=>rfl) ⟨i2,bO _⟩ ?_ ?_ ?_
  ·exact(sR rfl)
  ·refine⟨⟨rfl,(fun _=>rfl),rfl,rfl,rfl,_,rfl,rfl,rfl,dH.of_eq ?_⟩,trivial⟩;rw[bk (bO _),cD (bO _)]; rfl
  refine⟨(sR rfl),rfl,?_⟩;rintro c ⟨hc0,hc⟩;have hLc:(A++(U.take c++(x::(U.drop c++B)))).length=A.length+U.length+1+B.length:=by simp; omega
  refine⟨fun h5=>?_,fun h5=>?_⟩
  ·obtain⟨c,rfl⟩: ∃ k,c=k+1:=⟨c-1,by have:=aq h5; omega⟩
   have hcp:p<c+1:=by
    have:=aq h5; omega
   have hcd:c<U.length:=by omega
   have hd:=dh default hcd;have ht:U.take (c+1)=U.take c++[U.getD c default]:=by rw[cJ]; simp[hcd]
   have r0:A++(U.take (c+1)++(x::(U.drop (c+1)++B)))=(A++U.take c)++(U.getD c default::(x::(U.drop (c+1)++B))):=by rw[ht]; simp
   have l0:A.length+c=(A++U.take c).length:=by simp; omega
   have e1:(((A.length+(c+1):Nat):Int)).toNat=A.length+c+1:=rfl;have e2:(((A.length+(c+1):Nat):Int)-1).toNat=A.length+c:=by omega
   have g1:(A++(U.take (c+1)++(x::(U.drop (c+1)++B)))).getD (A.length+c) default=U.getD c default:=by rw[r0]; exact get_at l0
   have g2:(A++(U.take (c+1)++(x::(U.drop (c+1)++B)))).getD (A.length+c+1) default=x:=by
    rw[r0,show(A++U.take c)++(U.getD c default::(x::(U.drop (c+1)++B)))=((A++U.take c)++[U.getD c default])++(x::(U.drop (c+1)++B)) by simp];exact get_at (by simp only[aL,bN,bw,bL]; omega)
   repeat(refine VC.mk (by first|(simp only[okI]; omega)|omega|(simp only[Rw.rng,co,hLc]; omega)) ?_)
   refine⟨c,[0],⟨by omega,by omega⟩,by omega,⟨⟨_,rfl,.eq ?_⟩,trivial⟩,(sR rfl),⟨rfl,(fun _=>rfl),rfl,rfl,rfl,_,rfl,rfl,rfl,dH.of_eq ?_⟩,trivial⟩
   ·show T.int ((A.length+c:Nat):Int)=T.int (((A.length+(c+1):Nat):Int)-1)
    congr 2; omega
   ·rw[e1,e2,g1,g2,r0,show(A++U.take c)++(U.getD c default::(x::(U.drop (c+1)++B)))=((A++U.take c)++[U.getD c default])++(x::(U.drop (c+1)++B)) by simp,wG (by simp only[aL,bN,bw,bL]; omega),show((A++U.take c)++[U.getD c default])++(U.getD c default::(U.drop (c+1)++B))=(A++U.take c)++(U.getD c default::(U.getD c default::(U.drop (c+1)++B))) by simp,wG l0,hd];simp
  ·have hcp:c=p:=by
    have:=aR h5; omega
   subst hcp;exact gG.one (c:=0) (j:=0) (o:=bT (A++(U.take c++(x::(U.drop c++B))))) (t:=.bU []) rfl rfl rfl (fun _=>rfl) (.inl rfl) trivial (.eq rfl) ⟨_,RX.trans (List.perm_append_comm (l₁:=[x])),hst,rfl,by simp⟩
theorem halves{U D:List Elem}{su ve:Nat}(sU:iU U)(sD:iU D)(h1:su<=U.length)(h2:ve<=D.length)
  (f1:su=0\/ve=D.length\/dS (U.getD (su-1) default)<=dS (D.getD ve default)) (f2:ve=0\/su=U.length\/dS (D.getD (ve-1) default)<=dS (U.getD su default)) :
  ∀ x∈U.take su++D.take ve,∀ y∈U.drop su++D.drop ve,dS x<=dS y:=by
 intro x hx y hy;rcases cN.1 hx with hx|hx<;>rcases cN.1 hy with hy|hy
 ·obtain⟨i,a1,a2,rfl⟩:=CU hx;obtain⟨j,b1,b2,rfl⟩:=zV hy;exact wR sU (by omega) b2
 ·obtain⟨i,a1,a2,rfl⟩:=CU hx;obtain⟨j,b1,b2,rfl⟩:=zV hy;rcases f1 with f1|f1|f1
  ·omega
  ·omega
  ·have g1:=wR sU (i:=i) (j:=su-1) (by omega) (by omega);have g2:=wR sD (i:=ve) (j:=j) b1 b2;omega
 ·obtain⟨i,a1,a2,rfl⟩:=CU hx;obtain⟨j,b1,b2,rfl⟩:=zV hy;rcases f2 with f2|f2|f2
  ·omega
  ·omega
  ·have g1:=wR sD (i:=i) (j:=ve-1) (by omega) (by omega);have g2:=wR sU (i:=su) (j:=j) b1 b2;omega
 ·obtain⟨i,a1,a2,rfl⟩:=CU hx;obtain⟨j,b1,b2,rfl⟩:=zV hy;exact wR sD (by omega) b2
theorem lD{W1 W2 X Y:List Elem}(h1:iU W1)(h2:iU W2)(p1:W1.Perm X)(p2:W2.Perm Y)(h: ∀ x∈X,∀ y∈Y,dS x<=dS y):iU (W1++W2):=by
 simp only[iU,ek];exact⟨h1,h2,fun x hx y hy=>h x (p1.mem_iff.1 hx) y (p2.mem_iff.1 hy)⟩
theorem mZ{U D:List Elem}(sU:iU U)(sD:iU D)(h:U=[]\/D=[]):iU (U++D):=by
 rcases h with rfl|rfl
 ·simpa using sD
 ·simpa using sU
theorem dQ{U1 U2 D1 D2 W1 W2:List Elem}(p1:W1.Perm (U1++D1))(p2:W2.Perm (U2++D2)):(W1++W2).Perm ((U1++U2)++(D1++D2)):=by
 refine(p1.append p2).trans ?_;simp only[ax];refine dp _ ?_;rw[<- ax,<- ax];exact List.perm_append_comm.append_right D2
structure af0 where
 s:Int
 t:Int
set_option maxHeartbeats 4000000 in
theorem S.symMerge: ∀ (N:Nat) (A U D B:List Elem) (a m b:Int) (n:Nat),U.length+D.length<=N->0<U.length->0<D.length->iU U->iU D->a=A.length->m=A.length+U.length->b=A.length+U.length+D.length->A.length+U.length+D.length+B.length<2^40->eG (A++(U++(D++B))) ->
  aO Tryz.prog 158 (V.aQ [.own 0,.int a,.int m,.int b,fnT]) (h1 (A++(U++(D++B)))).au n (fun t hp=> ∃ W,W.Perm (U++D)/\iU W/\t= .bU []/\hp=(h1 (A++(W++B))).au):=by
 intro N;induction N with
 |zero=>intro A U D B a m b n h1 h2 h3; omega
 |succ N ih =>
  intro A U D B a m b n hN hU hD sU sD ha hm hb hl hs;by_cases e1:U.length=1
  ·obtain⟨x,rfl⟩:=List.length_eq_one_iff.1 e1;have:=S.YW A x D B n hD sD (by simp at hl ⊢; omega) hs;subst ha; subst hm; subst hb;exact this
  by_cases e2:D.length=1
  ·obtain⟨x,rfl⟩:=List.length_eq_one_iff.1 e2;have:=S.YX A x U B n (by omega) sU (by simp at hl ⊢; omega) hs;subst ha; subst hm; subst hb;exact this
  obtain⟨W0,w1,w2⟩:=x8 (U++D);obtain⟨L,hLd⟩: ∃ L,L=A++(U++(D++B)):=⟨_,rfl⟩
  have hL:L.length=A.length+U.length+D.length+B.length:=by rw[hLd]; simp; omega
  have hsL:eG L:=by rw[hLd]; exact hs
  have gu: ∀ {k:Int} {i:Nat},i<U.length->k=A.length+i->L.getD k.toNat default=U.getD i default:=fun {k i} hi hk=>by
   rw[hLd]; exact J8 hi (by omega)
  have gv: ∀ {k:Int} {i:Nat},i<D.length->k=m+i->L.getD k.toNat default=D.getD i default:=fun {k i} hi hk=>by
   rw[hLd,<- ax]; exact J8 hi (by rw[aL]; omega)
  refine og.of (nx:=1) Bd.dw (by simp) ⟨_,_,W0,w1,w2,rfl,rfl⟩ rfl rfl ?_;rw[<- hLd];refine .mk (by first|(simp only[okI]; omega)|omega) ?_;refine Fork.mk (fun q=>absurd (q.symm.trans ((by simp only[cE]; omega))).symm aM) (fun _=>?_);refine .mk (by simp only[okI] at *; first|omega|(simp_all; done)|(simp_all; omega)) ?_;refine Fork.mk (fun q=>absurd (q.symm.trans ((by simp only[cE]; omega))).symm aM) (fun _=>?_);repeat(refine VC.mk (by first|(omega)|(simp only[okI] at *; first|omega|(simp_all; done)|(simp_all; omega))) ?_)
  obtain⟨M,hM⟩: ∃ M,M=(a+b) / 2:=⟨_,rfl⟩
  rw[show Vy (a+b) 1=M by rw[CV,hM]];repeat(refine VC.mk (by first|(simp only[okI]; omega)|omega) ?_)
  refine⟨fun h3=>?_,fun h3=>?_⟩
  ·have hMm:M<m:=aq h3;obtain⟨s0,hs0'⟩: ∃ s0,s0=M+m-b:=⟨_,rfl⟩
   obtain⟨r0,agw⟩: ∃ r0,r0=M:=⟨_,rfl⟩
   have hsr:s0<=r0:=by omega
   have hp1: ∀ c,s0<=c->c<r0->a<=c/\c<m/\m<=M+m-1-c/\M+m-1-c<b:=by intro c q1 q2; omega
   have hb1: ∀ {s:Int},s=s0-> ∀ su ve:Nat,s=A.length+su->M-s=ve->su=0\/ve=D.length:=by intro s q su ve q1 q2; omega
   have hb2: ∀ {s:Int},s=r0-> ∀ su ve:Nat,s=A.length+su->M-s=ve->ve=0\/su=U.length:=by intro s q su ve q1 q2; omega
   have hs0:(V.int s0).aI=(V.int (M+m-b)).aI:=by rw[hs0']
   have hr0:(V.int r0).aI=(V.int M).aI:=by rw[agw]
   repeat(refine VC.mk (by first|(simp only[okI]; omega)|omega) ?_)
   refine aF.same [0,1,2,3,4,18,19,22] (fun i:af0=>[(20,.int i.s),(21,.int i.t)]) (fun i=>s0<=i.s/\i.s<=i.t/\i.t<=r0/\(i.s=s0\/dS (L.getD (i.s-1).toNat default)<=dS (L.getD (M+m-1-(i.s-1)).toNat default))/\(i.t=r0\/dS (L.getD (M+m-1-i.t).toNat default)<dS (L.getD i.t.toNat default))) (fun i=>(i.t-i.s).toNat) ⟨s0,r0⟩ rfl (by decide) rfl (fun _=>rfl) ⟨Int.le_refl _,hsr,Int.le_refl _,.inl rfl,.inl rfl⟩ ⟨⟨_,rfl,hs0⟩,⟨_,rfl,hr0⟩,trivial⟩ ?_;refine⟨rfl,?_⟩;rintro⟨s,t⟩ ⟨i1,i2,i3,i4,i5⟩;simp only at i1 i2 i3 i4 i5;dsimp only;refine⟨fun h4=>?_,fun h4=>?_⟩
   ·have hst:s<t:=aq h4;repeat(refine VC.mk (by first|omega|(simp only[okI]; omega)) ?_)
    obtain⟨c,hc⟩: ∃ c,c=(s+t) / 2:=⟨_,rfl⟩
    rw[show Vy (s+t) 1=c by rw[CV,hc]];have hc1:s<=c/\c<t:=by omega
    have hrg:=hp1 c (by omega) (by omega);repeat(refine VC.mk (by first|(simp only[okI]; omega)|omega|(simp only[Rw.rng,hL]; omega)) ?_)
    refine ah.pure (S.tq _ _ (hsL.get _) (hsL.get _)) rfl ?_;refine⟨fun h5=>?_,fun h5=>?_⟩
    ·rw[bl] at h5;have h6:=aR h5;refine .mk (by first|(simp only[okI]; omega)|omega) ?_;refine⟨⟨c+1,t⟩,⟨by show s0<=c+1; omega,by show c+1<=t; omega,i3,.inr ?_,i5⟩,by show(t-(c+1)).toNat<(t-s).toNat; omega,⟨⟨_,rfl,rfl⟩,⟨_,rfl,rfl⟩,trivial⟩,?_,rfl⟩
     ·show dS (L.getD (c+1-1).toNat default)<=dS (L.getD (M+m-1-(c+1-1)).toNat default);rw[show c+1-1=c by omega]; omega
     ·repeat' (first|exact trivial|exact⟨_,rfl,rfl⟩|constructor)
    ·rw[da] at h5;have h6:=aq h5;refine⟨⟨s,c⟩,⟨i1,by show s<=c; omega,by show c<=r0; omega,i4,.inr ?_⟩,by show(c-s).toNat<(t-s).toNat; omega,⟨⟨_,rfl,rfl⟩,⟨_,rfl,rfl⟩,trivial⟩,?_,rfl⟩
     ·show dS (L.getD (M+m-1-c).toNat default)<dS (L.getD c.toNat default);omega
     ·repeat' (first|exact trivial|exact⟨_,rfl,rfl⟩|constructor)
   have hst:s=t:=by
    have:=aR h4; omega
   subst hst;obtain⟨su,hsu⟩: ∃ su:Nat,s=A.length+su:=⟨(s-A.length).toNat,by omega⟩
   obtain⟨ve,hve⟩: ∃ ve:Nat,M-s=ve:=⟨(M-s).toNat,by omega⟩
   have lu:su<=U.length:=by omega
   have lv:ve<=D.length:=by omega
   have Qi:=halves sU sD lu lv (by
    rcases i4 with i4|i4
    ·rcases hb1 i4 su ve hsu hve with e|e
     ·exact .inl e
     ·exact .inr (.inl e)
    ·by_cases e0:su=0
     ·exact .inl e0
     by_cases e1:ve=D.length
     ·exact .inr (.inl e1)
     refine .inr (.inr ?_);rw[gu (k:=s-1) (i:=su-1) (by omega) (by omega),gv (k:=M+m-1-(s-1)) (i:=ve) (by omega) (by omega)] at i4
     exact i4) (by
    rcases i5 with i5|i5
    ·rcases hb2 i5 su ve hsu hve with e|e
     ·exact .inl e
     ·exact .inr (.inl e)
    ·by_cases e0:ve=0
     ·exact .inl e0
     by_cases e1:su=U.length
     ·exact .inr (.inl e1)
     refine .inr (.inr ?_);rw[gu (k:=s) (i:=su) (by omega) (by omega),gv (k:=M+m-1-s) (i:=ve-1) (by omega) (by omega)] at i5
     omega)
   obtain⟨U1,hU1⟩: ∃ X,X=U.take su:=⟨_,rfl⟩
   obtain⟨U2,hU2⟩: ∃ X,X=U.drop su:=⟨_,rfl⟩
   obtain⟨D1,hD1⟩: ∃ X,X=D.take ve:=⟨_,rfl⟩
   obtain⟨D2,hD2⟩: ∃ X,X=D.drop ve:=⟨_,rfl⟩
   have l1:U1.length=su:=by rw[hU1,bL]; omega
   have l2:U2.length=U.length-su:=by rw[hU2,bv]
   have l3:D1.length=ve:=by rw[hD1,bL]; omega
   have l4:D2.length=D.length-ve:=by rw[hD2,bv]
   have sU1:iU U1:=by rw[hU1]; exact db (fg _ _) sU
   have RY:iU U2:=by rw[hU2]; exact db (fh _ _) sU
   have sD1:iU D1:=by rw[hD1]; exact db (fg _ _) sD
   have RZ:iU D2:=by rw[hD2]; exact db (fh _ _) sD
   have hU:U=U1++U2:=by rw[hU1,hU2,bx]
   have hD:D=D1++D2:=by rw[hD1,hD2,bx]
   rw[<- hU1,<- hD1,<- hU2,<- hD2] at Qi;clear hU1 hU2 hD1 hD2 i4 i5 h4;have hUD:A++(U++(D++B))=A++((U1++U2)++((D1++D2)++B)):=by rw[<- hU,<- hD]
   repeat(refine VC.mk (by first|(first|(simp only[okI]; omega)|omega)|exact fun h=>h|exact fun h=>⟨h,h⟩) ?_)
   rw[hLd];have hhp:((U1++D1)++(U2++D2)).Perm ((U1++U2)++(D1++D2)):=dQ (ct _) (ct _)
   have hsB: ∀ W1:List Elem,W1.Perm (U1++D1)->eG ((A++W1)++(U2++(D2++B))):=fun W1 pW=>hs.perm (by
    have:=((pW.append_right (U2++D2)).trans hhp).append_right B;rw[hUD,ax]
    exact dp _ (by simpa using this))
   have hsA:=hsB (U1++D1) (ct _);rw[show(A++(U1++D1))++(U2++(D2++B))=A++(U1++(D1++(U2++(D2++B)))) by simp] at hsA;have hlB: ∀ W1:List Elem,W1.Perm (U1++D1)->W1.length=su+ve:=fun W1 pW=>by rw[pW.length_eq,aL]; omega
   have hA1: ∀ W1:List Elem,W1.length=su+ve->((A++W1).length:Int)=M:=fun W1 h=>by rw[aL,h]; omega
   have hl2: ∀ W1:List Elem,W1.length=su+ve->(A++W1).length+U2.length+D2.length+B.length<2^40:=fun W1 h=>by rw[aL,h]; omega
   have YZ:M+U2.length=M+m-s/\M+U2.length+D2.length=b/\U2.length+D2.length<=N/\U1.length+D1.length<=N/\a+U1.length=s/\s+D1.length=M:=by omega
   obtain⟨hb3,hb4,hn2,hn1,hb5,hb6⟩:=YZ;refine⟨fun h6=>?_,fun h6=>?_⟩
   ·rw[aD,ab,ab] at h6;refine ah.pY (S.rotate (A++U1) U2 D1 (D2++B) _ _ _ _ (by omega) (by omega) (by rw[aL]; omega) (by rw[aL]; omega) (by rw[aL]; omega) (by simp only[aL]; omega)) (by rw[hUD]; simp only[ax]) ?_;rintro t hp ⟨rfl,rfl⟩;refine⟨.bU [],h1 (A++(U1++(D1++(U2++(D2++B))))),rfl,by rw[ax],?_⟩;repeat(refine VC.mk (by first|exact id|exact fun h=>⟨h,h⟩) ?_)
    refine⟨fun h7=>?_,fun h7=>?_⟩
    ·rw[aD,ab,ab] at h7;refine ah.pY (ih A U1 D1 (U2++(D2++B)) _ _ _ _ hn1 (by omega) (by omega) sU1 sD1 ha (by omega) (by omega) (by simp only[aL]; omega) hsA) rfl ?_;rintro t hp ⟨W1,tu,IG,rfl,rfl⟩;have Ba:=hlB W1 tu;refine⟨.bU [],h1 _,rfl,rfl,?_⟩;repeat(refine VC.mk (by first|exact id|exact fun h=>⟨h,h⟩) ?_)
     refine⟨fun h8=>?_,fun h8=>?_⟩
     ·rw[aD,ab,ab] at h8;refine ah.pY (ih (A++W1) U2 D2 B _ _ _ _ hn2 (by omega) (by omega) RY RZ (hA1 W1 Ba).symm (by rw[hA1 W1 Ba,hb3]) (by rw[hA1 W1 Ba,hb4]) (hl2 W1 Ba) (hsB W1 tu)) (by rw[ax]) ?_;rintro t hp ⟨W2,x9,FB,rfl,rfl⟩;refine⟨.bU [],h1 _,rfl,rfl,?_⟩;exact gG.one (c:=0) (j:=0) (o:=bT ((A++W1)++(W2++B))) (t:=.bU []) rfl rfl rfl (fun _=>rfl) (.inl rfl) trivial (.eq rfl) ⟨W1++W2,by rw[hU,hD]; exact dQ tu x9,lD IG FB tu x9 Qi,rfl,by simp⟩
     ·have FB:iU (U2++D2):=mZ RY RZ (by
       rw[cC,ao,ao] at h8;rcases h8 with h8|h8
       ·exact .inl (ai (by omega))
       ·exact .inr (ai (by omega)))
      have x9:(U2++D2).Perm (U2++D2):=ct _;exact gG.one (c:=0) (j:=0) (o:=bT (A++(W1++(U2++(D2++B))))) (t:=.bU []) rfl rfl rfl (fun _=>rfl) (.inl rfl) trivial (.eq rfl) ⟨W1++(U2++D2),by rw[hU,hD]; exact dQ tu x9,lD IG FB tu x9 Qi,rfl,by simp⟩
    ·have IG:iU (U1++D1):=mZ sU1 sD1 (by
      rw[cC,ao,ao] at h7;rcases h7 with h7|h7
      ·exact .inl (ai (by omega))
      ·exact .inr (ai (by omega)))
     have tu:(U1++D1).Perm (U1++D1):=ct _;obtain⟨W1,hW1⟩: ∃ W1,W1=U1++D1:=⟨_,rfl⟩
     rw[show A++(U1++(D1++(U2++(D2++B))))=A++(W1++(U2++(D2++B))) by rw[hW1,ax]];rw[<- hW1] at IG;replace tu:W1.Perm (U1++D1):=by rw[hW1]
     have Ba:=hlB W1 tu;repeat(refine VC.mk (by first|exact id|exact fun h=>⟨h,h⟩) ?_)
     refine⟨fun h8=>?_,fun h8=>?_⟩
     ·rw[aD,ab,ab] at h8;refine ah.pY (ih (A++W1) U2 D2 B _ _ _ _ hn2 (by omega) (by omega) RY RZ (hA1 W1 Ba).symm (by rw[hA1 W1 Ba,hb3]) (by rw[hA1 W1 Ba,hb4]) (hl2 W1 Ba) (hsB W1 tu)) (by rw[ax]) ?_;rintro t hp ⟨W2,x9,FB,rfl,rfl⟩;refine⟨.bU [],h1 _,rfl,rfl,?_⟩;exact gG.one (c:=0) (j:=0) (o:=bT ((A++W1)++(W2++B))) (t:=.bU []) rfl rfl rfl (fun _=>rfl) (.inl rfl) trivial (.eq rfl) ⟨W1++W2,by rw[hU,hD]; exact dQ tu x9,lD IG FB tu x9 Qi,rfl,by simp⟩
     ·have FB:iU (U2++D2):=mZ RY RZ (by
       rw[cC,ao,ao] at h8;rcases h8 with h8|h8
       ·exact .inl (ai (by omega))
       ·exact .inr (ai (by omega)))
      have x9:(U2++D2).Perm (U2++D2):=ct _;exact gG.one (c:=0) (j:=0) (o:=bT (A++(W1++(U2++(D2++B))))) (t:=.bU []) rfl rfl rfl (fun _=>rfl) (.inl rfl) trivial (.eq rfl) ⟨W1++(U2++D2),by rw[hU,hD]; exact dQ tu x9,lD IG FB tu x9 Qi,rfl,by simp⟩
   ·rw[show A++(U++(D++B))=A++(U1++(D1++(U2++(D2++B)))) by
     rw[hUD];rw[cC,ao,ao] at h6;rcases h6 with h6|h6
     ·rw[ai (show U2.length=0 by omega)]; simp
     ·rw[ai (show D1.length=0 by omega)]; simp]
    repeat(refine VC.mk (by first|exact id|exact fun h=>⟨h,h⟩) ?_)
    refine⟨fun h7=>?_,fun h7=>?_⟩
    ·rw[aD,ab,ab] at h7;refine ah.pY (ih A U1 D1 (U2++(D2++B)) _ _ _ _ hn1 (by omega) (by omega) sU1 sD1 ha (by omega) (by omega) (by simp only[aL]; omega) hsA) rfl ?_;rintro t hp ⟨W1,tu,IG,rfl,rfl⟩;have Ba:=hlB W1 tu;refine⟨.bU [],h1 _,rfl,rfl,?_⟩;repeat(refine VC.mk (by first|exact id|exact fun h=>⟨h,h⟩) ?_)
     refine⟨fun h8=>?_,fun h8=>?_⟩
     ·rw[aD,ab,ab] at h8;refine ah.pY (ih (A++W1) U2 D2 B _ _ _ _ hn2 (by omega) (by omega) RY RZ (hA1 W1 Ba).symm (by rw[hA1 W1 Ba,hb3]) (by rw[hA1 W1 Ba,hb4]) (hl2 W1 Ba) (hsB W1 tu)) (by rw[ax]) ?_;rintro t hp ⟨W2,x9,FB,rfl,rfl⟩;refine⟨.bU [],h1 _,rfl,rfl,?_⟩;exact gG.one (c:=0) (j:=0) (o:=bT ((A++W1)++(W2++B))) (t:=.bU []) rfl rfl rfl (fun _=>rfl) (.inl rfl) trivial (.eq rfl) ⟨W1++W2,by rw[hU,hD]; exact dQ tu x9,lD IG FB tu x9 Qi,rfl,by simp⟩
     ·have FB:iU (U2++D2):=mZ RY RZ (by
       rw[cC,ao,ao] at h8;rcases h8 with h8|h8
       ·exact .inl (ai (by omega))
       ·exact .inr (ai (by omega)))
      have x9:(U2++D2).Perm (U2++D2):=ct _;exact gG.one (c:=0) (j:=0) (o:=bT (A++(W1++(U2++(D2++B))))) (t:=.bU []) rfl rfl rfl (fun _=>rfl) (.inl rfl) trivial (.eq rfl) ⟨W1++(U2++D2),by rw[hU,hD]; exact dQ tu x9,lD IG FB tu x9 Qi,rfl,by simp⟩
    ·have IG:iU (U1++D1):=mZ sU1 sD1 (by
      rw[cC,ao,ao] at h7;rcases h7 with h7|h7
      ·exact .inl (ai (by omega))
      ·exact .inr (ai (by omega)))
     have tu:(U1++D1).Perm (U1++D1):=ct _;obtain⟨W1,hW1⟩: ∃ W1,W1=U1++D1:=⟨_,rfl⟩
     rw[show A++(U1++(D1++(U2++(D2++B))))=A++(W1++(U2++(D2++B))) by rw[hW1,ax]];rw[<- hW1] at IG;replace tu:W1.Perm (U1++D1):=by rw[hW1]
     have Ba:=hlB W1 tu;repeat(refine VC.mk (by first|exact id|exact fun h=>⟨h,h⟩) ?_)
     refine⟨fun h8=>?_,fun h8=>?_⟩
     ·rw[aD,ab,ab] at h8;refine ah.pY (ih (A++W1) U2 D2 B _ _ _ _ hn2 (by omega) (by omega) RY RZ (hA1 W1 Ba).symm (by rw[hA1 W1 Ba,hb3]) (by rw[hA1 W1 Ba,hb4]) (hl2 W1 Ba) (hsB W1 tu)) (by rw[ax]) ?_;rintro t hp ⟨W2,x9,FB,rfl,rfl⟩;refine⟨.bU [],h1 _,rfl,rfl,?_⟩;exact gG.one (c:=0) (j:=0) (o:=bT ((A++W1)++(W2++B))) (t:=.bU []) rfl rfl rfl (fun _=>rfl) (.inl rfl) trivial (.eq rfl) ⟨W1++W2,by rw[hU,hD]; exact dQ tu x9,lD IG FB tu x9 Qi,rfl,by simp⟩
     ·have FB:iU (U2++D2):=mZ RY RZ (by
       rw[cC,ao,ao] at h8;rcases h8 with h8|h8
       ·exact .inl (ai (by omega))
       ·exact .inr (ai (by omega)))
      have x9:(U2++D2).Perm (U2++D2):=ct _;exact gG.one (c:=0) (j:=0) (o:=bT (A++(W1++(U2++(D2++B))))) (t:=.bU []) rfl rfl rfl (fun _=>rfl) (.inl rfl) trivial (.eq rfl) ⟨W1++(U2++D2),by rw[hU,hD]; exact dQ tu x9,lD IG FB tu x9 Qi,rfl,by simp⟩
  ·have hMm:m<=M:=by have:=aR h3; omega
   obtain⟨s0,hs0'⟩: ∃ s0,s0=a:=⟨_,rfl⟩
   obtain⟨r0,agw⟩: ∃ r0,r0=m:=⟨_,rfl⟩
   have hsr:s0<=r0:=by omega
   have hp1: ∀ c,s0<=c->c<r0->a<=c/\c<m/\m<=M+m-1-c/\M+m-1-c<b:=by intro c q1 q2; omega
   have hb1: ∀ {s:Int},s=s0-> ∀ su ve:Nat,s=A.length+su->M-s=ve->su=0\/ve=D.length:=by intro s q su ve q1 q2; omega
   have hb2: ∀ {s:Int},s=r0-> ∀ su ve:Nat,s=A.length+su->M-s=ve->ve=0\/su=U.length:=by intro s q su ve q1 q2; omega
   have hs0:(V.int s0).aI=(V.int a).aI:=by rw[hs0']
   have hr0:(V.int r0).aI=(V.int m).aI:=by rw[agw]
   refine .mk (by first|(simp only[okI]; omega)|omega) ?_;refine aF.same [0,1,2,3,4,18,19,22] (fun i:af0=>[(20,.int i.s),(21,.int i.t)]) (fun i=>s0<=i.s/\i.s<=i.t/\i.t<=r0/\(i.s=s0\/dS (L.getD (i.s-1).toNat default)<=dS (L.getD (M+m-1-(i.s-1)).toNat default))/\(i.t=r0\/dS (L.getD (M+m-1-i.t).toNat default)<dS (L.getD i.t.toNat default))) (fun i=>(i.t-i.s).toNat) ⟨s0,r0⟩ rfl (by decide) rfl (fun _=>rfl) ⟨Int.le_refl _,hsr,Int.le_refl _,.inl rfl,.inl rfl⟩ ⟨⟨_,rfl,hs0⟩,⟨_,rfl,hr0⟩,trivial⟩ ?_;refine⟨rfl,?_⟩;rintro⟨s,t⟩ ⟨i1,i2,i3,i4,i5⟩;simp only at i1 i2 i3 i4 i5;dsimp only;refine⟨fun h4=>?_,fun h4=>?_⟩
   ·have hst:s<t:=aq h4;repeat(refine VC.mk (by first|omega|(simp only[okI]; omega)) ?_)
    obtain⟨c,hc⟩: ∃ c,c=(s+t) / 2:=⟨_,rfl⟩
    rw[show Vy (s+t) 1=c by rw[CV,hc]];have hc1:s<=c/\c<t:=by omega
    have hrg:=hp1 c (by omega) (by omega);repeat(refine VC.mk (by first|(simp only[okI]; omega)|omega|(simp only[Rw.rng,hL]; omega)) ?_)
    refine ah.pure (S.tq _ _ (hsL.get _) (hsL.get _)) rfl ?_;refine⟨fun h5=>?_,fun h5=>?_⟩
    ·rw[bl] at h5;have h6:=aR h5;refine .mk (by first|(simp only[okI]; omega)|omega) ?_;refine⟨⟨c+1,t⟩,⟨by show s0<=c+1; omega,by show c+1<=t; omega,i3,.inr ?_,i5⟩,by show(t-(c+1)).toNat<(t-s).toNat; omega,⟨⟨_,rfl,rfl⟩,⟨_,rfl,rfl⟩,trivial⟩,?_,rfl⟩
     ·show dS (L.getD (c+1-1).toNat default)<=dS (L.getD (M+m-1-(c+1-1)).toNat default);rw[show c+1-1=c by omega]; omega
     ·repeat' (first|exact trivial|exact⟨_,rfl,rfl⟩|constructor)
    ·rw[da] at h5;have h6:=aq h5;refine⟨⟨s,c⟩,⟨i1,by show s<=c; omega,by show c<=r0; omega,i4,.inr ?_⟩,by show(c-s).toNat<(t-s).toNat; omega,⟨⟨_,rfl,rfl⟩,⟨_,rfl,rfl⟩,trivial⟩,?_,rfl⟩
     ·show dS (L.getD (M+m-1-c).toNat default)<dS (L.getD c.toNat default);omega
     ·repeat' (first|exact trivial|exact⟨_,rfl,rfl⟩|constructor)
   have hst:s=t:=by
    have:=aR h4; omega
   subst hst;obtain⟨su,hsu⟩: ∃ su:Nat,s=A.length+su:=⟨(s-A.length).toNat,by omega⟩
   obtain⟨ve,hve⟩: ∃ ve:Nat,M-s=ve:=⟨(M-s).toNat,by omega⟩
   have lu:su<=U.length:=by omega
   have lv:ve<=D.length:=by omega
   have Qi:=halves sU sD lu lv (by
    rcases i4 with i4|i4
    ·rcases hb1 i4 su ve hsu hve with e|e
     ·exact .inl e
     ·exact .inr (.inl e)
    ·by_cases e0:su=0
     ·exact .inl e0
     by_cases e1:ve=D.length
     ·exact .inr (.inl e1)
     refine .inr (.inr ?_);rw[gu (k:=s-1) (i:=su-1) (by omega) (by omega),gv (k:=M+m-1-(s-1)) (i:=ve) (by omega) (by omega)] at i4
     exact i4) (by
    rcases i5 with i5|i5
    ·rcases hb2 i5 su ve hsu hve with e|e
     ·exact .inl e
     ·exact .inr (.inl e)
    ·by_cases e0:ve=0
     ·exact .inl e0
     by_cases e1:su=U.length
     ·exact .inr (.inl e1)
     refine .inr (.inr ?_);rw[gu (k:=s) (i:=su) (by omega) (by omega),gv (k:=M+m-1-s) (i:=ve-1) (by omega) (by omega)] at i5
     omega)
   obtain⟨U1,hU1⟩: ∃ X,X=U.take su:=⟨_,rfl⟩
   obtain⟨U2,hU2⟩: ∃ X,X=U.drop su:=⟨_,rfl⟩
   obtain⟨D1,hD1⟩: ∃ X,X=D.take ve:=⟨_,rfl⟩
   obtain⟨D2,hD2⟩: ∃ X,X=D.drop ve:=⟨_,rfl⟩
   have l1:U1.length=su:=by rw[hU1,bL]; omega
   have l2:U2.length=U.length-su:=by rw[hU2,bv]
   have l3:D1.length=ve:=by rw[hD1,bL]; omega
   have l4:D2.length=D.length-ve:=by rw[hD2,bv]
   have sU1:iU U1:=by rw[hU1]; exact db (fg _ _) sU
   have RY:iU U2:=by rw[hU2]; exact db (fh _ _) sU
   have sD1:iU D1:=by rw[hD1]; exact db (fg _ _) sD
   have RZ:iU D2:=by rw[hD2]; exact db (fh _ _) sD
   have hU:U=U1++U2:=by rw[hU1,hU2,bx]
   have hD:D=D1++D2:=by rw[hD1,hD2,bx]
   rw[<- hU1,<- hD1,<- hU2,<- hD2] at Qi;clear hU1 hU2 hD1 hD2 i4 i5 h4;have hUD:A++(U++(D++B))=A++((U1++U2)++((D1++D2)++B)):=by rw[<- hU,<- hD]
   repeat(refine VC.mk (by first|(first|(simp only[okI]; omega)|omega)|exact fun h=>h|exact fun h=>⟨h,h⟩) ?_)
   rw[hLd];have hhp:((U1++D1)++(U2++D2)).Perm ((U1++U2)++(D1++D2)):=dQ (ct _) (ct _)
   have hsB: ∀ W1:List Elem,W1.Perm (U1++D1)->eG ((A++W1)++(U2++(D2++B))):=fun W1 pW=>hs.perm (by
    have:=((pW.append_right (U2++D2)).trans hhp).append_right B;rw[hUD,ax]
    exact dp _ (by simpa using this))
   have hsA:=hsB (U1++D1) (ct _);rw[show(A++(U1++D1))++(U2++(D2++B))=A++(U1++(D1++(U2++(D2++B)))) by simp] at hsA;have hlB: ∀ W1:List Elem,W1.Perm (U1++D1)->W1.length=su+ve:=fun W1 pW=>by rw[pW.length_eq,aL]; omega
   have hA1: ∀ W1:List Elem,W1.length=su+ve->((A++W1).length:Int)=M:=fun W1 h=>by rw[aL,h]; omega
   have hl2: ∀ W1:List Elem,W1.length=su+ve->(A++W1).length+U2.length+D2.length+B.length<2^40:=fun W1 h=>by rw[aL,h]; omega
   have YZ:M+U2.length=M+m-s/\M+U2.length+D2.length=b/\U2.length+D2.length<=N/\U1.length+D1.length<=N/\a+U1.length=s/\s+D1.length=M:=by omega
   obtain⟨hb3,hb4,hn2,hn1,hb5,hb6⟩:=YZ;refine⟨fun h6=>?_,fun h6=>?_⟩
   ·rw[aD,ab,ab] at h6;refine ah.pY (S.rotate (A++U1) U2 D1 (D2++B) _ _ _ _ (by omega) (by omega) (by rw[aL]; omega) (by rw[aL]; omega) (by rw[aL]; omega) (by simp only[aL]; omega)) (by rw[hUD]; simp only[ax]) ?_;rintro t hp ⟨rfl,rfl⟩;refine⟨.bU [],h1 (A++(U1++(D1++(U2++(D2++B))))),rfl,by rw[ax],?_⟩;repeat(refine VC.mk (by first|exact id|exact fun h=>⟨h,h⟩) ?_)
    refine⟨fun h7=>?_,fun h7=>?_⟩
    ·rw[aD,ab,ab] at h7;refine ah.pY (ih A U1 D1 (U2++(D2++B)) _ _ _ _ hn1 (by omega) (by omega) sU1 sD1 ha (by omega) (by omega) (by simp only[aL]; omega) hsA) rfl ?_;rintro t hp ⟨W1,tu,IG,rfl,rfl⟩;have Ba:=hlB W1 tu;refine⟨.bU [],h1 _,rfl,rfl,?_⟩;repeat(refine VC.mk (by first|exact id|exact fun h=>⟨h,h⟩) ?_)
     refine⟨fun h8=>?_,fun h8=>?_⟩
     ·rw[aD,ab,ab] at h8;refine ah.pY (ih (A++W1) U2 D2 B _ _ _ _ hn2 (by omega) (by omega) RY RZ (hA1 W1 Ba).symm (by rw[hA1 W1 Ba,hb3]) (by rw[hA1 W1 Ba,hb4]) (hl2 W1 Ba) (hsB W1 tu)) (by rw[ax]) ?_;rintro t hp ⟨W2,x9,FB,rfl,rfl⟩;refine⟨.bU [],h1 _,rfl,rfl,?_⟩;exact gG.one (c:=0) (j:=0) (o:=bT ((A++W1)++(W2++B))) (t:=.bU []) rfl rfl rfl (fun _=>rfl) (.inl rfl) trivial (.eq rfl) ⟨W1++W2,by rw[hU,hD]; exact dQ tu x9,lD IG FB tu x9 Qi,rfl,by simp⟩
     ·have FB:iU (U2++D2):=mZ RY RZ (by
       rw[cC,ao,ao] at h8;rcases h8 with h8|h8
       ·exact .inl (ai (by omega))
       ·exact .inr (ai (by omega)))
      have x9:(U2++D2).Perm (U2++D2):=ct _;exact gG.one (c:=0) (j:=0) (o:=bT (A++(W1++(U2++(D2++B))))) (t:=.bU []) rfl rfl rfl (fun _=>rfl) (.inl rfl) trivial (.eq rfl) ⟨W1++(U2++D2),by rw[hU,hD]; exact dQ tu x9,lD IG FB tu x9 Qi,rfl,by simp⟩
    ·have IG:iU (U1++D1):=mZ sU1 sD1 (by
      rw[cC,ao,ao] at h7;rcases h7 with h7|h7
      ·exact .inl (ai (by omega))
      ·exact .inr (ai (by omega)))
     have tu:(U1++D1).Perm (U1++D1):=ct _;obtain⟨W1,hW1⟩: ∃ W1,W1=U1++D1:=⟨_,rfl⟩
     rw[show A++(U1++(D1++(U2++(D2++B))))=A++(W1++(U2++(D2++B))) by rw[hW1,ax]];rw[<- hW1] at IG;replace tu:W1.Perm (U1++D1):=by rw[hW1]
     have Ba:=hlB W1 tu;repeat(refine VC.mk (by first|exact id|exact fun h=>⟨h,h⟩) ?_)
     refine⟨fun h8=>?_,fun h8=>?_⟩
     ·rw[aD,ab,ab] at h8;refine ah.pY (ih (A++W1) U2 D2 B _ _ _ _ hn2 (by omega) (by omega) RY RZ (hA1 W1 Ba).symm (by rw[hA1 W1 Ba,hb3]) (by rw[hA1 W1 Ba,hb4]) (hl2 W1 Ba) (hsB W1 tu)) (by rw[ax]) ?_;rintro t hp ⟨W2,x9,FB,rfl,rfl⟩;refine⟨.bU [],h1 _,rfl,rfl,?_⟩;exact gG.one (c:=0) (j:=0) (o:=bT ((A++W1)++(W2++B))) (t:=.bU []) rfl rfl rfl (fun _=>rfl) (.inl rfl) trivial (.eq rfl) ⟨W1++W2,by rw[hU,hD]; exact dQ tu x9,lD IG FB tu x9 Qi,rfl,by simp⟩
     ·have FB:iU (U2++D2):=mZ RY RZ (by
       rw[cC,ao,ao] at h8;rcases h8 with h8|h8
       ·exact .inl (ai (by omega))
       ·exact .inr (ai (by omega)))
      have x9:(U2++D2).Perm (U2++D2):=ct _;exact gG.one (c:=0) (j:=0) (o:=bT (A++(W1++(U2++(D2++B))))) (t:=.bU []) rfl rfl rfl (fun _=>rfl) (.inl rfl) trivial (.eq rfl) ⟨W1++(U2++D2),by rw[hU,hD]; exact dQ tu x9,lD IG FB tu x9 Qi,rfl,by simp⟩
   ·rw[show A++(U++(D++B))=A++(U1++(D1++(U2++(D2++B)))) by
     rw[hUD];rw[cC,ao,ao] at h6;rcases h6 with h6|h6
     ·rw[ai (show U2.length=0 by omega)]; simp
     ·rw[ai (show D1.length=0 by omega)]; simp]
    repeat(refine VC.mk (by first|exact id|exact fun h=>⟨h,h⟩) ?_)
    refine⟨fun h7=>?_,fun h7=>?_⟩
    ·rw[aD,ab,ab] at h7;refine ah.pY (ih A U1 D1 (U2++(D2++B)) _ _ _ _ hn1 (by omega) (by omega) sU1 sD1 ha (by omega) (by omega) (by simp only[aL]; omega) hsA) rfl ?_;rintro t hp ⟨W1,tu,IG,rfl,rfl⟩;have Ba:=hlB W1 tu;refine⟨.bU [],h1 _,rfl,rfl,?_⟩;repeat(refine VC.mk (by first|exact id|exact fun h=>⟨h,h⟩) ?_)
     refine⟨fun h8=>?_,fun h8=>?_⟩
     ·rw[aD,ab,ab] at h8;refine ah.pY (ih (A++W1) U2 D2 B _ _ _ _ hn2 (by omega) (by omega) RY RZ (hA1 W1 Ba).symm (by rw[hA1 W1 Ba,hb3]) (by rw[hA1 W1 Ba,hb4]) (hl2 W1 Ba) (hsB W1 tu)) (by rw[ax]) ?_;rintro t hp ⟨W2,x9,FB,rfl,rfl⟩;refine⟨.bU [],h1 _,rfl,rfl,?_⟩;exact gG.one (c:=0) (j:=0) (o:=bT ((A++W1)++(W2++B))) (t:=.bU []) rfl rfl rfl (fun _=>rfl) (.inl rfl) trivial (.eq rfl) ⟨W1++W2,by rw[hU,hD]; exact dQ tu x9,lD IG FB tu x9 Qi,rfl,by simp⟩
     ·have FB:iU (U2++D2):=mZ RY RZ (by
       rw[cC,ao,ao] at h8;rcases h8 with h8|h8
       ·exact .inl (ai (by omega))
       ·exact .inr (ai (by omega)))
      have x9:(U2++D2).Perm (U2++D2):=ct _;exact gG.one (c:=0) (j:=0) (o:=bT (A++(W1++(U2++(D2++B))))) (t:=.bU []) rfl rfl rfl (fun _=>rfl) (.inl rfl) trivial (.eq rfl) ⟨W1++(U2++D2),by rw[hU,hD]; exact dQ tu x9,lD IG FB tu x9 Qi,rfl,by simp⟩
    ·have IG:iU (U1++D1):=mZ sU1 sD1 (by
      rw[cC,ao,ao] at h7;rcases h7 with h7|h7
      ·exact .inl (ai (by omega))
      ·exact .inr (ai (by omega)))
     have tu:(U1++D1).Perm (U1++D1):=ct _;obtain⟨W1,hW1⟩: ∃ W1,W1=U1++D1:=⟨_,rfl⟩
     rw[show A++(U1++(D1++(U2++(D2++B))))=A++(W1++(U2++(D2++B))) by rw[hW1,ax]];rw[<- hW1] at IG;replace tu:W1.Perm (U1++D1):=by rw[hW1]
     have Ba:=hlB W1 tu;repeat(refine VC.mk (by first|exact id|exact fun h=>⟨h,h⟩) ?_)
     refine⟨fun h8=>?_,fun h8=>?_⟩
     ·rw[aD,ab,ab] at h8;refine ah.pY (ih (A++W1) U2 D2 B _ _ _ _ hn2 (by omega) (by omega) RY RZ (hA1 W1 Ba).symm (by rw[hA1 W1 Ba,hb3]) (by rw[hA1 W1 Ba,hb4]) (hl2 W1 Ba) (hsB W1 tu)) (by rw[ax]) ?_;rintro t hp ⟨W2,x9,FB,rfl,rfl⟩;refine⟨.bU [],h1 _,rfl,rfl,?_⟩;exact gG.one (c:=0) (j:=0) (o:=bT ((A++W1)++(W2++B))) (t:=.bU []) rfl rfl rfl (fun _=>rfl) (.inl rfl) trivial (.eq rfl) ⟨W1++W2,by rw[hU,hD]; exact dQ tu x9,lD IG FB tu x9 Qi,rfl,by simp⟩
     ·have FB:iU (U2++D2):=mZ RY RZ (by
       rw[cC,ao,ao] at h8;rcases h8 with h8|h8
       ·exact .inl (ai (by omega))
       ·exact .inr (ai (by omega)))
      have x9:(U2++D2).Perm (U2++D2):=ct _;exact gG.one (c:=0) (j:=0) (o:=bT (A++(W1++(U2++(D2++B))))) (t:=.bU []) rfl rfl rfl (fun _=>rfl) (.inl rfl) trivial (.eq rfl) ⟨W1++(U2++D2),by rw[hU,hD]; exact dQ tu x9,lD IG FB tu x9 Qi,rfl,by simp⟩
def Runs(n:Nat)(l:List Elem):Prop:= ∀ k,iU ((l.drop (k*n)).take n)
theorem oM{n:Nat}{W:List Elem}(h:iU W):Runs n W:=fun _=>db ((fg _ _).trans (fh _ _)) h
theorem vN{n c:Nat}{D W:List Elem}(hD:Runs n D)(hc:D.length=c*n)(hW:Runs n W):Runs n (D++W):=by
 intro k;rcases ee k c with h|h
 ·have h1:(k+1)*n<=c*n:=cn n h;rw[eL] at h1;rw[fo (by omega),List.take_append_of_le_length (by rw[bv]; omega)];exact hD k
 ·obtain⟨j,rfl⟩: ∃ j,k=c+j:=⟨k-c,by omega⟩
  rw[cy,<- hc,<- dE,List.drop_left];exact hW j
theorem Ea{n:Nat}{R:List Elem}(h:Runs n R):Runs n (R.drop n):=by
 intro k;rw[dE];have:=h (k+1);rw[eL,f5] at this;exact this
theorem Eb{n:Nat}{R:List Elem}(h:Runs n R):iU (R.take n):=by
 have:=h 0;simpa using this
theorem FC{n:Nat}{R:List Elem}(h:Runs n R)(hl:R.length<=n):iU R:=by
 have:=Eb h;rwa [bk hl] at this
structure ahU where
 D:List Elem
 R:List Elem
structure ai7 where
 bs:Nat
 L:List Elem
set_option maxHeartbeats 1000000 in
theorem S.stable(l:List Elem)(n:Nat)(hl:l.length<2^30)(hs:eG l) :
  aO Tryz.prog 137 (V.aQ [.own 0,.int l.length,fnT]) (h1 l).au n (fun t hp=> ∃ W,W.Perm l/\iU W/\t= .bU []/\hp=(h1 W).au):=by
 obtain⟨W0,w1,w2⟩:=x8 l;refine og.of (nx:=1) Bd.iI (by simp) ⟨_,_,W0,w1,w2,rfl,rfl⟩ rfl rfl ?_;refine aF.objs 1 [0,1,2,6] (fun s:ahU=>[(8,.int (s.D.length+20:Nat)),(7,.int s.D.length)]) (fun s=>[(0,bT (s.D++s.R))]) (fun s=>(s.D++s.R).Perm l/\(∃ c,s.D.length=c*20)/\Runs 20 s.D) (fun s=>s.R.length) ⟨[],l⟩ [0] rfl (by decide) (fun _=>rfl) ⟨ct _,⟨0,rfl⟩,oM List.Pairwise.nil⟩ ?_ ?_ ?_
 ·exact(sR rfl)
 ·exact⟨gK rfl rfl,trivial⟩
 refine⟨(sR rfl),rfl,?_⟩;rintro⟨D,R⟩ ⟨i1,⟨c,i2⟩,i3⟩;simp only at i1 i2 i3;dsimp only;have hlen:D.length+R.length=l.length:=by rw[<- aL]; exact i1.length_eq
 refine⟨fun h3=>?_,fun h3=>?_⟩
 ·have h4:D.length+20<=l.length:=by have:=aq h3; omega
  have hT:R.take 20++R.drop 20=R:=bx _ _;have lT:(R.take 20).length=20:=by rw[bL]; omega
  have lT':(R.drop 20).length=R.length-20:=bv;refine ah.pY (S.insertion D (R.take 20) (R.drop 20) _ _ _ rfl (by rw[lT]; omega) (by omega) (by rw[hT]; exact hs.perm i1)) (by rw[hT]; rfl) ?_;rintro t hp ⟨W,pW,sW,rfl,rfl⟩;have lW:W.length=20:=by rw[pW.length_eq]; exact lT
  refine⟨.bU [],h1 _,rfl,rfl,?_⟩;refine .mk (by first|(simp only[okI]; omega)|omega) ?_;refine⟨⟨D++W,R.drop 20⟩,[0],⟨?_,⟨c+1,?_⟩,vN i3 i2 (oM sW)⟩,?_,⟨⟨_,rfl,.eq ?_⟩,⟨_,rfl,.eq ?_⟩,trivial⟩,(sR rfl),⟨rfl,(fun _=>rfl),rfl,rfl,rfl,_,rfl,rfl,rfl,dH.of_eq ?_⟩,trivial⟩
  ·show(D++W++R.drop 20).Perm l;refine List.Perm.trans ?_ i1;rw[ax];refine dp _ ?_;refine(pW.append_right _).trans ?_;rw[hT]
  ·show(D++W).length=_; rw[aL]; omega
  ·show(R.drop 20).length<R.length; omega
  ·show T.int (((D++W).length+20:Nat):Int)=T.int (((D.length+20:Nat):Int)+20);exact eK T.int (by rw[aL,lW]; omega)
  ·show T.int ((D++W).length:Int)=T.int ((D.length+20:Nat):Int);rw[aL,lW]
  ·show(bT (D++W++R.drop 20)).ay.l=_; rw[ax]
 have h4:l.length<D.length+20:=by have:=aR h3; omega
 refine ah.pY (S.insertion D R [] _ _ _ rfl (by omega) (by simp only[bw]; omega) (by rw[cT]; exact hs.perm i1)) (by rw[cT]; rfl) ?_;rintro t hp ⟨W,pW,sW,rfl,rfl⟩;have hR:=vN i3 i2 (oM (n:=20) sW);have hP:(D++W).Perm l:=((dp _ pW)).trans i1;refine⟨.bU [],h1 (D++W),rfl,by rw[cT],?_⟩;generalize D++W=L0 at hR hP;refine aF.objs 1 [0,1,2] (fun s:ai7=>[(6,.int s.bs)]) (fun s=>[(0,bT s.L)]) (fun s=>s.L.Perm l/\Runs s.bs s.L/\20<=s.bs/\s.bs<2^32) (fun s=>l.length-s.bs) ⟨20,L0⟩ [0] rfl (by decide) (fun _=>rfl) ⟨hP,hR,bO 20,(show 20<2^32 by decide)⟩ ?_ ?_ ?_
 ·exact(sR rfl)
 ·exact⟨gK rfl rfl,trivial⟩
 refine⟨(sR rfl),rfl,?_⟩;rintro⟨bs,L⟩ ⟨j1,j2,j3,j4⟩;simp only at j1 j2 j3 j4;dsimp only;have hLl:=j1.length_eq;refine⟨fun h5=>?_,fun h5=>?_⟩
 ·have h6:bs<l.length:=by have:=aq h5; omega
  refine .mk (by first|(simp only[okI]; omega)|omega) ?_;refine aF.objs 1 [0,1,2,6] (fun s:ahU=>[(8,.int (s.D.length+2*bs:Nat)),(7,.int s.D.length)]) (fun s=>[(0,bT (s.D++s.R))]) (fun s=>(s.D++s.R).Perm l/\(∃ c,s.D.length=c*(2*bs))/\Runs (2*bs) s.D/\Runs bs s.R) (fun s=>s.R.length) ⟨[],L⟩ [0] rfl (by decide) (fun _=>rfl) ⟨j1,⟨0,by simp⟩,oM List.Pairwise.nil,j2⟩ ?_ ?_ ?_
  ·refine⟨⟨_,rfl,.eq ?_⟩,⟨_,rfl,.eq rfl⟩,trivial⟩;show T.int ((0+2*bs:Nat):Int)=T.int (2*(bs:Int));exact eK T.int (by omega)
  ·exact⟨gK rfl rfl,trivial⟩
  refine⟨(sR rfl),rfl,?_⟩;rintro⟨D,R⟩ ⟨k1,⟨c,k2⟩,k3,k4⟩;simp only at k1 k2 k3 k4;dsimp only;have hlen:D.length+R.length=l.length:=by rw[<- aL]; exact k1.length_eq
  refine⟨fun h7=>?_,fun h7=>?_⟩
  ·have h8:D.length+2*bs<=l.length:=by have:=aq h7; omega
   have hT:R.take bs++((R.drop bs).take bs++(R.drop bs).drop bs)=R:=by rw[bx,bx]
   have l1:(R.take bs).length=bs:=by rw[bL]; omega
   have l2:((R.drop bs).take bs).length=bs:=by rw[bL,bv]; omega
   have l3:((R.drop bs).drop bs).length=R.length-2*bs:=by rw[bv,bv]; omega
   refine .mk (by first|(simp only[okI]; omega)|omega) ?_;refine ah.pY (S.symMerge (2*bs) D (R.take bs) ((R.drop bs).take bs) ((R.drop bs).drop bs) _ _ _ _ (by omega) (by omega) (by omega) (Eb k4) (Eb (Ea k4)) rfl (by rw[l1]) (by rw[l1,l2]; omega) (by omega) (by rw[hT]; exact hs.perm k1)) (by rw[hT]; rfl) ?_;rintro t hp ⟨W,pW,sW,rfl,rfl⟩;have lW:W.length=2*bs:=by rw[pW.length_eq,aL]; omega
   refine⟨.bU [],h1 _,rfl,rfl,?_⟩;repeat(refine VC.mk (by first|(simp only[okI]; omega)|omega) ?_)
   refine⟨⟨D++W,(R.drop bs).drop bs⟩,[0],⟨?_,⟨c+1,?_⟩,vN k3 k2 (oM sW),Ea (Ea k4)⟩,?_,⟨⟨_,rfl,.eq ?_⟩,⟨_,rfl,.eq ?_⟩,trivial⟩,(sR rfl),⟨rfl,(fun _=>rfl),rfl,rfl,rfl,_,rfl,rfl,rfl,dH.of_eq ?_⟩,trivial⟩
   ·show(D++W++(R.drop bs).drop bs).Perm l;refine List.Perm.trans ?_ k1;rw[ax];refine dp _ ?_;refine(pW.append_right _).trans ?_;rw[ax,hT]
   ·show(D++W).length=_; rw[aL,eL]; omega
   ·show((R.drop bs).drop bs).length<R.length; omega
   ·show T.int (((D++W).length+2*bs:Nat):Int)=T.int (((D.length+2*bs:Nat):Int)+2*(bs:Int));exact eK T.int (by rw[aL,lW]; omega)
   ·show T.int ((D++W).length:Int)=T.int ((D.length+2*bs:Nat):Int);rw[aL,lW]
   ·show(bT (D++W++(R.drop bs).drop bs)).ay.l=_; rw[ax]
  have h8:l.length<D.length+2*bs:=by have:=aR h7; omega
  refine .mk (by first|(simp only[okI]; omega)|omega) ?_;refine⟨fun h9=>?_,fun h9=>?_⟩
  ·have h10:D.length+bs<l.length:=by have:=aq h9; omega
   have hT:R.take bs++(R.drop bs++[])=R:=by rw[cT,bx]
   have l1:(R.take bs).length=bs:=by rw[bL]; omega
   have l2:(R.drop bs).length=R.length-bs:=bv;refine ah.pY (S.symMerge (2*bs) D (R.take bs) (R.drop bs) [] _ _ _ _ (by omega) (by omega) (by omega) (Eb k4) (FC (Ea k4) (by omega)) rfl (by rw[l1]) (by omega) (by simp only[bw]; omega) (by rw[hT]; exact hs.perm k1)) (by rw[hT]; rfl) ?_;rintro t hp ⟨W,pW,sW,rfl,rfl⟩;refine⟨.bU [],h1 _,rfl,rfl,?_⟩;refine .mk (by first|(simp only[okI]; omega)|omega) ?_;refine⟨⟨bs*2,D++W⟩,[0],⟨?_,?_,by show 20<=bs*2; omega,by show bs*2<_; omega⟩,by show l.length-bs*2<l.length-bs; omega,⟨⟨_,rfl,.eq ?_⟩,trivial⟩,(sR rfl),⟨rfl,(fun _=>rfl),rfl,rfl,rfl,_,rfl,rfl,rfl,dH.of_eq ?_⟩,trivial⟩
   ·show(D++W).Perm l;refine List.Perm.trans ?_ k1;refine dp _ (pW.trans ?_);rw[bx]
   ·show Runs (bs*2) (D++W);rw[gF]; exact vN k3 k2 (oM sW)
   ·show T.int ((bs*2:Nat):Int)=T.int ((bs:Int)*2)
    congr 2
   ·show(bT (D++W)).ay.l=_; rw[cT]
  ·have h10:l.length<=D.length+bs:=by have:=aR h9; omega
   refine .mk (by first|(simp only[okI]; omega)|omega) ?_;refine⟨⟨bs*2,D++R⟩,[0],⟨k1,?_,by show 20<=bs*2; omega,by show bs*2<_; omega⟩,by show l.length-bs*2<l.length-bs; omega,⟨⟨_,rfl,.eq ?_⟩,trivial⟩,(sR rfl),gK rfl rfl,trivial⟩
   ·show Runs (bs*2) (D++R);rw[gF]; exact vN k3 k2 (oM (FC k4 (by omega)))
   ·show T.int ((bs*2:Nat):Int)=T.int ((bs:Int)*2)
    congr 2
 ·have h6:l.length<=bs:=by have:=aR h5; omega
  exact gG.one (c:=0) (j:=0) (o:=bT L) (t:=.bU []) rfl rfl rfl (fun _=>rfl) (.inl rfl) trivial (.eq rfl) ⟨L,j1,FC j2 (by omega),rfl,rfl⟩
theorem S.Vz(l:List Elem)(n:Nat)(hl:l.length<2^30)(hs:eG l) :
  aO Tryz.prog 108 (V.aQ [.own 0,fnT]) (h1 l).au n (fun t hp=> ∃ W,W.Perm l/\iU W/\t= .bU []/\hp=(h1 W).au):=by
 obtain⟨W0,w1,w2⟩:=x8 l;refine og.of (nx:=1) Bd.dN (by simp) ⟨_,_,W0,w1,w2,rfl,rfl⟩ rfl rfl ?_;refine ah.heap (S.stable l _ hl hs) ?_;rintro t hp ⟨W,pW,sW,rfl,rfl⟩;refine⟨.bU [],h1 W,rfl,rfl,?_⟩;exact gG.one (c:=0) (j:=0) (o:=bT W) (t:=.bU []) rfl rfl rfl (fun _=>rfl) (.inl rfl) trivial (.eq rfl) ⟨W,pW,sW,rfl,rfl⟩
structure CS(e:Elem):Prop where
 len:e.counts.length<=6
 nums:OG e.counts
theorem aaY: ∀ {a b:List Int},qJ a b=true->a.sum<=b.sum/\(a≠b->a.sum<b.sum):=by
 intro a;induction a with
 |nil=>intro b h; cases b<;>simp[qJ] at *
 |cons x a ih =>
  intro b h;cases b with
  |nil=>simp[qJ] at h
  |cons y b =>
   simp only[qJ,aD,ab] at h;obtain⟨h1,h2⟩:=ih h.2;simp only[fI];refine⟨by omega,fun hne=>?_⟩;by_cases e:a=b
   ·have:x≠y:=fun q=>hne (by rw[q,e])
    omega
   ·have:=h2 e; omega
theorem Si{e:Elem}(h:CS e):dS e=e.counts.sum:=by
 have h1:=h.len;rw[dS,av (by omega),ba];rw[cA];exact fun x hx=>Qg.2 (h.nums x hx)
theorem agx{a b:Elem}(ha:CS a)(hb:CS b)(h:uP a b=true)(hne:a≠b):dS a<dS b:=by
 rw[Si ha,Si hb];simp only[uP,aD,bo] at h;refine(aaY h.2).2 fun e=>hne ?_
 obtain⟨v,c⟩:=a; obtain⟨w,d⟩:=b;simp only at h e;rw[h.1,e]
theorem aaZ{W:List Elem}(hs:iU W)(hg: ∀ e∈W,CS e): ∀ i,i<=W.length-> ∀ x,x∈(W.take i).foldl rP []↔x∈W.take i/\W.any (CW x)=false:=by
 intro i;induction i with
 |zero=>intro _ x; simp
 |succ i ih =>
  intro hi x;have ih:=ih (by omega);have hil:i<W.length:=by omega
  rw[Lh rP [] default hil];have hlast:W.take (i+1)=W.take i++[W.getD i default]:=by rw[cJ]; simp[hil]
  generalize hy:W.getD i default=y at hlast ⊢;have hyW:y∈W:=by rw[<- hy]; simp[hil]
  generalize hK:(W.take i).foldl rP []=K at ih ⊢;rw[hlast];unfold rP;cases hm:W.any (CW y) with
  |true =>
   rw[di] at hm;obtain⟨u,hu,hab⟩:=hm;obtain⟨z,hz,h1,h2⟩:=agy W hu;have hu2:=zU.1 hab;have hzy:uP z y=true:=Lj h1 hu2.1;have hne:z≠y:=by
    rintro rfl;have g1:=Sj h1;have g2:=Qj hab;rw[pI] at g1; omega
   have hlt:=agx (hg z hz) (hg y hyW) hzy hne;have hzt:z∈W.take i:=by
    rw[<- bx i W,cN] at hz;rcases hz with hz|hz
    ·exact hz
    ·exfalso;obtain⟨j,a1,a2,rfl⟩:=zV hz;have:=wR hs a1 a2;rw[hy] at this; omega
   have hzK:z∈K:=(ih z).2 ⟨hzt,h2⟩;rw[ba (di.2 ⟨z,hzK,hzy⟩),ih];simp only[cN,bt];constructor
   ·rintro⟨a,b⟩; exact⟨.inl a,b⟩
   ·rintro⟨a|a,b⟩
    ·exact⟨a,b⟩
    ·subst a;rw[dv] at b;exact absurd hab (b u hu)
  |false =>
   split
   ·rename_i hc;rw[di] at hc;obtain⟨b,hb,hby⟩:=hc;have hbW:=dj ((ih b).1 hb).1;have e:b=y:=by
     refine Classical.byContradiction fun hne=>?_
     rw[dv] at hm;exact hm b hbW (zU.2 ⟨hby,hne⟩)
    subst e;rw[ih];simp only[cN,bt];constructor
    ·rintro⟨a,b⟩; exact⟨.inl a,b⟩
    ·rintro⟨a|a,b⟩
     ·exact⟨a,b⟩
     ·subst a; exact(ih x).1 hb
   ·simp only[cN,bt,ih];constructor
    ·rintro(⟨a,b⟩|a)
     ·exact⟨.inl a,b⟩
     ·subst a; exact⟨.inr rfl,hm⟩
    ·rintro⟨a|a,b⟩
     ·exact .inl ⟨a,b⟩
     ·exact .inr a
theorem ad5{l W:List Elem}(hg: ∀ e∈l,CS e)(p:W.Perm l)(hs:iU W):vM (W.foldl rP [])=cO l:=by
 refine D8 (KX _) (sZ l).1 fun x=>?_
 have:=aaZ hs (fun e he=>hg e (p.mem_iff.1 he)) _ (bO _) x;rw[cB] at this;rw[zQ,this,(sZ l).2,p.mem_iff,any_congr (fun y=>p.mem_iff)]
theorem S.zT(l:List Elem)(n:Nat)(hn:0<n)(hl:l.length<2^29)(hg: ∀ e∈l,CS e) :
  aO Tryz.prog 77 (V.aQ [.own 0]) (h1 l).au n (fun t hp=>(t= .own n/\hp=Hz.au [(n,some (bT (cO l)))])\/(∃ m,t= .oG n 0 (cO l).length/\hp=Hz.au [(n,some (.row 40 3 (.elems (cO l)) (List.replicate m zeroV)))])):=by
 have hs:VA l:=fun e he=>by have:=(hg e he).len; omega
 refine og.of (nx:=1) Bd.wH (by simp) ⟨_,_,.inl ⟨rfl,rfl⟩⟩ rfl rfl ?_;refine ah.heap (S.Vz l _ (by omega) hs.e) ?_;rintro t hp ⟨W,pW,sW,rfl,rfl⟩;refine⟨.bU [],h1 W,rfl,rfl,?_⟩;have hWl:=pW.length_eq;have hWs:eG W:=hs.e.perm pW;have ahV:=ad5 hg pW sW;refine aF.nil 3 40 3 (by rfl) rfl rfl rfl ?_;refine aF.objs 3 [9] (fun i:Nat=>[(10,.int i),(3,.own 2),(8,.own 0)]) (fun i=>[(0,bT W),(2,bT ((W.take i).foldl rP []))]) (fun i=>i<=W.length) (fun i=>W.length-i) 0 [0,8] rfl (by decide) (fun _=>rfl) (ap _) ?_ ?_ ?_
 ·exact(sR rfl)
 ·exact⟨gK rfl rfl,gK rfl rfl,trivial⟩
 refine⟨(sR rfl),rfl,?_⟩;rintro i hi;have hkl:((W.take i).foldl rP []).length<=i:=by
  have:=aa0 (W.take i) [];simp at this; omega
 refine⟨fun h3=>?_,fun h3=>?_⟩
 ·have hi':i<W.length:=by simpa using h3
  have hstep:=Lh rP [] (l:=W) default hi';repeat(refine VC.mk (by simp only[Rw.rng] at *; omega) ?_)
  refine ah.lend (S.jL _ (W.getD i default) false (by omega) (Ll hWs i) (hWs.get i)) ⟨KY trivial rfl,aG _,trivial⟩ rfl rfl ?_;refine⟨fun h4=>?_,fun h4=>?_⟩
  ·conv=>whnf
   repeat(refine VC.mk (by first|(show(((W.take i).foldl rP []).length+(0+1))*32<=140737488355328/\((W.take i).foldl rP []).length+(0+1)<=1152921504606846976; omega)|(simp only[okI] at *; omega)) ?_)
   refine⟨i+1,[0,15],by omega,by omega,(sR rfl),(sR rfl),gK rfl rfl,⟨rfl,nofun,rfl,rfl,rfl,_,rfl,rfl,rfl,dH.of_eq ?_⟩,trivial⟩;rw[bl] at h4;rw[hstep,rP,av (by rw[h4]; decide)];show List.map fG _++[]=List.map fG _++[fG _];simp
  ·conv=>whnf
   refine .mk (by simp only[okI] at *; omega) ?_;refine⟨i+1,[0,2],by omega,by omega,(sR rfl),(sR rfl),gK rfl rfl,⟨rfl,nofun,rfl,rfl,rfl,_,rfl,rfl,rfl,dH.of_eq ?_⟩,trivial⟩;rw[da] at h4;rw[hstep,rP,ba h4]
 ·have hi':W.length<=i:=by simpa using h3
  rw[bk hi'] at hkl ⊢;conv=>whnf
  have hks:eG (W.foldl rP []):=by
   have:=Ll hWs W.length;rwa [cB] at this
  refine ah.tidy rfl rfl (by omega) hks ?_ (fun m=>?_)
  ·rw[ahV];exact gG.one (c:=n) (j:=2) (o:=bT (cO l)) (t:=.own n) rfl rfl rfl (fun h=>by rw[VB hn] at h; cases h) (.inr rfl) rfl (.eq rfl) (.inl ⟨rfl,rfl⟩)
  ·rw[ahV];exact gG.one (c:=n) (j:=2) (o:=.row 40 3 (.elems (cO l)) (List.replicate m zeroV)) (t:=.oG n 0 (cO l).length) rfl (Lm _ _ _) (Gt _ _) (fun h=>by rw[VB hn] at h; cases h) (.inr rfl) rfl (.eq rfl) (.inr ⟨m,rfl,rfl⟩)
end Go.Proofs.YtbdbmfccbpfeoaaGreatDoor
