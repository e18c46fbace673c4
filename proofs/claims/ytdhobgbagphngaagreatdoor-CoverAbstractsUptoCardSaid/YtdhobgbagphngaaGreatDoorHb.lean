/-
 A part of the proof. No condition.
-/
import Derived.Test.YtdhobgbagphngaaGreatDoorHa
import Derived.Test.YtdhobgbagphngaaGreatDoorFa
namespace Go.Proofs.YtdhobgbagphngaaGreatDoor
open Go.Ab Go.Proofs
set_option maxRecDepth 100000
theorem wH(l:List Elem): ∃ W,W.Perm l/\iG W:=⟨l.mergeSort (fun x y=>decide (bD x<=bD y)),List.mergeSort_perm _ _,by
 have:=List.pairwise_mergeSort (le:=fun x y:Elem=>decide (bD x<=bD y)) (fun a b c h1 h2=>by simp only[decide_eq_true_eq] at *; omega) (fun a b=>by simp only[Bool.or_eq_true,decide_eq_true_eq]; omega) l
 exact this.imp (fun h=>of_decide_eq_true h)⟩
theorem vM{l:List Elem}(h:iG l){i j:Nat}(hij:i<=j)(hj:j<l.length):bD (l.getD i default)<=bD (l.getD j default):=by
 rcases Nat.lt_or_ge i j with hlt|hge
 ·have:=List.pairwise_iff_getElem.1 h i j (by omega) hj hlt;simpa [show i<l.length by omega,hj] using this
 ·rw[show i=j by omega]; exact Int.le_refl _
theorem AP{l:List Elem}{k:Nat}{x:Elem}(h:x∈l.take k): ∃ i,i<k/\i<l.length/\x=l.getD i default:=by
 rw[List.mem_take_iff_getElem] at h;obtain⟨i,hi,rfl⟩:=h;exact⟨i,by omega,by omega,by simp[show i<l.length by omega]⟩
theorem yR{l:List Elem}{k:Nat}{x:Elem}(h:x∈l.drop k): ∃ i,k<=i/\i<l.length/\x=l.getD i default:=by
 rw[List.mem_drop_iff_getElem] at h;obtain⟨i,hi,rfl⟩:=h;exact⟨k+i,by omega,by omega,by simp[show k+i<l.length by omega]⟩
theorem Vl{l:List Elem}{x:Elem}{p:Nat}(h:iG l)(hp:p<=l.length)(h1:p=0\/bD (l.getD (p-1) default)<=bD x)(h2:p=l.length\/bD x<=bD (l.getD p default)):iG (l.take p++(x::l.drop p)):=by
 have a1: ∀ y∈l.take p,bD y<=bD x:=fun y hy=>by
  obtain⟨i,e1,e2,rfl⟩:=AP hy;rcases h1 with h1|h1
  ·omega
  ·have:=vM h (i:=i) (j:=p-1) (by omega) (by omega); omega
 have a2: ∀ y∈l.drop p,bD x<=bD y:=fun y hy=>by
  obtain⟨i,e1,e2,rfl⟩:=yR hy;rcases h2 with h2|h2
  ·omega
  ·have:=vM h (i:=p) (j:=i) e1 e2; omega
 simp only[iG,List.pairwise_append,List.pairwise_cons];refine⟨List.Pairwise.sublist (List.take_sublist _ _) h,⟨a2,List.Pairwise.sublist (List.drop_sublist _ _) h⟩,fun y hy z hz=>?_⟩;rcases List.mem_cons.1 hz with rfl|hz
 ·exact a1 y hy
 ·have:=a1 y hy; have:=a2 z hz; omega
theorem Qc{l:List Elem}{x:Elem}{p:Nat}:(l.take p++(x::l.drop p)).Perm (x::l):=by
 refine List.perm_middle.trans ?_;rw[List.take_append_drop]
theorem IX{P Q R:List Elem}{k i:Nat}(hi:i<Q.length)(hk:k=P.length+i):(P++(Q++R)).getD k default=Q.getD i default:=by
 subst hk;rw[List.getD_eq_getElem?_getD,List.getElem?_append_right (by omega),show P.length+i-P.length=i by omega,List.getElem?_append_left hi,List.getD_eq_getElem?_getD]
structure afd where
 p:Nat
 q:Nat
theorem S.WI(A:List Elem)(x:Elem)(D B:List Elem)(n:Nat)(hD:0<D.length)(sD:iG D)(hl:A.length+1+D.length+B.length<2^40)(hs:eH (A++([x]++(D++B)))) :
  aQ Tryz.prog 170 (V.aT [.own 0,.int A.length,.int (A.length+1:Nat),.int (A.length+1+D.length:Nat),fnT]) (h1 (A++([x]++(D++B)))).au n (fun t hp=> ∃ W,W.Perm ([x]++D)/\iG W/\t= .dn []/\hp=(h1 (A++(W++B))).au):=by
 have gx: ∀ {k:Nat},k=A.length->(A++([x]++(D++B))).getD k default=x:=fun {k} hk=>get_at hk
 have gd: ∀ {k i:Nat},i<D.length->k=A.length+1+i->(A++([x]++(D++B))).getD k default=D.getD i default:=fun {k i} hi hk=>by
  rw[<- List.append_assoc]; exact IX hi (by rw[hk]; simp)
 have hL:(A++([x]++(D++B))).length=A.length+1+D.length+B.length:=by simp; omega
 obtain⟨W0,w1,w2⟩:=wH ([x]++D);refine qH.of (nx:=1) Bd.cZ (by simp) ⟨_,_,W0,w1,w2,rfl,rfl⟩ rfl rfl ?_;refine .mk (by simp only[okI] at *; omega) ?_;refine Fork.mk (fun _=>?_) (fun q=>absurd (q.symm.trans ((by simp only[beq_iff_eq]; omega))) Bool.false_ne_true);refine aC.same [0,1,2,3,4] (fun s:afd=>[(10,.int (A.length+1+s.p:Nat)),(11,.int (A.length+1+s.q:Nat))]) (fun s=>s.p<=s.q/\s.q<=D.length/\(s.p=0\/bD (D.getD (s.p-1) default)<bD x)/\(s.q=D.length\/bD x<=bD (D.getD s.q default))) (fun s=>s.q-s.p) ⟨0,D.length⟩ rfl (by decide) rfl (fun _=>rfl) ⟨Nat.zero_le _,Nat.le_refl _,.inl rfl,.inl rfl⟩ ⟨⟨_,rfl,rfl⟩,⟨_,rfl,rfl⟩,trivial⟩ ?_;refine⟨rfl,?_⟩;rintro⟨p,q⟩ ⟨i1,i2,i3,i4⟩;simp only at i1 i2 i3 i4;dsimp only;refine⟨fun h3=>?_,fun h3=>?_⟩
 ·have hpq:p<q:=by
   have:=of_decide_eq_true h3; omega
  have hc:TK (((A.length+1+p:Nat):Int)+((A.length+1+q:Nat):Int)) 1=((A.length+1+(p+q) / 2:Nat):Int):=by rw[AQ]; omega
  repeat(refine VC.mk (by first|(simp only[okI]; omega)|omega|(simp only[Rw.rng,hL]; omega)) ?_)
  rw[hc];refine ah.pure (S.rO _ _ (hs.get _) (hs.get _)) rfl ?_;conv=>whnf
  have e1:(((A.length+1+(p+q) / 2:Nat):Int)).toNat=A.length+1+(p+q) / 2:=rfl;have e2:((A.length:Int)).toNat=A.length:=rfl;refine⟨fun h4=>?_,fun h4=>?_⟩
  ·have h5:=of_decide_eq_true h4;rw[e1,e2,gx rfl,gd (show(p+q) / 2<D.length by omega) rfl] at h5;refine .mk (by first|(simp only[okI]; omega)|omega) ?_;refine⟨⟨(p+q) / 2+1,q⟩,⟨by show(p+q) / 2+1<=q; omega,i2,.inr ?_,i4⟩,by show q-((p+q) / 2+1)<q-p; omega,⟨⟨_,rfl,?_⟩,⟨_,rfl,rfl⟩,trivial⟩,?_,rfl⟩
   ·show bD (D.getD ((p+q) / 2+1-1) default)<bD x;rw[Nat.add_sub_cancel]; omega
   ·show T.int ((A.length+1+((p+q) / 2+1):Nat):Int)=T.int (((A.length+1+(p+q) / 2:Nat):Int)+1)
    congr 2
   ·repeat' (first|exact trivial|exact⟨_,rfl,rfl⟩|constructor)
  ·have h5:=of_decide_eq_false h4;rw[e1,e2,gx rfl,gd (show(p+q) / 2<D.length by omega) rfl] at h5;refine⟨⟨p,(p+q) / 2⟩,⟨by show p<=(p+q) / 2; omega,by show(p+q) / 2<=D.length; omega,i3,.inr ?_⟩,by show(p+q) / 2-p<q-p; omega,⟨⟨_,rfl,rfl⟩,⟨_,rfl,rfl⟩,trivial⟩,?_,rfl⟩
   ·show bD x<=bD (D.getD ((p+q) / 2) default); omega
   ·repeat' (first|exact trivial|exact⟨_,rfl,rfl⟩|constructor)
 ·have hpq:p=q:=by
   have:=of_decide_eq_false h3; omega
  subst hpq;have hst:=Vl (x:=x) sD i2 (by rcases i3 with i3|i3; exact .inl i3; exact .inr (by omega)) i4;refine aC.objs 1 [0,1,2,3,4,10] (fun c:Nat=>[(13,.int (A.length+c:Nat))]) (fun c=>[(0,dF (A++(D.take c++(x::(D.drop c++B)))))]) (fun c=>c<=p) (fun c=>p-c) 0 [0] rfl (by decide) (fun _=>rfl) (Nat.zero_le _) ?_ ?_ ?_
  ·exact(sR rfl)
  ·exact⟨iQ rfl rfl,trivial⟩
  refine⟨(sR rfl),rfl,?_⟩;rintro c hc;have hLc:(A++(D.take c++(x::(D.drop c++B)))).length=A.length+1+D.length+B.length:=by simp; omega
  refine .mk (by first|(simp only[okI]; omega)|omega) ?_;refine⟨fun h5=>?_,fun h5=>?_⟩
  ·have hcp:c<p:=by
    have:=of_decide_eq_true h5; omega
   have hcd:c<D.length:=by omega
   have hd:=dA default hcd;have ht:D.take (c+1)=D.take c++[D.getD c default]:=by rw[List.take_add_one]; simp[hcd]
   have r0:A++(D.take c++(x::(D.drop c++B)))=(A++D.take c)++(x::(D.getD c default::(D.drop (c+1)++B))):=by rw[hd]; simp
   have l0:A.length+c=(A++D.take c).length:=by simp; omega
   have e1:(((A.length+c:Nat):Int)).toNat=A.length+c:=rfl;have e2:(((A.length+c:Nat):Int)+1).toNat=A.length+c+1:=rfl;have g1:(A++(D.take c++(x::(D.drop c++B)))).getD (A.length+c) default=x:=by rw[r0]; exact get_at l0
   have g2:(A++(D.take c++(x::(D.drop c++B)))).getD (A.length+c+1) default=D.getD c default:=by
    rw[r0,show(A++D.take c)++(x::(D.getD c default::(D.drop (c+1)++B)))=((A++D.take c)++[x])++(D.getD c default::(D.drop (c+1)++B)) by simp];exact get_at (by simp only[List.length_append,List.length_cons,List.length_nil,List.length_take]; omega)
   repeat(refine VC.mk (by first|(simp only[okI]; omega)|omega|(simp only[Rw.rng,List.length_set,hLc]; omega)) ?_)
   refine⟨c+1,[0],by omega,by omega,⟨⟨_,rfl,.eq ?_⟩,trivial⟩,(sR rfl),⟨rfl,(fun _=>rfl),rfl,rfl,rfl,_,rfl,rfl,rfl,dQ.of_eq ?_⟩,trivial⟩
   ·show T.int ((A.length+(c+1):Nat):Int)=T.int (((A.length+c:Nat):Int)+1)
    congr 2
   ·rw[e1,e2,g1,g2,r0,uY l0,show(A++D.take c)++(D.getD c default::(D.getD c default::(D.drop (c+1)++B)))=((A++D.take c)++[D.getD c default])++(D.getD c default::(D.drop (c+1)++B)) by simp,uY (by simp only[List.length_append,List.length_cons,List.length_nil,List.length_take]; omega),ht];simp
  ·have hcp:c=p:=by
    have:=of_decide_eq_false h5; omega
   subst hcp;exact jv.one (c:=0) (j:=0) (o:=dF (A++(D.take c++(x::(D.drop c++B))))) (t:=.dn []) rfl rfl rfl (fun _=>rfl) (.inl rfl) trivial (.eq rfl) ⟨_,Qc,hst,rfl,by simp⟩
theorem S.WJ(A:List Elem)(x:Elem)(U B:List Elem)(n:Nat)(hU:1<U.length)(sU:iG U)(hl:A.length+U.length+1+B.length<2^40)(hs:eH (A++(U++([x]++B)))) :
  aQ Tryz.prog 170 (V.aT [.own 0,.int A.length,.int (A.length+U.length:Nat),.int (A.length+U.length+1:Nat),fnT]) (h1 (A++(U++([x]++B)))).au n (fun t hp=> ∃ W,W.Perm (U++[x])/\iG W/\t= .dn []/\hp=(h1 (A++(W++B))).au):=by
 have gx: ∀ {k:Nat},k=A.length+U.length->(A++(U++([x]++B))).getD k default=x:=fun {k} hk=>by
  rw[<- List.append_assoc]; exact get_at (by rw[hk]; simp)
 have gd: ∀ {k i:Nat},i<U.length->k=A.length+i->(A++(U++([x]++B))).getD k default=U.getD i default:=fun {k i} hi hk=>IX hi hk
 have hL:(A++(U++([x]++B))).length=A.length+U.length+1+B.length:=by simp; omega
 obtain⟨W0,w1,w2⟩:=wH (U++[x]);refine qH.of (nx:=1) Bd.cZ (by simp) ⟨_,_,W0,w1,w2,rfl,rfl⟩ rfl rfl ?_;refine .mk (by simp only[okI] at *; omega) ?_;refine Fork.mk (fun q=>absurd (q.symm.trans ((by simp only[beq_eq_false_iff_ne]; omega))).symm Bool.false_ne_true) (fun _=>?_);refine .mk (by simp only[okI] at *; omega) ?_;refine Fork.mk (fun _=>?_) (fun q=>absurd (q.symm.trans ((by simp only[beq_iff_eq]; omega))) Bool.false_ne_true);refine aC.same [0,1,2,3,4] (fun s:afd=>[(14,.int (A.length+s.p:Nat)),(15,.int (A.length+s.q:Nat))]) (fun s=>s.p<=s.q/\s.q<=U.length/\(s.p=0\/bD (U.getD (s.p-1) default)<=bD x)/\(s.q=U.length\/bD x<bD (U.getD s.q default))) (fun s=>s.q-s.p) ⟨0,U.length⟩ rfl (by decide) rfl (fun _=>rfl) ⟨Nat.zero_le _,Nat.le_refl _,.inl rfl,.inl rfl⟩ ⟨⟨_,rfl,rfl⟩,⟨_,rfl,rfl⟩,trivial⟩ ?_;refine⟨rfl,?_⟩;rintro⟨p,q⟩ ⟨i1,i2,i3,i4⟩;simp only at i1 i2 i3 i4;dsimp only;refine⟨fun h3=>?_,fun h3=>?_⟩
 ·have hpq:p<q:=by
   have:=of_decide_eq_true h3; omega
  have hc:TK (((A.length+p:Nat):Int)+((A.length+q:Nat):Int)) 1=((A.length+(p+q) / 2:Nat):Int):=by rw[AQ]; omega
  repeat(refine VC.mk (by first|(simp only[okI]; omega)|omega|(simp only[Rw.rng,hL]; omega)) ?_)
  rw[hc];refine ah.pure (S.rO _ _ (hs.get _) (hs.get _)) rfl ?_;conv=>whnf
  have e1:(((A.length+(p+q) / 2:Nat):Int)).toNat=A.length+(p+q) / 2:=rfl;have e2:(((A.length+U.length:Nat):Int)).toNat=A.length+U.length:=rfl;refine⟨fun h4=>?_,fun h4=>?_⟩
  ·rw[Bool.not_eq_true'] at h4;have h5:=of_decide_eq_false h4;rw[e1,e2,gx rfl,gd (show(p+q) / 2<U.length by omega) rfl] at h5;refine .mk (by first|(simp only[okI]; omega)|omega) ?_;refine⟨⟨(p+q) / 2+1,q⟩,⟨by show(p+q) / 2+1<=q; omega,i2,.inr ?_,i4⟩,by show q-((p+q) / 2+1)<q-p; omega,⟨⟨_,rfl,?_⟩,⟨_,rfl,rfl⟩,trivial⟩,?_,rfl⟩
   ·show bD (U.getD ((p+q) / 2+1-1) default)<=bD x;rw[Nat.add_sub_cancel]; omega
   ·show T.int ((A.length+((p+q) / 2+1):Nat):Int)=T.int (((A.length+(p+q) / 2:Nat):Int)+1)
    congr 2
   ·repeat' (first|exact trivial|exact⟨_,rfl,rfl⟩|constructor)
  ·rw[Bool.not_eq_false'] at h4;have h5:=of_decide_eq_true h4;rw[e1,e2,gx rfl,gd (show(p+q) / 2<U.length by omega) rfl] at h5;refine⟨⟨p,(p+q) / 2⟩,⟨by show p<=(p+q) / 2; omega,by show(p+q) / 2<=U.length; omega,i3,.inr ?_⟩,by show(p+q) / 2-p<q-p; omega,⟨⟨_,rfl,rfl⟩,⟨_,rfl,rfl⟩,trivial⟩,?_,rfl⟩
   ·show bD x<bD (U.getD ((p+q) / 2) default); omega
   ·repeat' (first|exact trivial|exact⟨_,rfl,rfl⟩|constructor)
 ·have hpq:p=q:=by
   have:=of_decide_eq_false h3; omega
  subst hpq;have hst:=Vl (x:=x) sU i2 i3 (by rcases i4 with i4|i4; exact .inl i4; exact .inr (by omega));refine aC.objs 1 [0,1,2,3,4,14] (fun c:Nat=>[(17,.int (A.length+c:Nat))]) (fun c=>[(0,dF (A++(U.take c++(x::(U.drop c++B)))))]) (fun c=>p<=c/\c<=U.length) (fun c=>c) U.length [0] rfl (by decide) (fun _=>rfl) ⟨i2,Nat.le_refl _⟩ ?_ ?_ ?_
  ·exact(sR rfl)
  ·refine⟨⟨rfl,(fun _=>rfl),rfl,rfl,rfl,_,rfl,rfl,rfl,dQ.of_eq ?_⟩,trivial⟩;rw[List.take_of_length_le (Nat.le_refl _),List.drop_eq_nil_of_le (Nat.le_refl _)]; rfl
  refine⟨(sR rfl),rfl,?_⟩;rintro c ⟨hc0,hc⟩;have hLc:(A++(U.take c++(x::(U.drop c++B)))).length=A.length+U.length+1+B.length:=by simp; omega
  refine⟨fun h5=>?_,fun h5=>?_⟩
  ·obtain⟨c,rfl⟩: ∃ k,c=k+1:=⟨c-1,by have:=of_decide_eq_true h5; omega⟩
   have hcp:p<c+1:=by
    have:=of_decide_eq_true h5; omega
   have hcd:c<U.length:=by omega
   have hd:=dA default hcd;have ht:U.take (c+1)=U.take c++[U.getD c default]:=by rw[List.take_add_one]; simp[hcd]
   have r0:A++(U.take (c+1)++(x::(U.drop (c+1)++B)))=(A++U.take c)++(U.getD c default::(x::(U.drop (c+1)++B))):=by rw[ht]; simp
   have l0:A.length+c=(A++U.take c).length:=by simp; omega
   have e1:(((A.length+(c+1):Nat):Int)).toNat=A.length+c+1:=rfl;have e2:(((A.length+(c+1):Nat):Int)-1).toNat=A.length+c:=by omega
   have g1:(A++(U.take (c+1)++(x::(U.drop (c+1)++B)))).getD (A.length+c) default=U.getD c default:=by rw[r0]; exact get_at l0
   have g2:(A++(U.take (c+1)++(x::(U.drop (c+1)++B)))).getD (A.length+c+1) default=x:=by
    rw[r0,show(A++U.take c)++(U.getD c default::(x::(U.drop (c+1)++B)))=((A++U.take c)++[U.getD c default])++(x::(U.drop (c+1)++B)) by simp];exact get_at (by simp only[List.length_append,List.length_cons,List.length_nil,List.length_take]; omega)
   repeat(refine VC.mk (by first|(simp only[okI]; omega)|omega|(simp only[Rw.rng,List.length_set,hLc]; omega)) ?_)
   refine⟨c,[0],⟨by omega,by omega⟩,by omega,⟨⟨_,rfl,.eq ?_⟩,trivial⟩,(sR rfl),⟨rfl,(fun _=>rfl),rfl,rfl,rfl,_,rfl,rfl,rfl,dQ.of_eq ?_⟩,trivial⟩
   ·show T.int ((A.length+c:Nat):Int)=T.int (((A.length+(c+1):Nat):Int)-1)
    congr 2; omega
   ·rw[e1,e2,g1,g2,r0,show(A++U.take c)++(U.getD c default::(x::(U.drop (c+1)++B)))=((A++U.take c)++[U.getD c default])++(x::(U.drop (c+1)++B)) by simp,uY (by simp only[List.length_append,List.length_cons,List.length_nil,List.length_take]; omega),show((A++U.take c)++[U.getD c default])++(U.getD c default::(U.drop (c+1)++B))=(A++U.take c)++(U.getD c default::(U.getD c default::(U.drop (c+1)++B))) by simp,uY l0,hd];simp
  ·have hcp:c=p:=by
    have:=of_decide_eq_false h5; omega
   subst hcp;exact jv.one (c:=0) (j:=0) (o:=dF (A++(U.take c++(x::(U.drop c++B))))) (t:=.dn []) rfl rfl rfl (fun _=>rfl) (.inl rfl) trivial (.eq rfl) ⟨_,Qc.trans (List.perm_append_comm (l₁:=[x])),hst,rfl,by simp⟩
theorem halves{U D:List Elem}{su ve:Nat}(sU:iG U)(sD:iG D)(h1:su<=U.length)(h2:ve<=D.length)
  (f1:su=0\/ve=D.length\/bD (U.getD (su-1) default)<=bD (D.getD ve default)) (f2:ve=0\/su=U.length\/bD (D.getD (ve-1) default)<=bD (U.getD su default)) :
  ∀ x∈U.take su++D.take ve,∀ y∈U.drop su++D.drop ve,bD x<=bD y:=by
 intro x hx y hy;rcases List.mem_append.1 hx with hx|hx<;>rcases List.mem_append.1 hy with hy|hy
 ·obtain⟨i,a1,a2,rfl⟩:=AP hx;obtain⟨j,b1,b2,rfl⟩:=yR hy;exact vM sU (by omega) b2
 ·obtain⟨i,a1,a2,rfl⟩:=AP hx;obtain⟨j,b1,b2,rfl⟩:=yR hy;rcases f1 with f1|f1|f1
  ·omega
  ·omega
  ·have g1:=vM sU (i:=i) (j:=su-1) (by omega) (by omega);have g2:=vM sD (i:=ve) (j:=j) b1 b2;omega
 ·obtain⟨i,a1,a2,rfl⟩:=AP hx;obtain⟨j,b1,b2,rfl⟩:=yR hy;rcases f2 with f2|f2|f2
  ·omega
  ·omega
  ·have g1:=vM sD (i:=i) (j:=ve-1) (by omega) (by omega);have g2:=vM sU (i:=su) (j:=j) b1 b2;omega
 ·obtain⟨i,a1,a2,rfl⟩:=AP hx;obtain⟨j,b1,b2,rfl⟩:=yR hy;exact vM sD (by omega) b2
theorem kT{W1 W2 X Y:List Elem}(h1:iG W1)(h2:iG W2)(p1:W1.Perm X)(p2:W2.Perm Y)(h: ∀ x∈X,∀ y∈Y,bD x<=bD y):iG (W1++W2):=by
 simp only[iG,List.pairwise_append];exact⟨h1,h2,fun x hx y hy=>h x (p1.mem_iff.1 hx) y (p2.mem_iff.1 hy)⟩
theorem mP{U D:List Elem}(sU:iG U)(sD:iG D)(h:U=[]\/D=[]):iG (U++D):=by
 rcases h with rfl|rfl
 ·simpa using sD
 ·simpa using sU
theorem dO{U1 U2 D1 D2 W1 W2:List Elem}(p1:W1.Perm (U1++D1))(p2:W2.Perm (U2++D2)):(W1++W2).Perm ((U1++U2)++(D1++D2)):=by
 refine(p1.append p2).trans ?_;simp only[List.append_assoc];refine List.Perm.append_left _ ?_;rw[<- List.append_assoc,<- List.append_assoc];exact List.perm_append_comm.append_right D2
structure adh where
 s:Int
 t:Int
set_option maxHeartbeats 4000000 in
theorem S.symMerge: ∀ (N:Nat) (A U D B:List Elem) (a m b:Int) (n:Nat),U.length+D.length<=N->0<U.length->0<D.length->iG U->iG D->a=A.length->m=A.length+U.length->b=A.length+U.length+D.length->A.length+U.length+D.length+B.length<2^40->eH (A++(U++(D++B))) ->
  aQ Tryz.prog 170 (V.aT [.own 0,.int a,.int m,.int b,fnT]) (h1 (A++(U++(D++B)))).au n (fun t hp=> ∃ W,W.Perm (U++D)/\iG W/\t= .dn []/\hp=(h1 (A++(W++B))).au):=by
 intro N;induction N with
 |zero=>intro A U D B a m b n h1 h2 h3; omega
 |succ N ih =>
  intro A U D B a m b n hN hU hD sU sD ha hm hb hl hs;by_cases e1:U.length=1
  ·obtain⟨x,rfl⟩:=List.length_eq_one_iff.1 e1;have:=S.WI A x D B n hD sD (by simp at hl ⊢; omega) hs;subst ha; subst hm; subst hb;exact this
  by_cases e2:D.length=1
  ·obtain⟨x,rfl⟩:=List.length_eq_one_iff.1 e2;have:=S.WJ A x U B n (by omega) sU (by simp at hl ⊢; omega) hs;subst ha; subst hm; subst hb;exact this
  obtain⟨W0,w1,w2⟩:=wH (U++D);obtain⟨L,hLd⟩: ∃ L,L=A++(U++(D++B)):=⟨_,rfl⟩
  have hL:L.length=A.length+U.length+D.length+B.length:=by rw[hLd]; simp; omega
  have hsL:eH L:=by rw[hLd]; exact hs
  have gu: ∀ {k:Int} {i:Nat},i<U.length->k=A.length+i->L.getD k.toNat default=U.getD i default:=fun {k i} hi hk=>by
   rw[hLd]; exact IX hi (by omega)
  have gv: ∀ {k:Int} {i:Nat},i<D.length->k=m+i->L.getD k.toNat default=D.getD i default:=fun {k i} hi hk=>by
   rw[hLd,<- List.append_assoc]; exact IX hi (by rw[List.length_append]; omega)
  refine qH.of (nx:=1) Bd.cZ (by simp) ⟨_,_,W0,w1,w2,rfl,rfl⟩ rfl rfl ?_;rw[<- hLd];refine .mk (by first|(simp only[okI]; omega)|omega) ?_;refine Fork.mk (fun q=>absurd (q.symm.trans ((by simp only[beq_eq_false_iff_ne]; omega))).symm Bool.false_ne_true) (fun _=>?_);refine .mk (by simp only[okI] at *; first|omega|(simp_all; done)|(simp_all; omega)) ?_;refine Fork.mk (fun q=>absurd (q.symm.trans ((by simp only[beq_eq_false_iff_ne]; omega))).symm Bool.false_ne_true) (fun _=>?_);repeat(refine VC.mk (by first|(omega)|(simp only[okI] at *; first|omega|(simp_all; done)|(simp_all; omega))) ?_)
  obtain⟨M,hM⟩: ∃ M,M=(a+b) / 2:=⟨_,rfl⟩
  rw[show TK (a+b) 1=M by rw[AQ,hM]];repeat(refine VC.mk (by first|(simp only[okI]; omega)|omega) ?_)
  refine⟨fun h3=>?_,fun h3=>?_⟩
  ·have hMm:M<m:=of_decide_eq_true h3;obtain⟨s0,hs0'⟩: ∃ s0,s0=M+m-b:=⟨_,rfl⟩
   obtain⟨r0,adI⟩: ∃ r0,r0=M:=⟨_,rfl⟩
   have hsr:s0<=r0:=by omega
   have hp1: ∀ c,s0<=c->c<r0->a<=c/\c<m/\m<=M+m-1-c/\M+m-1-c<b:=by intro c q1 q2; omega
   have hb1: ∀ {s:Int},s=s0-> ∀ su ve:Nat,s=A.length+su->M-s=ve->su=0\/ve=D.length:=by intro s q su ve q1 q2; omega
   have hb2: ∀ {s:Int},s=r0-> ∀ su ve:Nat,s=A.length+su->M-s=ve->ve=0\/su=U.length:=by intro s q su ve q1 q2; omega
   have hs0:(V.int s0).aG=(V.int (M+m-b)).aG:=by rw[hs0']
   have hr0:(V.int r0).aG=(V.int M).aG:=by rw[adI]
   repeat(refine VC.mk (by first|(simp only[okI]; omega)|omega) ?_)
   refine aC.same [0,1,2,3,4,18,19,22] (fun i:adh=>[(20,.int i.s),(21,.int i.t)]) (fun i=>s0<=i.s/\i.s<=i.t/\i.t<=r0/\(i.s=s0\/bD (L.getD (i.s-1).toNat default)<=bD (L.getD (M+m-1-(i.s-1)).toNat default))/\(i.t=r0\/bD (L.getD (M+m-1-i.t).toNat default)<bD (L.getD i.t.toNat default))) (fun i=>(i.t-i.s).toNat) ⟨s0,r0⟩ rfl (by decide) rfl (fun _=>rfl) ⟨Int.le_refl _,hsr,Int.le_refl _,.inl rfl,.inl rfl⟩ ⟨⟨_,rfl,hs0⟩,⟨_,rfl,hr0⟩,trivial⟩ ?_;refine⟨rfl,?_⟩;rintro⟨s,t⟩ ⟨i1,i2,i3,i4,i5⟩;simp only at i1 i2 i3 i4 i5;dsimp only;refine⟨fun h4=>?_,fun h4=>?_⟩
   ·have hst:s<t:=of_decide_eq_true h4;repeat(refine VC.mk (by first|omega|(simp only[okI]; omega)) ?_)
    obtain⟨c,hc⟩: ∃ c,c=(s+t) / 2:=⟨_,rfl⟩
    rw[show TK (s+t) 1=c by rw[AQ,hc]];have hc1:s<=c/\c<t:=by omega
    have hrg:=hp1 c (by omega) (by omega);repeat(refine VC.mk (by first|(simp only[okI]; omega)|omega|(simp only[Rw.rng,hL]; omega)) ?_)
    refine ah.pure (S.rO _ _ (hsL.get _) (hsL.get _)) rfl ?_;refine⟨fun h5=>?_,fun h5=>?_⟩
    ·rw[Bool.not_eq_true'] at h5;have h6:=of_decide_eq_false h5;refine .mk (by first|(simp only[okI]; omega)|omega) ?_;refine⟨⟨c+1,t⟩,⟨by show s0<=c+1; omega,by show c+1<=t; omega,i3,.inr ?_,i5⟩,by show(t-(c+1)).toNat<(t-s).toNat; omega,⟨⟨_,rfl,rfl⟩,⟨_,rfl,rfl⟩,trivial⟩,?_,rfl⟩
     ·show bD (L.getD (c+1-1).toNat default)<=bD (L.getD (M+m-1-(c+1-1)).toNat default);rw[show c+1-1=c by omega]; omega
     ·repeat' (first|exact trivial|exact⟨_,rfl,rfl⟩|constructor)
    ·rw[Bool.not_eq_false'] at h5;have h6:=of_decide_eq_true h5;refine⟨⟨s,c⟩,⟨i1,by show s<=c; omega,by show c<=r0; omega,i4,.inr ?_⟩,by show(c-s).toNat<(t-s).toNat; omega,⟨⟨_,rfl,rfl⟩,⟨_,rfl,rfl⟩,trivial⟩,?_,rfl⟩
     ·show bD (L.getD (M+m-1-c).toNat default)<bD (L.getD c.toNat default);omega
     ·repeat' (first|exact trivial|exact⟨_,rfl,rfl⟩|constructor)
   have hst:s=t:=by
    have:=of_decide_eq_false h4; omega
   subst hst;obtain⟨su,hsu⟩: ∃ su:Nat,s=A.length+su:=⟨(s-A.length).toNat,by omega⟩
   obtain⟨ve,hve⟩: ∃ ve:Nat,M-s=ve:=⟨(M-s).toNat,by omega⟩
   have lu:su<=U.length:=by omega
   have lv:ve<=D.length:=by omega
   have Oh:=halves sU sD lu lv (by
    rcases i4 with i4|i4
    ·rcases hb1 i4 su ve hsu hve with e|e
     ·exact .inl e
     ·exact .inr (.inl e)
    ·by_cases e0:su=0
     ·exact .inl e0
     by_cases e1:ve=D.length
     ·exact .inr (.inl e1)
     refine .inr (.inr ?_);rw[gu (k:=s-1) (i:=su-1) (by omega) (by omega),gv (k:=M+m-1-(s-1)) (i:=ve) (by omega) (by omega)] at i4
     exact i4) (by
    rcases i5 with i5|i5
    ·rcases hb2 i5 su ve hsu hve with e|e
     ·exact .inl e
     ·exact .inr (.inl e)
    ·by_cases e0:ve=0
     ·exact .inl e0
     by_cases e1:su=U.length
     ·exact .inr (.inl e1)
     refine .inr (.inr ?_);rw[gu (k:=s) (i:=su) (by omega) (by omega),gv (k:=M+m-1-s) (i:=ve-1) (by omega) (by omega)] at i5
     omega)
   obtain⟨U1,YR⟩: ∃ X,X=U.take su:=⟨_,rfl⟩
   obtain⟨U2,YS⟩: ∃ X,X=U.drop su:=⟨_,rfl⟩
   obtain⟨D1,hD1⟩: ∃ X,X=D.take ve:=⟨_,rfl⟩
   obtain⟨D2,hD2⟩: ∃ X,X=D.drop ve:=⟨_,rfl⟩
   have l1:U1.length=su:=by rw[YR,List.length_take]; omega
   have l2:U2.length=U.length-su:=by rw[YS,List.length_drop]
   have l3:D1.length=ve:=by rw[hD1,List.length_take]; omega
   have l4:D2.length=D.length-ve:=by rw[hD2,List.length_drop]
   have sU1:iG U1:=by rw[YR]; exact List.Pairwise.sublist (List.take_sublist _ _) sU
   have Qd:iG U2:=by rw[YS]; exact List.Pairwise.sublist (List.drop_sublist _ _) sU
   have sD1:iG D1:=by rw[hD1]; exact List.Pairwise.sublist (List.take_sublist _ _) sD
   have Qe:iG D2:=by rw[hD2]; exact List.Pairwise.sublist (List.drop_sublist _ _) sD
   have hU:U=U1++U2:=by rw[YR,YS,List.take_append_drop]
   have hD:D=D1++D2:=by rw[hD1,hD2,List.take_append_drop]
   rw[<- YR,<- hD1,<- YS,<- hD2] at Oh;clear YR YS hD1 hD2 i4 i5 h4;have hUD:A++(U++(D++B))=A++((U1++U2)++((D1++D2)++B)):=by rw[<- hU,<- hD]
   repeat(refine VC.mk (by first|(first|(simp only[okI]; omega)|omega)|exact fun h=>h|exact fun h=>⟨h,h⟩) ?_)
   rw[hLd];have hhp:((U1++D1)++(U2++D2)).Perm ((U1++U2)++(D1++D2)):=dO (List.Perm.refl _) (List.Perm.refl _)
   have hsB: ∀ W1:List Elem,W1.Perm (U1++D1)->eH ((A++W1)++(U2++(D2++B))):=fun W1 pW=>hs.perm (by
    have:=((pW.append_right (U2++D2)).trans hhp).append_right B;rw[hUD,List.append_assoc]
    exact List.Perm.append_left _ (by simpa using this))
   have hsA:=hsB (U1++D1) (List.Perm.refl _);rw[show(A++(U1++D1))++(U2++(D2++B))=A++(U1++(D1++(U2++(D2++B)))) by simp] at hsA;have hlB: ∀ W1:List Elem,W1.Perm (U1++D1)->W1.length=su+ve:=fun W1 pW=>by rw[pW.length_eq,List.length_append]; omega
   have hA1: ∀ W1:List Elem,W1.length=su+ve->((A++W1).length:Int)=M:=fun W1 h=>by rw[List.length_append,h]; omega
   have hl2: ∀ W1:List Elem,W1.length=su+ve->(A++W1).length+U2.length+D2.length+B.length<2^40:=fun W1 h=>by rw[List.length_append,h]; omega
   have WL:M+U2.length=M+m-s/\M+U2.length+D2.length=b/\U2.length+D2.length<=N/\U1.length+D1.length<=N/\a+U1.length=s/\s+D1.length=M:=by omega
   obtain⟨hb3,hb4,hn2,hn1,hb5,hb6⟩:=WL;refine⟨fun h6=>?_,fun h6=>?_⟩
   ·rw[Bool.and_eq_true,decide_eq_true_eq,decide_eq_true_eq] at h6;refine ah.o8 (S.rotate (A++U1) U2 D1 (D2++B) _ _ _ _ (by omega) (by omega) (by rw[List.length_append]; omega) (by rw[List.length_append]; omega) (by rw[List.length_append]; omega) (by simp only[List.length_append]; omega)) (by rw[hUD]; simp only[List.append_assoc]) ?_;rintro t hp ⟨rfl,rfl⟩;refine⟨.dn [],h1 (A++(U1++(D1++(U2++(D2++B))))),rfl,by rw[List.append_assoc],?_⟩;repeat(refine VC.mk (by first|exact id|exact fun h=>⟨h,h⟩) ?_)
    refine⟨fun h7=>?_,fun h7=>?_⟩
    ·rw[Bool.and_eq_true,decide_eq_true_eq,decide_eq_true_eq] at h7;refine ah.o8 (ih A U1 D1 (U2++(D2++B)) _ _ _ _ hn1 (by omega) (by omega) sU1 sD1 ha (by omega) (by omega) (by simp only[List.length_append]; omega) hsA) rfl ?_;rintro t hp ⟨W1,rP,Gw,rfl,rfl⟩;have zJ:=hlB W1 rP;refine⟨.dn [],h1 _,rfl,rfl,?_⟩;repeat(refine VC.mk (by first|exact id|exact fun h=>⟨h,h⟩) ?_)
     refine⟨fun h8=>?_,fun h8=>?_⟩
     ·rw[Bool.and_eq_true,decide_eq_true_eq,decide_eq_true_eq] at h8;refine ah.o8 (ih (A++W1) U2 D2 B _ _ _ _ hn2 (by omega) (by omega) Qd Qe (hA1 W1 zJ).symm (by rw[hA1 W1 zJ,hb3]) (by rw[hA1 W1 zJ,hb4]) (hl2 W1 zJ) (hsB W1 rP)) (by rw[List.append_assoc]) ?_;rintro t hp ⟨W2,wI,DY,rfl,rfl⟩;refine⟨.dn [],h1 _,rfl,rfl,?_⟩;exact jv.one (c:=0) (j:=0) (o:=dF ((A++W1)++(W2++B))) (t:=.dn []) rfl rfl rfl (fun _=>rfl) (.inl rfl) trivial (.eq rfl) ⟨W1++W2,by rw[hU,hD]; exact dO rP wI,kT Gw DY rP wI Oh,rfl,by simp⟩
     ·have DY:iG (U2++D2):=mP Qd Qe (by
       rw[Bool.and_eq_false_iff,decide_eq_false_iff_not,decide_eq_false_iff_not] at h8;rcases h8 with h8|h8
       ·exact .inl (List.eq_nil_of_length_eq_zero (by omega))
       ·exact .inr (List.eq_nil_of_length_eq_zero (by omega)))
      have wI:(U2++D2).Perm (U2++D2):=List.Perm.refl _;exact jv.one (c:=0) (j:=0) (o:=dF (A++(W1++(U2++(D2++B))))) (t:=.dn []) rfl rfl rfl (fun _=>rfl) (.inl rfl) trivial (.eq rfl) ⟨W1++(U2++D2),by rw[hU,hD]; exact dO rP wI,kT Gw DY rP wI Oh,rfl,by simp⟩
    ·have Gw:iG (U1++D1):=mP sU1 sD1 (by
      rw[Bool.and_eq_false_iff,decide_eq_false_iff_not,decide_eq_false_iff_not] at h7;rcases h7 with h7|h7
      ·exact .inl (List.eq_nil_of_length_eq_zero (by omega))
      ·exact .inr (List.eq_nil_of_length_eq_zero (by omega)))
     have rP:(U1++D1).Perm (U1++D1):=List.Perm.refl _;obtain⟨W1,hW1⟩: ∃ W1,W1=U1++D1:=⟨_,rfl⟩
     rw[show A++(U1++(D1++(U2++(D2++B))))=A++(W1++(U2++(D2++B))) by rw[hW1,List.append_assoc]];rw[<- hW1] at Gw;replace rP:W1.Perm (U1++D1):=by rw[hW1]
     have zJ:=hlB W1 rP;repeat(refine VC.mk (by first|exact id|exact fun h=>⟨h,h⟩) ?_)
     refine⟨fun h8=>?_,fun h8=>?_⟩
     ·rw[Bool.and_eq_true,decide_eq_true_eq,decide_eq_true_eq] at h8;refine ah.o8 (ih (A++W1) U2 D2 B _ _ _ _ hn2 (by omega) (by omega) Qd Qe (hA1 W1 zJ).symm (by rw[hA1 W1 zJ,hb3]) (by rw[hA1 W1 zJ,hb4]) (hl2 W1 zJ) (hsB W1 rP)) (by rw[List.append_assoc]) ?_;rintro t hp ⟨W2,wI,DY,rfl,rfl⟩;refine⟨.dn [],h1 _,rfl,rfl,?_⟩;exact jv.one (c:=0) (j:=0) (o:=dF ((A++W1)++(W2++B))) (t:=.dn []) rfl rfl rfl (fun _=>rfl) (.inl rfl) trivial (.eq rfl) ⟨W1++W2,by rw[hU,hD]; exact dO rP wI,kT Gw DY rP wI Oh,rfl,by simp⟩
     ·have DY:iG (U2++D2):=mP Qd Qe (by
       rw[Bool.and_eq_false_iff,decide_eq_false_iff_not,decide_eq_false_iff_not] at h8;rcases h8 with h8|h8
       ·exact .inl (List.eq_nil_of_length_eq_zero (by omega))
       ·exact .inr (List.eq_nil_of_length_eq_zero (by omega)))
      have wI:(U2++D2).Perm (U2++D2):=List.Perm.refl _;exact jv.one (c:=0) (j:=0) (o:=dF (A++(W1++(U2++(D2++B))))) (t:=.dn []) rfl rfl rfl (fun _=>rfl) (.inl rfl) trivial (.eq rfl) ⟨W1++(U2++D2),by rw[hU,hD]; exact dO rP wI,kT Gw DY rP wI Oh,rfl,by simp⟩
   ·rw[show A++(U++(D++B))=A++(U1++(D1++(U2++(D2++B)))) by
     rw[hUD];rw[Bool.and_eq_false_iff,decide_eq_false_iff_not,decide_eq_false_iff_not] at h6;rcases h6 with h6|h6
     ·rw[List.eq_nil_of_length_eq_zero (show U2.length=0 by omega)]; simp
     ·rw[List.eq_nil_of_length_eq_zero (show D1.length=0 by omega)]; simp]
    repeat(refine VC.mk (by first|exact id|exact fun h=>⟨h,h⟩) ?_)
    refine⟨fun h7=>?_,fun h7=>?_⟩
    ·rw[Bool.and_eq_true,decide_eq_true_eq,decide_eq_true_eq] at h7;refine ah.o8 (ih A U1 D1 (U2++(D2++B)) _ _ _ _ hn1 (by omega) (by omega) sU1 sD1 ha (by omega) (by omega) (by simp only[List.length_append]; omega) hsA) rfl ?_;rintro t hp ⟨W1,rP,Gw,rfl,rfl⟩;have zJ:=hlB W1 rP;refine⟨.dn [],h1 _,rfl,rfl,?_⟩;repeat(refine VC.mk (by first|exact id|exact fun h=>⟨h,h⟩) ?_)
     refine⟨fun h8=>?_,fun h8=>?_⟩
     ·rw[Bool.and_eq_true,decide_eq_true_eq,decide_eq_true_eq] at h8;refine ah.o8 (ih (A++W1) U2 D2 B _ _ _ _ hn2 (by omega) (by omega) Qd Qe (hA1 W1 zJ).symm (by rw[hA1 W1 zJ,hb3]) (by rw[hA1 W1 zJ,hb4]) (hl2 W1 zJ) (hsB W1 rP)) (by rw[List.append_assoc]) ?_;rintro t hp ⟨W2,wI,DY,rfl,rfl⟩;refine⟨.dn [],h1 _,rfl,rfl,?_⟩;exact jv.one (c:=0) (j:=0) (o:=dF ((A++W1)++(W2++B))) (t:=.dn []) rfl rfl rfl (fun _=>rfl) (.inl rfl) trivial (.eq rfl) ⟨W1++W2,by rw[hU,hD]; exact dO rP wI,kT Gw DY rP wI Oh,rfl,by simp⟩
     ·have DY:iG (U2++D2):=mP Qd Qe (by
       rw[Bool.and_eq_false_iff,decide_eq_false_iff_not,decide_eq_false_iff_not] at h8;rcases h8 with h8|h8
       ·exact .inl (List.eq_nil_of_length_eq_zero (by omega))
       ·exact .inr (List.eq_nil_of_length_eq_zero (by omega)))
      have wI:(U2++D2).Perm (U2++D2):=List.Perm.refl _;exact jv.one (c:=0) (j:=0) (o:=dF (A++(W1++(U2++(D2++B))))) (t:=.dn []) rfl rfl rfl (fun _=>rfl) (.inl rfl) trivial (.eq rfl) ⟨W1++(U2++D2),by rw[hU,hD]; exact dO rP wI,kT Gw DY rP wI Oh,rfl,by simp⟩
    ·have Gw:iG (U1++D1):=mP sU1 sD1 (by
      rw[Bool.and_eq_false_iff,decide_eq_false_iff_not,decide_eq_false_iff_not] at h7;rcases h7 with h7|h7
      ·exact .inl (List.eq_nil_of_length_eq_zero (by omega))
      ·exact .inr (List.eq_nil_of_length_eq_zero (by omega)))
     have rP:(U1++D1).Perm (U1++D1):=List.Perm.refl _;obtain⟨W1,hW1⟩: ∃ W1,W1=U1++D1:=⟨_,rfl⟩
     rw[show A++(U1++(D1++(U2++(D2++B))))=A++(W1++(U2++(D2++B))) by rw[hW1,List.append_assoc]];rw[<- hW1] at Gw;replace rP:W1.Perm (U1++D1):=by rw[hW1]
     have zJ:=hlB W1 rP;repeat(refine VC.mk (by first|exact id|exact fun h=>⟨h,h⟩) ?_)
     refine⟨fun h8=>?_,fun h8=>?_⟩
     ·rw[Bool.and_eq_true,decide_eq_true_eq,decide_eq_true_eq] at h8;refine ah.o8 (ih (A++W1) U2 D2 B _ _ _ _ hn2 (by omega) (by omega) Qd Qe (hA1 W1 zJ).symm (by rw[hA1 W1 zJ,hb3]) (by rw[hA1 W1 zJ,hb4]) (hl2 W1 zJ) (hsB W1 rP)) (by rw[List.append_assoc]) ?_;rintro t hp ⟨W2,wI,DY,rfl,rfl⟩;refine⟨.dn [],h1 _,rfl,rfl,?_⟩;exact jv.one (c:=0) (j:=0) (o:=dF ((A++W1)++(W2++B))) (t:=.dn []) rfl rfl rfl (fun _=>rfl) (.inl rfl) trivial (.eq rfl) ⟨W1++W2,by rw[hU,hD]; exact dO rP wI,kT Gw DY rP wI Oh,rfl,by simp⟩
     ·have DY:iG (U2++D2):=mP Qd Qe (by
       rw[Bool.and_eq_false_iff,decide_eq_false_iff_not,decide_eq_false_iff_not] at h8;rcases h8 with h8|h8
       ·exact .inl (List.eq_nil_of_length_eq_zero (by omega))
       ·exact .inr (List.eq_nil_of_length_eq_zero (by omega)))
      have wI:(U2++D2).Perm (U2++D2):=List.Perm.refl _;exact jv.one (c:=0) (j:=0) (o:=dF (A++(W1++(U2++(D2++B))))) (t:=.dn []) rfl rfl rfl (fun _=>rfl) (.inl rfl) trivial (.eq rfl) ⟨W1++(U2++D2),by rw[hU,hD]; exact dO rP wI,kT Gw DY rP wI Oh,rfl,by simp⟩
  ·have hMm:m<=M:=by have:=of_decide_eq_false h3; omega
   obtain⟨s0,hs0'⟩: ∃ s0,s0=a:=⟨_,rfl⟩
   obtain⟨r0,adI⟩: ∃ r0,r0=m:=⟨_,rfl⟩
   have hsr:s0<=r0:=by omega
   have hp1: ∀ c,s0<=c->c<r0->a<=c/\c<m/\m<=M+m-1-c/\M+m-1-c<b:=by intro c q1 q2; omega
   have hb1: ∀ {s:Int},s=s0-> ∀ su ve:Nat,s=A.length+su->M-s=ve->su=0\/ve=D.length:=by intro s q su ve q1 q2; omega
   have hb2: ∀ {s:Int},s=r0-> ∀ su ve:Nat,s=A.length+su->M-s=ve->ve=0\/su=U.length:=by intro s q su ve q1 q2; omega
   have hs0:(V.int s0).aG=(V.int a).aG:=by rw[hs0']
   have hr0:(V.int r0).aG=(V.int m).aG:=by rw[adI]
   refine .mk (by first|(simp only[okI]; omega)|omega) ?_;refine aC.same [0,1,2,3,4,18,19,22] (fun i:adh=>[(20,.int i.s),(21,.int i.t)]) (fun i=>s0<=i.s/\i.s<=i.t/\i.t<=r0/\(i.s=s0\/bD (L.getD (i.s-1).toNat default)<=bD (L.getD (M+m-1-(i.s-1)).toNat default))/\(i.t=r0\/bD (L.getD (M+m-1-i.t).toNat default)<bD (L.getD i.t.toNat default))) (fun i=>(i.t-i.s).toNat) ⟨s0,r0⟩ rfl (by decide) rfl (fun _=>rfl) ⟨Int.le_refl _,hsr,Int.le_refl _,.inl rfl,.inl rfl⟩ ⟨⟨_,rfl,hs0⟩,⟨_,rfl,hr0⟩,trivial⟩ ?_;refine⟨rfl,?_⟩;rintro⟨s,t⟩ ⟨i1,i2,i3,i4,i5⟩;simp only at i1 i2 i3 i4 i5;dsimp only;refine⟨fun h4=>?_,fun h4=>?_⟩
   ·have hst:s<t:=of_decide_eq_true h4;repeat(refine VC.mk (by first|omega|(simp only[okI]; omega)) ?_)
    obtain⟨c,hc⟩: ∃ c,c=(s+t) / 2:=⟨_,rfl⟩
    rw[show TK (s+t) 1=c by rw[AQ,hc]];have hc1:s<=c/\c<t:=by omega
    have hrg:=hp1 c (by omega) (by omega);repeat(refine VC.mk (by first|(simp only[okI]; omega)|omega|(simp only[Rw.rng,hL]; omega)) ?_)
    refine ah.pure (S.rO _ _ (hsL.get _) (hsL.get _)) rfl ?_;refine⟨fun h5=>?_,fun h5=>?_⟩
    ·rw[Bool.not_eq_true'] at h5;have h6:=of_decide_eq_false h5;refine .mk (by first|(simp only[okI]; omega)|omega) ?_;refine⟨⟨c+1,t⟩,⟨by show s0<=c+1; omega,by show c+1<=t; omega,i3,.inr ?_,i5⟩,by show(t-(c+1)).toNat<(t-s).toNat; omega,⟨⟨_,rfl,rfl⟩,⟨_,rfl,rfl⟩,trivial⟩,?_,rfl⟩
     ·show bD (L.getD (c+1-1).toNat default)<=bD (L.getD (M+m-1-(c+1-1)).toNat default);rw[show c+1-1=c by omega]; omega
     ·repeat' (first|exact trivial|exact⟨_,rfl,rfl⟩|constructor)
    ·rw[Bool.not_eq_false'] at h5;have h6:=of_decide_eq_true h5;refine⟨⟨s,c⟩,⟨i1,by show s<=c; omega,by show c<=r0; omega,i4,.inr ?_⟩,by show(c-s).toNat<(t-s).toNat; omega,⟨⟨_,rfl,rfl⟩,⟨_,rfl,rfl⟩,trivial⟩,?_,rfl⟩
     ·show bD (L.getD (M+m-1-c).toNat default)<bD (L.getD c.toNat default);omega
     ·repeat' (first|exact trivial|exact⟨_,rfl,rfl⟩|constructor)
   have hst:s=t:=by
    have:=of_decide_eq_false h4; omega
   subst hst;obtain⟨su,hsu⟩: ∃ su:Nat,s=A.length+su:=⟨(s-A.length).toNat,by omega⟩
   obtain⟨ve,hve⟩: ∃ ve:Nat,M-s=ve:=⟨(M-s).toNat,by omega⟩
   have lu:su<=U.length:=by omega
   have lv:ve<=D.length:=by omega
   have Oh:=halves sU sD lu lv (by
    rcases i4 with i4|i4
    ·rcases hb1 i4 su ve hsu hve with e|e
     ·exact .inl e
     ·exact .inr (.inl e)
    ·by_cases e0:su=0
     ·exact .inl e0
     by_cases e1:ve=D.length
     ·exact .inr (.inl e1)
     refine .inr (.inr ?_);rw[gu (k:=s-1) (i:=su-1) (by omega) (by omega),gv (k:=M+m-1-(s-1)) (i:=ve) (by omega) (by omega)] at i4
     exact i4) (by
    rcases i5 with i5|i5
    ·rcases hb2 i5 su ve hsu hve with e|e
     ·exact .inl e
     ·exact .inr (.inl e)
    ·by_cases e0:ve=0
     ·exact .inl e0
     by_cases e1:su=U.length
     ·exact .inr (.inl e1)
     refine .inr (.inr ?_);rw[gu (k:=s) (i:=su) (by omega) (by omega),gv (k:=M+m-1-s) (i:=ve-1) (by omega) (by omega)] at i5
     omega)
   obtain⟨U1,YR⟩: ∃ X,X=U.take su:=⟨_,rfl⟩
   obtain⟨U2,YS⟩: ∃ X,X=U.drop su:=⟨_,rfl⟩
   obtain⟨D1,hD1⟩: ∃ X,X=D.take ve:=⟨_,rfl⟩
   obtain⟨D2,hD2⟩: ∃ X,X=D.drop ve:=⟨_,rfl⟩
   have l1:U1.length=su:=by rw[YR,List.length_take]; omega
   have l2:U2.length=U.length-su:=by rw[YS,List.length_drop]
   have l3:D1.length=ve:=by rw[hD1,List.length_take]; omega
   have l4:D2.length=D.length-ve:=by rw[hD2,List.length_drop]
   have sU1:iG U1:=by rw[YR]; exact List.Pairwise.sublist (List.take_sublist _ _) sU
   have Qd:iG U2:=by rw[YS]; exact List.Pairwise.sublist (List.drop_sublist _ _) sU
   have sD1:iG D1:=by rw[hD1]; exact List.Pairwise.sublist (List.take_sublist _ _) sD
   have Qe:iG D2:=by rw[hD2]; exact List.Pairwise.sublist (List.drop_sublist _ _) sD
   have hU:U=U1++U2:=by rw[YR,YS,List.take_append_drop]
   have hD:D=D1++D2:=by rw[hD1,hD2,List.take_append_drop]
   rw[<- YR,<- hD1,<- YS,<- hD2] at Oh;clear YR YS hD1 hD2 i4 i5 h4;have hUD:A++(U++(D++B))=A++((U1++U2)++((D1++D2)++B)):=by rw[<- hU,<- hD]
   repeat(refine VC.mk (by first|(first|(simp only[okI]; omega)|omega)|exact fun h=>h|exact fun h=>⟨h,h⟩) ?_)
   rw[hLd];have hhp:((U1++D1)++(U2++D2)).Perm ((U1++U2)++(D1++D2)):=dO (List.Perm.refl _) (List.Perm.refl _)
   have hsB: ∀ W1:List Elem,W1.Perm (U1++D1)->eH ((A++W1)++(U2++(D2++B))):=fun W1 pW=>hs.perm (by
    have:=((pW.append_right (U2++D2)).trans hhp).append_right B;rw[hUD,List.append_assoc]
    exact List.Perm.append_left _ (by simpa using this))
   have hsA:=hsB (U1++D1) (List.Perm.refl _);rw[show(A++(U1++D1))++(U2++(D2++B))=A++(U1++(D1++(U2++(D2++B)))) by simp] at hsA;have hlB: ∀ W1:List Elem,W1.Perm (U1++D1)->W1.length=su+ve:=fun W1 pW=>by rw[pW.length_eq,List.length_append]; omega
   have hA1: ∀ W1:List Elem,W1.length=su+ve->((A++W1).length:Int)=M:=fun W1 h=>by rw[List.length_append,h]; omega
   have hl2: ∀ W1:List Elem,W1.length=su+ve->(A++W1).length+U2.length+D2.length+B.length<2^40:=fun W1 h=>by rw[List.length_append,h]; omega
   have WL:M+U2.length=M+m-s/\M+U2.length+D2.length=b/\U2.length+D2.length<=N/\U1.length+D1.length<=N/\a+U1.length=s/\s+D1.length=M:=by omega
   obtain⟨hb3,hb4,hn2,hn1,hb5,hb6⟩:=WL;refine⟨fun h6=>?_,fun h6=>?_⟩
   ·rw[Bool.and_eq_true,decide_eq_true_eq,decide_eq_true_eq] at h6;refine ah.o8 (S.rotate (A++U1) U2 D1 (D2++B) _ _ _ _ (by omega) (by omega) (by rw[List.length_append]; omega) (by rw[List.length_append]; omega) (by rw[List.length_append]; omega) (by simp only[List.length_append]; omega)) (by rw[hUD]; simp only[List.append_assoc]) ?_;rintro t hp ⟨rfl,rfl⟩;refine⟨.dn [],h1 (A++(U1++(D1++(U2++(D2++B))))),rfl,by rw[List.append_assoc],?_⟩;repeat(refine VC.mk (by first|exact id|exact fun h=>⟨h,h⟩) ?_)
    refine⟨fun h7=>?_,fun h7=>?_⟩
    ·rw[Bool.and_eq_true,decide_eq_true_eq,decide_eq_true_eq] at h7;refine ah.o8 (ih A U1 D1 (U2++(D2++B)) _ _ _ _ hn1 (by omega) (by omega) sU1 sD1 ha (by omega) (by omega) (by simp only[List.length_append]; omega) hsA) rfl ?_;rintro t hp ⟨W1,rP,Gw,rfl,rfl⟩;have zJ:=hlB W1 rP;refine⟨.dn [],h1 _,rfl,rfl,?_⟩;repeat(refine VC.mk (by first|exact id|exact fun h=>⟨h,h⟩) ?_)
     refine⟨fun h8=>?_,fun h8=>?_⟩
     ·rw[Bool.and_eq_true,decide_eq_true_eq,decide_eq_true_eq] at h8;refine ah.o8 (ih (A++W1) U2 D2 B _ _ _ _ hn2 (by omega) (by omega) Qd Qe (hA1 W1 zJ).symm (by rw[hA1 W1 zJ,hb3]) (by rw[hA1 W1 zJ,hb4]) (hl2 W1 zJ) (hsB W1 rP)) (by rw[List.append_assoc]) ?_;rintro t hp ⟨W2,wI,DY,rfl,rfl⟩;refine⟨.dn [],h1 _,rfl,rfl,?_⟩;exact jv.one (c:=0) (j:=0) (o:=dF ((A++W1)++(W2++B))) (t:=.dn []) rfl rfl rfl (fun _=>rfl) (.inl rfl) trivial (.eq rfl) ⟨W1++W2,by rw[hU,hD]; exact dO rP wI,kT Gw DY rP wI Oh,rfl,by simp⟩
     ·have DY:iG (U2++D2):=mP Qd Qe (by
       rw[Bool.and_eq_false_iff,decide_eq_false_iff_not,decide_eq_false_iff_not] at h8;rcases h8 with h8|h8
       ·exact .inl (List.eq_nil_of_length_eq_zero (by omega))
       ·exact .inr (List.eq_nil_of_length_eq_zero (by omega)))
      have wI:(U2++D2).Perm (U2++D2):=List.Perm.refl _;exact jv.one (c:=0) (j:=0) (o:=dF (A++(W1++(U2++(D2++B))))) (t:=.dn []) rfl rfl rfl (fun _=>rfl) (.inl rfl) trivial (.eq rfl) ⟨W1++(U2++D2),by rw[hU,hD]; exact dO rP wI,kT Gw DY rP wI Oh,rfl,by simp⟩
    ·have Gw:iG (U1++D1):=mP sU1 sD1 (by
      rw[Bool.and_eq_false_iff,decide_eq_false_iff_not,decide_eq_false_iff_not] at h7;rcases h7 with h7|h7
      ·exact .inl (List.eq_nil_of_length_eq_zero (by omega))
      ·exact .inr (List.eq_nil_of_length_eq_zero (by omega)))
     have rP:(U1++D1).Perm (U1++D1):=List.Perm.refl _;obtain⟨W1,hW1⟩: ∃ W1,W1=U1++D1:=⟨_,rfl⟩
     rw[show A++(U1++(D1++(U2++(D2++B))))=A++(W1++(U2++(D2++B))) by rw[hW1,List.append_assoc]];rw[<- hW1] at Gw;replace rP:W1.Perm (U1++D1):=by rw[hW1]
     have zJ:=hlB W1 rP;repeat(refine VC.mk (by first|exact id|exact fun h=>⟨h,h⟩) ?_)
     refine⟨fun h8=>?_,fun h8=>?_⟩
     ·rw[Bool.and_eq_true,decide_eq_true_eq,decide_eq_true_eq] at h8;refine ah.o8 (ih (A++W1) U2 D2 B _ _ _ _ hn2 (by omega) (by omega) Qd Qe (hA1 W1 zJ).symm (by rw[hA1 W1 zJ,hb3]) (by rw[hA1 W1 zJ,hb4]) (hl2 W1 zJ) (hsB W1 rP)) (by rw[List.append_assoc]) ?_;rintro t hp ⟨W2,wI,DY,rfl,rfl⟩;refine⟨.dn [],h1 _,rfl,rfl,?_⟩;exact jv.one (c:=0) (j:=0) (o:=dF ((A++W1)++(W2++B))) (t:=.dn []) rfl rfl rfl (fun _=>rfl) (.inl rfl) trivial (.eq rfl) ⟨W1++W2,by rw[hU,hD]; exact dO rP wI,kT Gw DY rP wI Oh,rfl,by simp⟩
     ·have DY:iG (U2++D2):=mP Qd Qe (by
       rw[Bool.and_eq_false_iff,decide_eq_false_iff_not,decide_eq_false_iff_not] at h8;rcases h8 with h8|h8
       ·exact .inl (List.eq_nil_of_length_eq_zero (by omega))
       ·exact .inr (List.eq_nil_of_length_eq_zero (by omega)))
      have wI:(U2++D2).Perm (U2++D2):=List.Perm.refl _;exact jv.one (c:=0) (j:=0) (o:=dF (A++(W1++(U2++(D2++B))))) (t:=.dn []) rfl rfl rfl (fun _=>rfl) (.inl rfl) trivial (.eq rfl) ⟨W1++(U2++D2),by rw[hU,hD]; exact dO rP wI,kT Gw DY rP wI Oh,rfl,by simp⟩
   ·rw[show A++(U++(D++B))=A++(U1++(D1++(U2++(D2++B)))) by
     rw[hUD];rw[Bool.and_eq_false_iff,decide_eq_false_iff_not,decide_eq_false_iff_not] at h6;rcases h6 with h6|h6
     ·rw[List.eq_nil_of_length_eq_zero (show U2.length=0 by omega)]; simp
     ·rw[List.eq_nil_of_length_eq_zero (show D1.length=0 by omega)]; simp]
    repeat(refine VC.mk (by first|exact id|exact fun h=>⟨h,h⟩) ?_)
    refine⟨fun h7=>?_,fun h7=>?_⟩
    ·rw[Bool.and_eq_true,decide_eq_true_eq,decide_eq_true_eq] at h7;refine ah.o8 (ih A U1 D1 (U2++(D2++B)) _ _ _ _ hn1 (by omega) (by omega) sU1 sD1 ha (by omega) (by omega) (by simp only[List.length_append]; omega) hsA) rfl ?_;rintro t hp ⟨W1,rP,Gw,rfl,rfl⟩;have zJ:=hlB W1 rP;refine⟨.dn [],h1 _,rfl,rfl,?_⟩;repeat(refine VC.mk (by first|exact id|exact fun h=>⟨h,h⟩) ?_)
     refine⟨fun h8=>?_,fun h8=>?_⟩
     ·rw[Bool.and_eq_true,decide_eq_true_eq,decide_eq_true_eq] at h8;refine ah.o8 (ih (A++W1) U2 D2 B _ _ _ _ hn2 (by omega) (by omega) Qd Qe (hA1 W1 zJ).symm (by rw[hA1 W1 zJ,hb3]) (by rw[hA1 W1 zJ,hb4]) (hl2 W1 zJ) (hsB W1 rP)) (by rw[List.append_assoc]) ?_;rintro t hp ⟨W2,wI,DY,rfl,rfl⟩;refine⟨.dn [],h1 _,rfl,rfl,?_⟩;exact jv.one (c:=0) (j:=0) (o:=dF ((A++W1)++(W2++B))) (t:=.dn []) rfl rfl rfl (fun _=>rfl) (.inl rfl) trivial (.eq rfl) ⟨W1++W2,by rw[hU,hD]; exact dO rP wI,kT Gw DY rP wI Oh,rfl,by simp⟩
     ·have DY:iG (U2++D2):=mP Qd Qe (by
       rw[Bool.and_eq_false_iff,decide_eq_false_iff_not,decide_eq_false_iff_not] at h8;rcases h8 with h8|h8
       ·exact .inl (List.eq_nil_of_length_eq_zero (by omega))
       ·exact .inr (List.eq_nil_of_length_eq_zero (by omega)))
      have wI:(U2++D2).Perm (U2++D2):=List.Perm.refl _;exact jv.one (c:=0) (j:=0) (o:=dF (A++(W1++(U2++(D2++B))))) (t:=.dn []) rfl rfl rfl (fun _=>rfl) (.inl rfl) trivial (.eq rfl) ⟨W1++(U2++D2),by rw[hU,hD]; exact dO rP wI,kT Gw DY rP wI Oh,rfl,by simp⟩
    ·have Gw:iG (U1++D1):=mP sU1 sD1 (by
      rw[Bool.and_eq_false_iff,decide_eq_false_iff_not,decide_eq_false_iff_not] at h7;rcases h7 with h7|h7
      ·exact .inl (List.eq_nil_of_length_eq_zero (by omega))
      ·exact .inr (List.eq_nil_of_length_eq_zero (by omega)))
     have rP:(U1++D1).Perm (U1++D1):=List.Perm.refl _;obtain⟨W1,hW1⟩: ∃ W1,W1=U1++D1:=⟨_,rfl⟩
     rw[show A++(U1++(D1++(U2++(D2++B))))=A++(W1++(U2++(D2++B))) by rw[hW1,List.append_assoc]];rw[<- hW1] at Gw;replace rP:W1.Perm (U1++D1):=by rw[hW1]
     have zJ:=hlB W1 rP;repeat(refine VC.mk (by first|exact id|exact fun h=>⟨h,h⟩) ?_)
     refine⟨fun h8=>?_,fun h8=>?_⟩
     ·rw[Bool.and_eq_true,decide_eq_true_eq,decide_eq_true_eq] at h8;refine ah.o8 (ih (A++W1) U2 D2 B _ _ _ _ hn2 (by omega) (by omega) Qd Qe (hA1 W1 zJ).symm (by rw[hA1 W1 zJ,hb3]) (by rw[hA1 W1 zJ,hb4]) (hl2 W1 zJ) (hsB W1 rP)) (by rw[List.append_assoc]) ?_;rintro t hp ⟨W2,wI,DY,rfl,rfl⟩;refine⟨.dn [],h1 _,rfl,rfl,?_⟩;exact jv.one (c:=0) (j:=0) (o:=dF ((A++W1)++(W2++B))) (t:=.dn []) rfl rfl rfl (fun _=>rfl) (.inl rfl) trivial (.eq rfl) ⟨W1++W2,by rw[hU,hD]; exact dO rP wI,kT Gw DY rP wI Oh,rfl,by simp⟩
     ·have DY:iG (U2++D2):=mP Qd Qe (by
       rw[Bool.and_eq_false_iff,decide_eq_false_iff_not,decide_eq_false_iff_not] at h8;rcases h8 with h8|h8
       ·exact .inl (List.eq_nil_of_length_eq_zero (by omega))
       ·exact .inr (List.eq_nil_of_length_eq_zero (by omega)))
      have wI:(U2++D2).Perm (U2++D2):=List.Perm.refl _;exact jv.one (c:=0) (j:=0) (o:=dF (A++(W1++(U2++(D2++B))))) (t:=.dn []) rfl rfl rfl (fun _=>rfl) (.inl rfl) trivial (.eq rfl) ⟨W1++(U2++D2),by rw[hU,hD]; exact dO rP wI,kT Gw DY rP wI Oh,rfl,by simp⟩
def Runs(n:Nat)(l:List Elem):Prop:= ∀ k,iG ((l.drop (k*n)).take n)
theorem nZ{n:Nat}{W:List Elem}(h:iG W):Runs n W:=fun _=>List.Pairwise.sublist ((List.take_sublist _ _).trans (List.drop_sublist _ _)) h
theorem uG{n c:Nat}{D W:List Elem}(hD:Runs n D)(hc:D.length=c*n)(hW:Runs n W):Runs n (D++W):=by
 intro k;rcases Nat.lt_or_ge k c with h|h
 ·have h1:(k+1)*n<=c*n:=Nat.mul_le_mul_right n h;rw[Nat.succ_mul] at h1;rw[List.drop_append_of_le_length (by omega),List.take_append_of_le_length (by rw[List.length_drop]; omega)];exact hD k
 ·obtain⟨j,rfl⟩: ∃ j,k=c+j:=⟨k-c,by omega⟩
  rw[Nat.add_mul,<- hc,<- List.drop_drop,List.drop_left];exact hW j
theorem Cm{n:Nat}{R:List Elem}(h:Runs n R):Runs n (R.drop n):=by
 intro k;rw[List.drop_drop];have:=h (k+1);rw[Nat.succ_mul,Nat.add_comm] at this;exact this
theorem CB{n:Nat}{R:List Elem}(h:Runs n R):iG (R.take n):=by
 have:=h 0;simpa using this
theorem DZ{n:Nat}{R:List Elem}(h:Runs n R)(hl:R.length<=n):iG R:=by
 have:=CB h;rwa [List.take_of_length_le hl] at this
structure afe where
 D:List Elem
 R:List Elem
structure agv where
 bs:Nat
 L:List Elem
set_option maxHeartbeats 1000000 in
theorem S.stable(l:List Elem)(n:Nat)(hl:l.length<2^30)(hs:eH l) :
  aQ Tryz.prog 149 (V.aT [.own 0,.int l.length,fnT]) (h1 l).au n (fun t hp=> ∃ W,W.Perm l/\iG W/\t= .dn []/\hp=(h1 W).au):=by
 obtain⟨W0,w1,w2⟩:=wH l;refine qH.of (nx:=1) Bd.gZ (by simp) ⟨_,_,W0,w1,w2,rfl,rfl⟩ rfl rfl ?_;refine aC.objs 1 [0,1,2,6] (fun s:afe=>[(8,.int (s.D.length+20:Nat)),(7,.int s.D.length)]) (fun s=>[(0,dF (s.D++s.R))]) (fun s=>(s.D++s.R).Perm l/\(∃ c,s.D.length=c*20)/\Runs 20 s.D) (fun s=>s.R.length) ⟨[],l⟩ [0] rfl (by decide) (fun _=>rfl) ⟨List.Perm.refl _,⟨0,rfl⟩,nZ List.Pairwise.nil⟩ ?_ ?_ ?_
 ·exact(sR rfl)
 ·exact⟨iQ rfl rfl,trivial⟩
 refine⟨(sR rfl),rfl,?_⟩;rintro⟨D,R⟩ ⟨i1,⟨c,i2⟩,i3⟩;simp only at i1 i2 i3;dsimp only;have hlen:D.length+R.length=l.length:=by rw[<- List.length_append]; exact i1.length_eq
 refine⟨fun h3=>?_,fun h3=>?_⟩
 ·have h4:D.length+20<=l.length:=by have:=of_decide_eq_true h3; omega
  have hT:R.take 20++R.drop 20=R:=List.take_append_drop _ _;have lT:(R.take 20).length=20:=by rw[List.length_take]; omega
  have lT':(R.drop 20).length=R.length-20:=List.length_drop;refine ah.o8 (S.insertion D (R.take 20) (R.drop 20) _ _ _ rfl (by rw[lT]; omega) (by omega) (by rw[hT]; exact hs.perm i1)) (by rw[hT]; rfl) ?_;rintro t hp ⟨W,pW,sW,rfl,rfl⟩;have lW:W.length=20:=by rw[pW.length_eq]; exact lT
  refine⟨.dn [],h1 _,rfl,rfl,?_⟩;refine .mk (by first|(simp only[okI]; omega)|omega) ?_;refine⟨⟨D++W,R.drop 20⟩,[0],⟨?_,⟨c+1,?_⟩,uG i3 i2 (nZ sW)⟩,?_,⟨⟨_,rfl,.eq ?_⟩,⟨_,rfl,.eq ?_⟩,trivial⟩,(sR rfl),⟨rfl,(fun _=>rfl),rfl,rfl,rfl,_,rfl,rfl,rfl,dQ.of_eq ?_⟩,trivial⟩
  ·show(D++W++R.drop 20).Perm l;refine List.Perm.trans ?_ i1;rw[List.append_assoc];refine List.Perm.append_left _ ?_;refine(pW.append_right _).trans ?_;rw[hT]
  ·show(D++W).length=_; rw[List.length_append]; omega
  ·show(R.drop 20).length<R.length; omega
  ·show T.int (((D++W).length+20:Nat):Int)=T.int (((D.length+20:Nat):Int)+20);exact congrArg T.int (by rw[List.length_append,lW]; omega)
  ·show T.int ((D++W).length:Int)=T.int ((D.length+20:Nat):Int);rw[List.length_append,lW]
  ·show(dF (D++W++R.drop 20)).aA.l=_; rw[List.append_assoc]
 have h4:l.length<D.length+20:=by have:=of_decide_eq_false h3; omega
 refine ah.o8 (S.insertion D R [] _ _ _ rfl (by omega) (by simp only[List.length_nil]; omega) (by rw[List.append_nil]; exact hs.perm i1)) (by rw[List.append_nil]; rfl) ?_;rintro t hp ⟨W,pW,sW,rfl,rfl⟩;have hR:=uG i3 i2 (nZ (n:=20) sW);have hP:(D++W).Perm l:=((List.Perm.append_left _ pW)).trans i1;refine⟨.dn [],h1 (D++W),rfl,by rw[List.append_nil],?_⟩;generalize D++W=L0 at hR hP;refine aC.objs 1 [0,1,2] (fun s:agv=>[(6,.int s.bs)]) (fun s=>[(0,dF s.L)]) (fun s=>s.L.Perm l/\Runs s.bs s.L/\20<=s.bs/\s.bs<2^32) (fun s=>l.length-s.bs) ⟨20,L0⟩ [0] rfl (by decide) (fun _=>rfl) ⟨hP,hR,Nat.le_refl 20,(show 20<2^32 by decide)⟩ ?_ ?_ ?_
 ·exact(sR rfl)
 ·exact⟨iQ rfl rfl,trivial⟩
 refine⟨(sR rfl),rfl,?_⟩;rintro⟨bs,L⟩ ⟨j1,j2,j3,j4⟩;simp only at j1 j2 j3 j4;dsimp only;have hLl:=j1.length_eq;refine⟨fun h5=>?_,fun h5=>?_⟩
 ·have h6:bs<l.length:=by have:=of_decide_eq_true h5; omega
  refine .mk (by first|(simp only[okI]; omega)|omega) ?_;refine aC.objs 1 [0,1,2,6] (fun s:afe=>[(8,.int (s.D.length+2*bs:Nat)),(7,.int s.D.length)]) (fun s=>[(0,dF (s.D++s.R))]) (fun s=>(s.D++s.R).Perm l/\(∃ c,s.D.length=c*(2*bs))/\Runs (2*bs) s.D/\Runs bs s.R) (fun s=>s.R.length) ⟨[],L⟩ [0] rfl (by decide) (fun _=>rfl) ⟨j1,⟨0,by simp⟩,nZ List.Pairwise.nil,j2⟩ ?_ ?_ ?_
  ·refine⟨⟨_,rfl,.eq ?_⟩,⟨_,rfl,.eq rfl⟩,trivial⟩;show T.int ((0+2*bs:Nat):Int)=T.int (2*(bs:Int));exact congrArg T.int (by omega)
  ·exact⟨iQ rfl rfl,trivial⟩
  refine⟨(sR rfl),rfl,?_⟩;rintro⟨D,R⟩ ⟨k1,⟨c,k2⟩,k3,k4⟩;simp only at k1 k2 k3 k4;dsimp only;have hlen:D.length+R.length=l.length:=by rw[<- List.length_append]; exact k1.length_eq
  refine⟨fun h7=>?_,fun h7=>?_⟩
  ·have h8:D.length+2*bs<=l.length:=by have:=of_decide_eq_true h7; omega
   have hT:R.take bs++((R.drop bs).take bs++(R.drop bs).drop bs)=R:=by rw[List.take_append_drop,List.take_append_drop]
   have l1:(R.take bs).length=bs:=by rw[List.length_take]; omega
   have l2:((R.drop bs).take bs).length=bs:=by rw[List.length_take,List.length_drop]; omega
   have l3:((R.drop bs).drop bs).length=R.length-2*bs:=by rw[List.length_drop,List.length_drop]; omega
   refine .mk (by first|(simp only[okI]; omega)|omega) ?_;refine ah.o8 (S.symMerge (2*bs) D (R.take bs) ((R.drop bs).take bs) ((R.drop bs).drop bs) _ _ _ _ (by omega) (by omega) (by omega) (CB k4) (CB (Cm k4)) rfl (by rw[l1]) (by rw[l1,l2]; omega) (by omega) (by rw[hT]; exact hs.perm k1)) (by rw[hT]; rfl) ?_;rintro t hp ⟨W,pW,sW,rfl,rfl⟩;have lW:W.length=2*bs:=by rw[pW.length_eq,List.length_append]; omega
   refine⟨.dn [],h1 _,rfl,rfl,?_⟩;repeat(refine VC.mk (by first|(simp only[okI]; omega)|omega) ?_)
   refine⟨⟨D++W,(R.drop bs).drop bs⟩,[0],⟨?_,⟨c+1,?_⟩,uG k3 k2 (nZ sW),Cm (Cm k4)⟩,?_,⟨⟨_,rfl,.eq ?_⟩,⟨_,rfl,.eq ?_⟩,trivial⟩,(sR rfl),⟨rfl,(fun _=>rfl),rfl,rfl,rfl,_,rfl,rfl,rfl,dQ.of_eq ?_⟩,trivial⟩
   ·show(D++W++(R.drop bs).drop bs).Perm l;refine List.Perm.trans ?_ k1;rw[List.append_assoc];refine List.Perm.append_left _ ?_;refine(pW.append_right _).trans ?_;rw[List.append_assoc,hT]
   ·show(D++W).length=_; rw[List.length_append,Nat.succ_mul]; omega
   ·show((R.drop bs).drop bs).length<R.length; omega
   ·show T.int (((D++W).length+2*bs:Nat):Int)=T.int (((D.length+2*bs:Nat):Int)+2*(bs:Int));exact congrArg T.int (by rw[List.length_append,lW]; omega)
   ·show T.int ((D++W).length:Int)=T.int ((D.length+2*bs:Nat):Int);rw[List.length_append,lW]
   ·show(dF (D++W++(R.drop bs).drop bs)).aA.l=_; rw[List.append_assoc]
  have h8:l.length<D.length+2*bs:=by have:=of_decide_eq_false h7; omega
  refine .mk (by first|(simp only[okI]; omega)|omega) ?_;refine⟨fun h9=>?_,fun h9=>?_⟩
  ·have h10:D.length+bs<l.length:=by have:=of_decide_eq_true h9; omega
   have hT:R.take bs++(R.drop bs++[])=R:=by rw[List.append_nil,List.take_append_drop]
   have l1:(R.take bs).length=bs:=by rw[List.length_take]; omega
   have l2:(R.drop bs).length=R.length-bs:=List.length_drop;refine ah.o8 (S.symMerge (2*bs) D (R.take bs) (R.drop bs) [] _ _ _ _ (by omega) (by omega) (by omega) (CB k4) (DZ (Cm k4) (by omega)) rfl (by rw[l1]) (by omega) (by simp only[List.length_nil]; omega) (by rw[hT]; exact hs.perm k1)) (by rw[hT]; rfl) ?_;rintro t hp ⟨W,pW,sW,rfl,rfl⟩;refine⟨.dn [],h1 _,rfl,rfl,?_⟩;refine .mk (by first|(simp only[okI]; omega)|omega) ?_;refine⟨⟨bs*2,D++W⟩,[0],⟨?_,?_,by show 20<=bs*2; omega,by show bs*2<_; omega⟩,by show l.length-bs*2<l.length-bs; omega,⟨⟨_,rfl,.eq ?_⟩,trivial⟩,(sR rfl),⟨rfl,(fun _=>rfl),rfl,rfl,rfl,_,rfl,rfl,rfl,dQ.of_eq ?_⟩,trivial⟩
   ·show(D++W).Perm l;refine List.Perm.trans ?_ k1;refine List.Perm.append_left _ (pW.trans ?_);rw[List.take_append_drop]
   ·show Runs (bs*2) (D++W);rw[Nat.mul_comm]; exact uG k3 k2 (nZ sW)
   ·show T.int ((bs*2:Nat):Int)=T.int ((bs:Int)*2)
    congr 2
   ·show(dF (D++W)).aA.l=_; rw[List.append_nil]
  ·have h10:l.length<=D.length+bs:=by have:=of_decide_eq_false h9; omega
   refine .mk (by first|(simp only[okI]; omega)|omega) ?_;refine⟨⟨bs*2,D++R⟩,[0],⟨k1,?_,by show 20<=bs*2; omega,by show bs*2<_; omega⟩,by show l.length-bs*2<l.length-bs; omega,⟨⟨_,rfl,.eq ?_⟩,trivial⟩,(sR rfl),iQ rfl rfl,trivial⟩
   ·show Runs (bs*2) (D++R);rw[Nat.mul_comm]; exact uG k3 k2 (nZ (DZ k4 (by omega)))
   ·show T.int ((bs*2:Nat):Int)=T.int ((bs:Int)*2)
    congr 2
 ·have h6:l.length<=bs:=by have:=of_decide_eq_false h5; omega
  exact jv.one (c:=0) (j:=0) (o:=dF L) (t:=.dn []) rfl rfl rfl (fun _=>rfl) (.inl rfl) trivial (.eq rfl) ⟨L,j1,DZ j2 (by omega),rfl,rfl⟩
theorem S.TM(l:List Elem)(n:Nat)(hl:l.length<2^30)(hs:eH l) :
  aQ Tryz.prog 119 (V.aT [.own 0,fnT]) (h1 l).au n (fun t hp=> ∃ W,W.Perm l/\iG W/\t= .dn []/\hp=(h1 W).au):=by
 obtain⟨W0,w1,w2⟩:=wH l;refine qH.of (nx:=1) Bd.dL (by simp) ⟨_,_,W0,w1,w2,rfl,rfl⟩ rfl rfl ?_;refine ah.heap (S.stable l _ hl hs) ?_;rintro t hp ⟨W,pW,sW,rfl,rfl⟩;refine⟨.dn [],h1 W,rfl,rfl,?_⟩;exact jv.one (c:=0) (j:=0) (o:=dF W) (t:=.dn []) rfl rfl rfl (fun _=>rfl) (.inl rfl) trivial (.eq rfl) ⟨W,pW,sW,rfl,rfl⟩
structure AO(e:Elem):Prop where
 len:e.counts.length<=6
 nums:TB e.counts
theorem YT: ∀ {a b:List Int},pJ a b=true->a.sum<=b.sum/\(a≠b->a.sum<b.sum):=by
 intro a;induction a with
 |nil=>intro b h; cases b<;>simp[pJ] at *
 |cons x a ih =>
  intro b h;cases b with
  |nil=>simp[pJ] at h
  |cons y b =>
   simp only[pJ,Bool.and_eq_true,decide_eq_true_eq] at h;obtain⟨h1,h2⟩:=ih h.2;simp only[List.sum_cons];refine⟨by omega,fun hne=>?_⟩;by_cases e:a=b
   ·have:x≠y:=fun q=>hne (by rw[q,e])
    omega
   ·have:=h2 e; omega
theorem Qg{e:Elem}(h:AO e):bD e=e.counts.sum:=by
 have h1:=h.len;rw[bD,if_neg (by omega),if_pos];rw[List.all_eq_true];exact fun x hx=>Oc.2 (h.nums x hx)
theorem adJ{a b:Elem}(ha:AO a)(hb:AO b)(h:tV a b=true)(hne:a≠b):bD a<bD b:=by
 rw[Qg ha,Qg hb];simp only[tV,Bool.and_eq_true,beq_iff_eq] at h;refine(YT h.2).2 fun e=>hne ?_
 obtain⟨v,c⟩:=a; obtain⟨w,d⟩:=b;simp only at h e;rw[h.1,e]
theorem YU{W:List Elem}(hs:iG W)(hg: ∀ e∈W,AO e): ∀ i,i<=W.length-> ∀ x,x∈(W.take i).foldl qI []↔x∈W.take i/\W.any (AU x)=false:=by
 intro i;induction i with
 |zero=>intro _ x; simp
 |succ i ih =>
  intro hi x;have ih:=ih (by omega);have hil:i<W.length:=by omega
  rw[Jv qI [] default hil];have hlast:W.take (i+1)=W.take i++[W.getD i default]:=by rw[List.take_add_one]; simp[hil]
  generalize hy:W.getD i default=y at hlast ⊢;have hyW:y∈W:=by rw[<- hy]; simp[hil]
  generalize hK:(W.take i).foldl qI []=K at ih ⊢;rw[hlast];unfold qI;cases hm:W.any (AU y) with
  |true =>
   rw[List.any_eq_true] at hm;obtain⟨u,hu,hab⟩:=hm;obtain⟨z,hz,h1,h2⟩:=adK W hu;have hu2:=yP.1 hab;have hzy:tV z y=true:=Jw h1 hu2.1;have hne:z≠y:=by
    rintro rfl;have g1:=Qh h1;have g2:=Oi hab;rw[qJ] at g1; omega
   have hlt:=adJ (hg z hz) (hg y hyW) hzy hne;have hzt:z∈W.take i:=by
    rw[<- List.take_append_drop i W,List.mem_append] at hz;rcases hz with hz|hz
    ·exact hz
    ·exfalso;obtain⟨j,a1,a2,rfl⟩:=yR hz;have:=vM hs a1 a2;rw[hy] at this; omega
   have hzK:z∈K:=(ih z).2 ⟨hzt,h2⟩;rw[if_pos (List.any_eq_true.2 ⟨z,hzK,hzy⟩),ih];simp only[List.mem_append,List.mem_singleton];constructor
   ·rintro⟨a,b⟩; exact⟨.inl a,b⟩
   ·rintro⟨a|a,b⟩
    ·exact⟨a,b⟩
    ·subst a;rw[List.any_eq_false] at b;exact absurd hab (b u hu)
  |false =>
   split
   ·rename_i hc;rw[List.any_eq_true] at hc;obtain⟨b,hb,hby⟩:=hc;have hbW:=List.mem_of_mem_take ((ih b).1 hb).1;have e:b=y:=by
     refine Classical.byContradiction fun hne=>?_
     rw[List.any_eq_false] at hm;exact hm b hbW (yP.2 ⟨hby,hne⟩)
    subst e;rw[ih];simp only[List.mem_append,List.mem_singleton];constructor
    ·rintro⟨a,b⟩; exact⟨.inl a,b⟩
    ·rintro⟨a|a,b⟩
     ·exact⟨a,b⟩
     ·subst a; exact(ih x).1 hb
   ·simp only[List.mem_append,List.mem_singleton,ih];constructor
    ·rintro(⟨a,b⟩|a)
     ·exact⟨.inl a,b⟩
     ·subst a; exact⟨.inr rfl,hm⟩
    ·rintro⟨a|a,b⟩
     ·exact .inl ⟨a,b⟩
     ·exact .inr a
theorem abn{l W:List Elem}(hg: ∀ e∈l,AO e)(p:W.Perm l)(hs:iG W):xX (W.foldl qI [])=bW l:=by
 refine MP (Qi _) (rM l).1 fun x=>?_
 have:=YU hs (fun e he=>hg e (p.mem_iff.1 he)) _ (Nat.le_refl _) x;rw[List.take_length] at this;rw[Gx,this,(rM l).2,p.mem_iff,any_congr (fun y=>p.mem_iff)]
theorem S.yO(l:List Elem)(n:Nat)(hn:0<n)(hl:l.length<2^29)(hg: ∀ e∈l,AO e) :
  aQ Tryz.prog 86 (V.aT [.own 0]) (h1 l).au n (fun t hp=>(t= .own n/\hp=Hz.au [(n,some (dF (bW l)))])\/(∃ m,t= .pq n 0 (bW l).length/\hp=Hz.au [(n,some (.row 31 3 (.elems (bW l)) (List.replicate m zeroV)))])):=by
 have hs:TN l:=fun e he=>by have:=(hg e he).len; omega
 refine qH.of (nx:=1) Bd.uZ (by simp) ⟨_,_,.inl ⟨rfl,rfl⟩⟩ rfl rfl ?_;refine ah.heap (S.TM l _ (by omega) hs.e) ?_;rintro t hp ⟨W,pW,sW,rfl,rfl⟩;refine⟨.dn [],h1 W,rfl,rfl,?_⟩;have hWl:=pW.length_eq;have hWs:eH W:=hs.e.perm pW;have aff:=abn hg pW sW;refine aC.nil 3 31 3 (by rfl) rfl rfl rfl ?_;refine aC.objs 3 [9] (fun i:Nat=>[(10,.int i),(3,.own 2),(8,.own 0)]) (fun i=>[(0,dF W),(2,dF ((W.take i).foldl qI []))]) (fun i=>i<=W.length) (fun i=>W.length-i) 0 [0,8] rfl (by decide) (fun _=>rfl) (Nat.zero_le _) ?_ ?_ ?_
 ·exact(sR rfl)
 ·exact⟨iQ rfl rfl,iQ rfl rfl,trivial⟩
 refine⟨(sR rfl),rfl,?_⟩;rintro i hi;have hkl:((W.take i).foldl qI []).length<=i:=by
  have:=YV (W.take i) [];simp at this; omega
 refine⟨fun h3=>?_,fun h3=>?_⟩
 ·have hi':i<W.length:=by simpa using h3
  have hstep:=Jv qI [] (l:=W) default hi';repeat(refine VC.mk (by simp only[Rw.rng] at *; omega) ?_)
  refine ah.lend (S.jB _ (W.getD i default) false (by omega) (Jy hWs i) (hWs.get i)) ⟨Qj trivial rfl,aI _,trivial⟩ rfl rfl ?_;refine⟨fun h4=>?_,fun h4=>?_⟩
  ·conv=>whnf
   repeat(refine VC.mk (by first|(show(((W.take i).foldl qI []).length+(0+1))*32<=140737488355328/\((W.take i).foldl qI []).length+(0+1)<=1152921504606846976; omega)|(simp only[okI] at *; omega)) ?_)
   refine⟨i+1,[0,15],by omega,by omega,(sR rfl),(sR rfl),iQ rfl rfl,⟨rfl,nofun,rfl,rfl,rfl,_,rfl,rfl,rfl,dQ.of_eq ?_⟩,trivial⟩;rw[Bool.not_eq_true'] at h4;rw[hstep,qI,if_neg (by rw[h4]; decide)];show List.map iE _++[]=List.map iE _++[iE _];simp
  ·conv=>whnf
   refine .mk (by simp only[okI] at *; omega) ?_;refine⟨i+1,[0,2],by omega,by omega,(sR rfl),(sR rfl),iQ rfl rfl,⟨rfl,nofun,rfl,rfl,rfl,_,rfl,rfl,rfl,dQ.of_eq ?_⟩,trivial⟩;rw[Bool.not_eq_false'] at h4;rw[hstep,qI,if_pos h4]
 ·have hi':W.length<=i:=by simpa using h3
  rw[List.take_of_length_le hi'] at hkl ⊢;conv=>whnf
  have hks:eH (W.foldl qI []):=by
   have:=Jy hWs W.length;rwa [List.take_length] at this
  refine ah.tidy rfl rfl (by omega) hks ?_ (fun m=>?_)
  ·rw[aff];exact jv.one (c:=n) (j:=2) (o:=dF (bW l)) (t:=.own n) rfl rfl rfl (fun h=>by rw[YW hn] at h; cases h) (.inr rfl) rfl (.eq rfl) (.inl ⟨rfl,rfl⟩)
  ·rw[aff];exact jv.one (c:=n) (j:=2) (o:=.row 31 3 (.elems (bW l)) (List.replicate m zeroV)) (t:=.pq n 0 (bW l).length) rfl (Jz _ _ _) (EK _ _) (fun h=>by rw[YW hn] at h; cases h) (.inr rfl) rfl (.eq rfl) (.inr ⟨m,rfl,rfl⟩)
end Go.Proofs.YtdhobgbagphngaaGreatDoor
