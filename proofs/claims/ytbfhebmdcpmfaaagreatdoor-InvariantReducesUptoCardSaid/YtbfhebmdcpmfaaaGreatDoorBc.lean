/-
 A part of the proof. No condition.
-/
import Derived.Test.YtbfhebmdcpmfaaaGreatDoorBb
import Derived.Test.YtbfhebmdcpmfaaaGreatDoorIe
import Derived.Test.YtbfhebmdcpmfaaaGreatDoorIi
namespace Go.Proofs.YtbfhebmdcpmfaaaGreatDoor
open Go.Ab Go.Proofs
set_option maxRecDepth 100000
theorem Yn: ∀ {l:List Clause} {d:List Bool} {i:Nat},l.length=d.length->i<(bK l d).length-> ∃ j,j<l.length/\d.getD j false=false/\(bK l d).getD i default=l.getD j default/\fU (bK l d) i=bK l (d.set j true):=by
 intro l
 induction l with
 |nil=>intro d i _ hi; cases hi
 |cons k l ih =>
  intro d i hd hi
  cases d with
  |nil=>cases hd
  |cons b d =>
   have hd':l.length=d.length:=by simpa using hd
   cases b with
   |true =>
    obtain⟨j,a1,a2,a3,a4⟩:=@ih d i hd' hi
    exact⟨j+1,by simpa using a1,by simpa using a2,a3.trans (by simp),a4⟩
   |false =>
    cases i with
    |zero=>exact⟨0,by simp,rfl,rfl,by simp[bK,fU]⟩
    |succ i =>
     have hi':i<(bK l d).length:=by simpa [bK] using hi
     obtain⟨j,a1,a2,a3,a4⟩:=@ih d i hd' hi'
     refine⟨j+1,by simpa using a1,by simpa using a2,by simpa [bK] using a3,?_⟩
     show k::fU (bK l d) i=k::bK l (d.set j true)
     rw[a4]
theorem Vr{p:aU}{l m:List Clause}(h:jg p l=0)(hs: ∀ k∈m,k∈l)(hl:m.length<=l.length):jg p m=0:=Yo h hs hl
theorem QO{p:aU}{l:List Clause}{k:Clause}(h:jg p l=0)(hk:k∈l):uX p k=0:=by
 unfold jg at h
 obtain⟨_,h⟩:=bz (fun _=>by decide) h
 exact gY h _ (List.mem_map.2 ⟨k,hk,rfl⟩)
theorem Gs{p:aU}{l:List Clause}(h:su p l=0):xB p=0/\jg p l=0:=by
 unfold su at h
 obtain⟨h1,h2⟩:=bz nz h
 exact⟨by simpa using h1,h2⟩
theorem QS{p:aU}{l a:List Clause}{c:Clause}(h:su p l=0)(ha: ∀ k∈a,k∈l)(hla:a.length<=l.length)(hc:c∈l):qK p a c=0/\ ∀ k∈a++[c],yG p.states.length p.values.length k:=by
 obtain⟨h1,h2⟩:=Gs h
 have h3:=Vr h2 ha hla
 have h4:=QO h2 hc
 refine⟨by rw[qK,h1,h3,h4]; rfl,fun k hk=>?_⟩
 rcases List.mem_append.1 hk with hk|hk
 ·exact Jl (QO h2 (ha k hk))
 ·rw[List.mem_singleton] at hk; subst hk; exact Jl h4
theorem Vs{p:aU}{l:List Clause}(h:su p l=0){i:Nat}(hi:i<l.length):yH p (Bh p l) (l.getD i default)= .fK [.bool true,.int 0]:=by
 obtain⟨e0,hk⟩:=QS h (a:=Bh p l) (c:=l.getD i default) (fun k=>vY) kept_len (getM hi)
 have hcl:=fun k (hkl:k∈l)=>Jl (p:=p) (QO (Gs h).2 hkl)
 have:D8 (Bh p l) (l.getD i default) (iU p (Bh p l++[l.getD i default]))=true :=
  (CG (vs:=p.values.length) hk (Nat.le_refl _)).2 fun B e he hev=>Yp (us:=iU p l) (b:=CJ l+3) hcl (Nat.le_refl _) rfl (Nat.le_refl _) he hev i hi
 rw[yH,yI,e0,this]; rfl
theorem Vt{p:aU}{l:List Clause}(h:su p l=0){i:Nat}(hi:i<(Bh p l).length):yH p (fU (Bh p l) i) ((Bh p l).getD i default)= .fK [.bool false,.int 0]:=by
 obtain⟨j,a1,a2,a3,a4⟩:=Yn (rD (us:=iU p l) l.length).symm hi
 have a3:(Bh p l).getD i default=l.getD j default:=a3
 have a4:fU (Bh p l) i=bK l ((gZ l (iU p l) l.length).set j true):=a4
 rw[a3,a4]
 obtain⟨e0,hk⟩:=QS h (a:=bK l ((gZ l (iU p l) l.length).set j true)) (c:=l.getD j default) (fun k=>vY) kept_len (getM a1)
 have hcl:=fun k (hkl:k∈l)=>Jl (p:=p) (QO (Gs h).2 hkl)
 have:D8 (bK l ((gZ l (iU p l) l.length).set j true)) (l.getD j default) (iU p (bK l ((gZ l (iU p l) l.length).set j true)++[l.getD j default]))=false:=by
  rw[Bool.eq_false_iff]
  intro q
  exact Vu (us:=iU p l) (b:=CJ l+3) hcl (Nat.le_refl _) rfl a1 a2 ((CG (vs:=p.values.length) hk (Nat.le_refl _)).1 q)
 rw[yH,yI,e0,this]; rfl
set_option maxHeartbeats 1000000 in
theorem S.fV(p:aU)(l:List Clause)(f:Bool)(hp:dh p)(hl:SmallK l):ak Tryz.prog 5 [.dat (.dF p),.row 4 f (.clauses l)] (.bool true):=by
 have k1:=hl.len
 have hsm:SmallK (jX p l):=by
  unfold jX Bh
  cases su p l==0 with
  |true=>exact hl.keep _
  |false=>exact yQ
 refine ak.of Bd.fV (by simp) (by cases f<;>rfl) rfl ?_
 conv=>whnf
 refine ah.lend (S.MI 12 l false f k1 (fun i=>(hl.cl i).each)) (And.intro (aB _) (And.intro (xA trivial rfl (by decide) rfl) trivial)) rfl rfl ?_
 conv=>whnf
 refine⟨fun h1=>?_,fun h1=>?_⟩
 ·conv=>whnf
  refine ah.pure (S.oh) rfl ?_
  conv=>whnf
  exact au.bool rfl
 conv=>whnf
 refine ah.pure (S.kH p l f hp hl) rfl ?_
 rw[IQ]
 conv=>whnf
 refine ah.pure (S.tZ p l f hp hl) rfl ?_
 rw[IQ]
 conv=>whnf
 refine .mk (by exact fun h=>⟨h,h⟩) ?_
 conv=>whnf
 refine ah.fP (fun _=>S.yR (jX p l) (jX p l) false false hsm hsm) rfl ?_
 conv=>whnf
 repeat(refine VC.mk (by first|exact id|(intro h; rw[h]; rfl)) ?_; conv=>whnf)
 refine Fork.mk (fun q=>absurd (q.symm.trans (show(su p l !=su p l|| !Gt (jX p l) (jX p l))=false by rw[O6]; simp)).symm Bool.false_ne_true) (fun _=>?_)
 conv=>whnf
 have hV: ∀ {c:Clause},o9 c->ak Tryz.prog 12 [.dat (.dF p),.row 4 false (.clauses (jX p l)),.dat (.clause c)] (yH p (jX p l) c):=fun hc=>S.iJ p (jX p l) _ false hp hsm hc
 have ab9:su p l=0->jX p l=Bh p l:=fun e=>by rw[jX,e]; rfl
 have hpos: ∀ {i:Nat},i<(jX p l).length->su p l=0:=fun {i} hi=>by
  cases e:su p l==0 with
  |true=>simpa using e
  |false=>rw[jX,e] at hi; cases hi
 have hrl:(jX p l).length<=l.length:=by
  unfold jX
  cases su p l==0 with
  |true=>exact kept_len
  |false=>exact Nat.zero_le _
 conv=>whnf
 refine aJ.same [1,2,5,6] (fun i:Nat=>[(9,.int i)]) (fun i=>i<=l.length) (fun i=>l.length-i) 0 rfl (by decide) rfl (fun _=>rfl) (Nat.zero_le _) ⟨⟨_,rfl,rfl⟩,trivial⟩ ?_
 conv=>whnf
 refine⟨by cases f<;>rfl,?_⟩
 rintro i hi
 conv=>whnf
 repeat(refine VC.mk id ?_; conv=>whnf)
 refine⟨fun h3=>?_,fun h3=>?_⟩
 ·have h3':(decide ((i:Int)<(l.length:Int))&&(su p l==0))=true:=h3
  rw[Bool.and_eq_true] at h3'
  have hi':i<l.length:=by have:=of_decide_eq_true h3'.1; omega
  have he:su p l=0:=by simpa using h3'.2
  conv=>whnf
  refine .mk (by simp only[Rw.rng]; omega) ?_
  conv=>whnf
  have hE:ak Tryz.prog 12 [.dat (.dF p),.row 4 false (.clauses (jX p l)),.dat (.clause (l.getD i default))] (.fK [.bool true,.int 0]):=by
   have:=hV (hl.cl i); rw[show yH p (jX p l) (l.getD i default)= .fK [.bool true,.int 0] from by rw[ab9 he,Vs he hi']] at this; exact this
  refine ah.pure hE rfl ?_
  conv=>whnf
  repeat(refine VC.mk (by first|exact id|(intro h; rw[h]; rfl)) ?_; conv=>whnf)
  refine Fork.mk (fun q=>absurd (q.symm.trans ((rfl:false=false))).symm Bool.false_ne_true) (fun _=>?_)
  conv=>whnf
  refine .mk (by simp only[okI] at *; first|omega|(simp_all; done)|(simp_all; omega)) ?_
  conv=>whnf
  refine⟨i+1,by omega,by omega,⟨⟨_,rfl,rfl⟩,trivial⟩,?_,rfl⟩
  repeat' (first|exact trivial|exact⟨_,rfl,rfl⟩|constructor)
 ·conv=>whnf
  refine aJ.same [2,5] (fun i:Nat=>[(12,.int i)]) (fun i=>i<=(jX p l).length) (fun i=>(jX p l).length-i) 0 rfl (by decide) rfl (fun _=>rfl) (Nat.zero_le _) ⟨⟨_,rfl,rfl⟩,trivial⟩ ?_
  conv=>whnf
  refine⟨rfl,?_⟩
  rintro j hj
  conv=>whnf
  refine⟨fun h4=>?_,fun h4=>?_⟩
  ·have hj':j<(jX p l).length:=by simpa using h4
   have he:=hpos hj'
   have hwl:(fU (jX p l) j).length<2^30:=by unfold fU; rw[List.length_append,List.length_take,List.length_drop]; omega
   have hws:SmallK (fU (jX p l) j):=⟨hwl,fun i=>by
    by_cases hi:i<(fU (jX p l) j).length
    ·have hm:=getM (d:=default) hi
     have:(fU (jX p l) j).getD i default∈jX p l:=by
      rcases List.mem_append.1 hm with q|q
      ·exact List.mem_of_mem_take q
      ·exact List.mem_of_mem_drop q
     obtain⟨k,hk⟩:=List.mem_iff_getElem?.1 this
     have:=hsm.cl k
     rw[List.getD_eq_getElem?_getD,hk] at this; exact this
    ·rw[show(fU (jX p l) j).getD i default=default by simp[List.getD_eq_getElem?_getD,List.getElem?_eq_none (by omega:(fU (jX p l) j).length<=i)]]; exact yQ.cl 0⟩
   have hE:ak Tryz.prog 12 [.dat (.dF p),.row 4 false (.clauses (fU (jX p l) j)),.dat (.clause ((jX p l).getD j default))] (.fK [.bool false,.int 0]):=by
    have:=S.iJ p (fU (jX p l) j) ((jX p l).getD j default) false hp hws (hsm.cl j)
    rw[show yH p (fU (jX p l) j) ((jX p l).getD j default)= .fK [.bool false,.int 0] from by rw[ab9 he] at hj' ⊢; exact Vt he hj'] at this; exact this
   conv=>whnf
   repeat(refine VC.mk (by first|(simp only[Rw.lg]; omega)|(simp only[okI]; omega)) ?_; conv=>whnf)
   refine .mk (by show(0+((jX p l).take j).length)*72<=140737488355328/\0+((jX p l).take j).length<=1152921504606846976; rw[List.length_take]; omega) ?_
   conv=>whnf
   repeat(refine VC.mk (by first|(first|(simp only[Rw.lg]; omega)|(show(((jX p l).take j).length+((jX p l).drop (j+1)).length)*72<=140737488355328/\((jX p l).take j).length+((jX p l).drop (j+1)).length<=1152921504606846976; rw[List.length_take,List.length_drop]; omega))|(simp only[Rw.rng] at *; first|omega|(simp_all; done)|(simp_all; omega))) ?_; conv=>whnf)
   conv=>whnf
   refine ah.lend hE ⟨aB _,QM trivial rfl,aB _,trivial⟩ rfl rfl ?_
   conv=>whnf
   refine .mk (by intro h; rw[h]; rfl) ?_
   conv=>whnf
   refine Fork.mk (fun q=>absurd (q.symm.trans ((rfl:false=false))).symm Bool.false_ne_true) (fun _=>?_)
   conv=>whnf
   refine .mk (by simp only[okI] at *; first|omega|(simp_all; done)|(simp_all; omega)) ?_
   conv=>whnf
   refine⟨j+1,by omega,by omega,⟨⟨_,rfl,rfl⟩,trivial⟩,?_,rfl⟩
   repeat' (first|exact trivial|exact⟨_,rfl,rfl⟩|constructor)
  ·conv=>whnf
   refine ah.pure (S.oh) rfl ?_
   conv=>whnf
   exact au.bool rfl
end Go.Proofs.YtbfhebmdcpmfaaaGreatDoor
