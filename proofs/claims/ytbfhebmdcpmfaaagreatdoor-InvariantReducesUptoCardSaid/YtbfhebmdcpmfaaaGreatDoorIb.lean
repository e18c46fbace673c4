/-
 A part of the proof. No condition.
-/
import Derived.Test.YtbfhebmdcpmfaaaGreatDoorIa
namespace Go.Proofs.YtbfhebmdcpmfaaaGreatDoor
open Go.Ab Go.Proofs
set_option maxRecDepth 100000
theorem S.PD(l:List Int)(f:Bool)(h0:0<l.length)(hl:l.length<2^30)(n:Nat):aN Tryz.prog 62 (V.aT [.row 0 f (.ints l)]) (Hz.aj []) n (fun t hp=>t= .own n/\hp=Hz.aj [(n,some (jZ l))]):=by
 refine pR.of (nx:=0) (h0:=[]) Bd.gV (by simp) ⟨_,_,rfl,rfl⟩ rfl rfl ?_
 conv=>whnf
 refine SI.mk (fun hz=>?_) ?_
 ·exact absurd (show l.length=0 from hz) (by omega)
 ·conv=>whnf
  refine Fork.mk (fun q=>absurd (q.symm.trans ((rfl:false=false))).symm Bool.false_ne_true) (fun _=>?_)
  conv=>whnf
  refine .mk (by simp only[mD,lH,Rw.len]; omega) ?_
  conv=>whnf
  repeat(refine VC.mk (by simp only[mD,lH,Rw.len]; omega) ?_; conv=>whnf)
  exact iI.one (c:=n) (o:=jZ l) (t:=.own n) rfl rfl rfl nofun (.inr rfl) rfl (.eq rfl) ⟨rfl,rfl⟩
theorem S.xM(l:List Int)(f:Bool)(h0:0<l.length)(hl:l.length<2^30):vM Tryz.prog 62 (V.aT [.row 0 f (.ints l)]) (fun n=>.own n) (some ⟨3,0,(Rw.ints l).aT⟩):=by
 refine⟨V.iq [.row 0 f (.ints l)] rfl,fun _=>rfl,(fun ob h=>by cases h; rw[ig]; intro t ht; obtain⟨x,_,rfl⟩:=List.mem_map.1 ht; rfl),(fun ob h=>by cases h; exact fun e=>absurd e (by decide:(0:Nat)≠fF)),fun n=>(S.PD l f h0 hl n).mono ?_⟩
 rintro t hp ⟨rfl,rfl⟩
 refine⟨rfl,?_⟩
 rw[bD]; simp[nN,OV.aF,V.aT]; rfl
abbrev hF(c:List Int):Hz:=[(1,some (.box 24 0 (.own 0))),(0,some (jZ c))]
theorem iI.ofF{c:List Int}{h:Hz}{n:Nat}{v:V}{post:T->Hp->Prop}(q0:h.get 0=some (jZ c))(q1:h.get 1=some (.box 24 0 (.own 0)))(hv:v.free=true)(hp:post v.aG (hF c).aj):iI (hF c) n post v h:=by
 refine iI.OX (h2:=hF c) (u:=v) (fun _=>False) ⟨bG (Z:=fun _=>False) q1 (fun q=>q),bG (Z:=fun _=>False) q0 (fun q=>q),trivial⟩ ?_ hv (aB _) hp
 intro i o ho
 have hG:=kL (show rM 2 (hF c)=true from rfl) i o.aF (aH ho)
 refine⟨by rw[aH ho]; rfl,T.ay (fun i hi=>?_) _ hG.2.1,hG.2.2⟩
 match i,hi with
 |0,_=>rfl
 |1,_=>rfl
 |k+2,hk=>exact absurd hk (by omega)
theorem S.YA(c:List Int)(x:Int)(hx:0<=x/\x<c.length)(hc:c.length<2^30)(n:Nat):aN Tryz.prog 129 (V.aT [.int x,.ptr 1 0 0]) (hF c).aj n (fun t hp=>t= .bool (decide (c.getD x.toNat 0>0))/\hp=(hF c).aj):=by
 refine pR.of (nx:=2) Bd.pU (by simp) ⟨_,_,rfl,rfl⟩ rfl rfl ?_
 conv=>whnf
 repeat(refine VC.mk (by simp only[Rw.rng]; omega) ?_; conv=>whnf)
 exact iI.ofF rfl rfl rfl ⟨rfl,rfl⟩
def KI(c:List Int):List Int->Nat->Int
 |[],_=> -1
 |x::r,i=>bif decide (c.getD x.toNat 0>0) then(i:Int) else KI c r (i+1)
theorem YB{c l:List Int}:decide (0<=KI c l 0)=l.any fun x=>decide (c.getD x.toNat 0>0):=by
 have: ∀ {l:List Int} {i:Nat},0<=KI c l i↔(l.any fun x=>decide (c.getD x.toNat 0>0))=true:=by
  intro l
  induction l with
  |nil=>intro i; simp[KI]
  |cons x r ih =>
   intro i
   rw[List.any_cons,Bool.or_eq_true,<- ih (i:=i+1)]
   show(0:Int)<=(bif decide (c.getD x.toNat 0>0) then(i:Int) else KI c r (i+1))↔_
   generalize decide (c.getD x.toNat 0>0)=b
   cases b<;>simp
 rw[Bool.eq_iff_iff,decide_eq_true_eq]; exact this
theorem S.PE(c l:List Int)(f:Bool)(hl:l.length<2^30)(hp:qL c.length l)(hc:c.length<2^30)(n:Nat):aN Tryz.prog 137 (V.aT [.row 0 f (.ints l),.fn 129 [.ptr 1 0 0]]) (hF c).aj n (fun t hp=>t= .int (KI c l 0)/\hp=(hF c).aj):=by
 refine pR.of (nx:=2) Bd.jM (by simp) ⟨_,_,rfl,rfl⟩ rfl rfl ?_
 conv=>whnf
 refine aJ.same [0,1,6,7] (fun i:Nat=>[(8,.int i)]) (fun i=>i<=l.length/\KI c l 0=KI c (l.drop i) i) (fun i=>l.length-i) 0 rfl (by decide) rfl (fun _=>rfl) ⟨by omega,by simp⟩ ⟨⟨_,rfl,rfl⟩,trivial⟩ ?_
 conv=>whnf
 refine⟨rfl,?_⟩
 rintro i ⟨hi,hall⟩
 conv=>whnf
 refine⟨fun h3=>?_,fun h3=>?_⟩
 ·have hi':i<l.length:=by simpa using h3
  rw[aY 0 hi'] at hall
  simp only[KI] at hall
  conv=>whnf
  refine .mk (by simp only[Rw.rng] at *; first|omega|(simp_all; done)|(simp_all; omega)) ?_
  conv=>whnf
  refine ah.heap (S.YA c (l.getD i 0) (hp _ (getM hi')) hc _) ?_
  rintro t hp ⟨rfl,rfl⟩
  refine⟨.bool _,hF c,rfl,rfl,?_⟩
  conv=>whnf
  refine⟨fun h4=>?_,fun h4=>?_⟩
  ·conv=>whnf
   rw[h4] at hall
   exact iI.ofF rfl rfl rfl ⟨by rw[hall]; rfl,rfl⟩
  ·conv=>whnf
   refine .mk (by simp only[okI] at *; first|omega|(simp_all; done)|(simp_all; omega)) ?_
   conv=>whnf
   rw[h4] at hall
   refine⟨i+1,⟨by omega,hall⟩,by omega,⟨⟨_,rfl,rfl⟩,trivial⟩,?_,rfl⟩
   repeat' (first|exact trivial|exact⟨_,rfl,rfl⟩|constructor)
 ·conv=>whnf
  have hi':l.length<=i:=by simpa using h3
  rw[List.drop_eq_nil_of_le hi'] at hall
  exact iI.ofF rfl rfl rfl ⟨by rw[hall]; rfl,rfl⟩
theorem S.IY(c l:List Int)(f:Bool)(hl:l.length<2^30)(hp:qL c.length l)(hc:c.length<2^30)(n:Nat):aN Tryz.prog 128 (V.aT [.row 0 f (.ints l),.fn 129 [.ptr 1 0 0]]) (hF c).aj n (fun t hp=>t= .bool (pz [] l c)/\hp=(hF c).aj):=by
 refine pR.of (nx:=2) Bd.iR (by simp) ⟨_,_,rfl,rfl⟩ rfl rfl ?_
 conv=>whnf
 refine ah.heap (S.PE c l f hl hp hc _) ?_
 rintro t hp ⟨rfl,rfl⟩
 refine⟨.int _,hF c,rfl,rfl,?_⟩
 conv=>whnf
 exact iI.ofF rfl rfl rfl ⟨by rw[show pz [] l c=_ from YB.symm]; rfl,rfl⟩
theorem Tj{c:List Int}{x:Int}(hx:0<=x/\x<c.length):((dN c x).set x.toNat ((dN c x).getD x.toNat 0+1))=c:=by
 have hlt:x.toNat<c.length:=by omega
 have e:(dN c x).getD x.toNat 0=c.getD x.toNat 0-1:=by
  have:=pF (c:=c) (b:=x) hx hx.1
  simpa using this
 rw[e,Int.sub_add_cancel]
 unfold dN
 rw[List.set_set]
 refine List.ext_getElem (by simp) fun i h1 h2=>?_
 rw[List.getElem_set]
 split
 ·rename_i e; subst e; simp[hlt]
 ·rfl
theorem S.kM(l:List Int)(g:Bool)(hl:l.length<2^30): ∀ (each:List (List Int)) (c:List Int) (f:Bool),each.length<2^30->c.length<2^30->Bl c->qL c.length l->(∀ s∈each,qL c.length s/\s.length<2^30)->(each.length:Int)<=2->aN Tryz.prog 104 (V.aT [.row 0 f (.kZ each),.row 0 g (.ints l),.own 0]) (Hz.aj [(0,some (jZ c))]) 1 (fun t hp=>t= .bool (pz each l c)/\hp=Hz.aj [(0,some (jZ c))]):=by
 intro each
 induction each with
 |nil =>
  intro c f he hc hb hp hs h2
  refine pR.of (nx:=1) (h0:=[(0,some (jZ c))]) Bd.kM (by simp) ⟨_,_,rfl,rfl⟩ rfl rfl ?_
  conv=>whnf
  refine Fork.mk (fun _=>?_) (fun q=>absurd (q.symm.trans ((rfl:true=true))) Bool.false_ne_true)
  conv=>whnf
  refine ah.heap (S.IY c l g hl hp hc _) ?_
  rintro t hp' ⟨rfl,rfl⟩
  refine⟨.bool _,hF c,rfl,rfl,?_⟩
  conv=>whnf
  exact iI.same (nx:=1) rfl ⟨rfl,trivial⟩ rfl rfl ⟨rfl,rfl⟩
 |cons s each ih =>
  intro c f he hc hb hp hs h2
  refine pR.of (nx:=1) (h0:=[(0,some (jZ c))]) Bd.kM (by simp) ⟨_,_,rfl,rfl⟩ rfl rfl ?_
  conv=>whnf
  refine Fork.mk (fun q=>absurd (q.symm.trans ((rfl:false=false))).symm Bool.false_ne_true) (fun _=>?_)
  conv=>whnf
  refine .mk (by simp only[Rw.rng] at *; first|omega|(simp_all; done)|(simp_all; omega)) ?_
  conv=>whnf
  conv=>whnf
  obtain⟨hs1,hs2⟩:=hs s (by simp)
  refine aJ.yZ 2 [0,1,5,18,19] (fun i:Nat=>[(20,.int i)]) (fun _=>[(1,.box 24 0 (.own 0)),(0,jZ c)]) (fun i=>i<=s.length/\(s.take i).all (fun x=>c.getD x.toNat 0==0||pz each l (dN c x))=true) (fun i=>s.length-i) 0 [1,0] rfl (by decide) (fun _=>rfl) ⟨by omega,by simp⟩ ?_ ?_ ?_
  ·exact⟨⟨_,rfl,.eq rfl⟩,trivial⟩
  ·exact⟨⟨rfl,nofun,rfl,rfl,_,rfl,rfl,rfl,bn.of_eq rfl⟩,okF rfl (fun _=>rfl) rfl rfl rfl ⟨rfl,rfl⟩ rfl,trivial⟩
  conv=>whnf
  refine⟨⟨⟨_,rfl,.eq rfl⟩,⟨_,rfl,.eq rfl⟩,⟨_,rfl,.eq rfl⟩,⟨_,rfl,.eq rfl⟩,⟨_,rfl,.eq rfl⟩,trivial⟩,rfl,?_⟩
  rintro i ⟨hi,hall⟩
  conv=>whnf
  refine⟨fun h3=>?_,fun h3=>?_⟩
  ·have hi':i<s.length:=by simpa using h3
   obtain⟨p1,p2⟩:=hs1 _ (getM (d:=0) hi')
   have hg:=hb.g (s.getD i 0).toNat
   have hnext:=nG (d:=0) hi' hall
   have Q5:=fun h=>mM (p:=fun x=>c.getD x.toNat 0==0||pz each l (dN c x)) (d:=0) hi' h
   conv=>whnf
   repeat(refine VC.mk (by simp only[Rw.rng] at *; first|omega|(simp_all; done)|(simp_all; omega)) ?_; conv=>whnf)
   refine⟨fun h4=>?_,fun h4=>?_⟩
   ·have h4':(c.getD (s.getD i 0).toNat 0==0)=true:=h4
    conv=>whnf
    refine .mk (by simp only[okI] at *; first|omega|(simp_all; done)|(simp_all; omega)) ?_
    conv=>whnf
    refine⟨i+1,[1,0],⟨by omega,?_⟩,by omega,⟨⟨_,rfl,.eq rfl⟩,trivial⟩,⟨⟨_,rfl,.eq rfl⟩,⟨_,rfl,.eq rfl⟩,⟨_,rfl,.eq rfl⟩,⟨_,rfl,.eq rfl⟩,⟨_,rfl,.eq rfl⟩,trivial⟩,⟨rfl,nofun,rfl,rfl,_,rfl,rfl,rfl,bn.of_eq rfl⟩,okF rfl (fun _=>rfl) rfl rfl rfl ⟨rfl,rfl⟩ rfl,trivial⟩
    rw[hnext,h4']; rfl
   have h4':(c.getD (s.getD i 0).toNat 0==0)=false:=h4
   have hnz:c.getD (s.getD i 0).toNat 0≠0:=beq_eq_false_iff_ne.1 h4'
   conv=>whnf
   repeat(refine VC.mk (by first|(first|(simp only[Rw.rng,Int.toNat_natCast]; omega)|(simp only[okI,Int.toNat_natCast]; omega)|(simp only[Rw.lg,List.length_cons]; omega))|(simp only[okI,Rw.rng] at *; first|omega|(simp_all; done)|(simp_all; omega))) ?_; conv=>whnf)
   refine ah.GZ (i:=0) (ts:=[.row 0 f (.kZ each),.row 0 g (.ints l),.own 0]) (ih (dN c (s.getD i 0)) f (by simp only[List.length_cons] at he; omega) (by simp only[dN,List.length_set]; exact hc) ?_ (by simp only[dN,List.length_set]; exact hp) (fun t ht=>by simp only[dN,List.length_set]; exact hs t (List.mem_cons_of_mem _ ht)) (by simp only[List.length_cons] at h2; omega)) (by rfl) (by rfl) (by rfl) (by rfl) (by rfl) (by rfl) ?_
   ·intro x hx
    have:=List.mem_or_eq_of_mem_set hx
    rcases this with h|rfl
    ·exact hb x h
    ·omega
   rintro t hp' ⟨rfl,rfl⟩
   refine .inl ⟨.bool _,jZ (dN c (s.getD i 0)),rfl,rfl,rfl,?_⟩
   have htg:(dN c (s.getD i 0)).getD (s.getD i 0).toNat 0=c.getD (s.getD i 0).toNat 0-1:=by
    have:=pF (c:=c) (b:=s.getD i 0) ⟨p1,p2⟩ p1
    simpa using this
   have hbk:=Tj (c:=c) ⟨p1,p2⟩
   have hr2:Rw.rng ((s.getD i 0).toNat:Int) (.ints (dN c (s.getD i 0))):=⟨by omega,by simp only[dN,List.length_set]; omega⟩
   conv=>whnf
   repeat(refine VC.mk (by first|exact hr2|(exact⟨p1,by simp only[dN,List.length_set]; exact p2⟩)|(show okI ((dN c (s.getD i 0)).getD (s.getD i 0).toNat 0+1); rw[htg]; simp only[okI]; omega)) ?_; conv=>whnf)
   refine⟨fun h5=>?_,fun h5=>?_⟩
   ·have h5':pz each l (dN c (s.getD i 0))=false:=by simpa using h5
    conv=>whnf
    refine iI.same (nx:=1) rfl ⟨congrArg (fun l=>some (jZ l)) hbk,trivial⟩ rfl rfl ⟨?_,rfl⟩
    rw[show pz (s::each) l c=false from Q5 (by rw[h4',h5']; rfl)]; rfl
   ·have h5':pz each l (dN c (s.getD i 0))=true:=by simpa using h5
    conv=>whnf
    refine .mk (by simp only[okI,Rw.rng] at *; first|omega|(simp_all; done)|(simp_all; omega)) ?_
    conv=>whnf
    refine⟨i+1,[1,0],⟨by omega,?_⟩,by omega,⟨⟨_,rfl,.eq rfl⟩,trivial⟩,⟨⟨_,rfl,.eq rfl⟩,⟨_,rfl,.eq rfl⟩,⟨_,rfl,.eq rfl⟩,⟨_,rfl,.eq rfl⟩,⟨_,rfl,.eq rfl⟩,trivial⟩,⟨rfl,nofun,rfl,rfl,_,rfl,rfl,rfl,bn.of_eq rfl⟩,okF rfl (fun _=>rfl) rfl rfl rfl ⟨rfl,rfl⟩ ?_,trivial⟩
    ·rw[hnext,h5',Bool.or_true]
    ·exact congrArg (fun l=>(jZ l).aF.l) hbk.symm
  ·have hi':s.length<=i:=by simpa using h3
   rw[List.take_of_length_le hi'] at hall
   conv=>whnf
   exact iI.same (nx:=1) rfl ⟨rfl,trivial⟩ rfl rfl ⟨by rw[show pz (s::each) l c=true from hall]; rfl,rfl⟩
theorem ah.aaD{P:Program}{f:FuncId}{args:List V}{h:Hz}{n ty k:Nat}{r:Rw}{K:V->Hz->Prop}{KW:Nat->V->Hz->Prop}(H:vM P f (V.aT args) (fun n=>.own n) (some ⟨ty,k,r.aT⟩))(hn:h.get n=none)(hK:KW 0 (.own n) ((n,some (.row ty k r []))::h)):ah P true none f args h n K KW :=
 ⟨.inr (.inr ⟨rfl,rfl,hn,(vM.frame H _ _).mono (by rintro t hp ⟨rfl,rfl⟩; exact⟨.own n,_,rfl,by rw[bD]; simp[nN,OV.aF,V.aT],hK⟩)⟩)⟩
theorem S.lN(k:Clause)(e:Elem)(h:S9 k e)(h0:0<e.counts.length)(hk:k.values.length<2^30):ak Tryz.prog 72 [.dat (.clause k),.dat (.elem e)] (.bool (holdsB k e)):=by
 obtain⟨⟨vals,hcl⟩,hok,hln⟩:=h
 have hS:=hcl.some.len
 have h2:=hcl.two
 refine ak.of Bd.lN (by simp) rfl rfl ?_
 conv=>whnf
 repeat(refine VC.mk (by first|exact id|exact fun h=>⟨h,h⟩) ?_; conv=>whnf)
 refine ah.fP (fun _=>S.slices_Contains_int k.values e.value false (by omega)) rfl ?_
 conv=>whnf
 repeat(refine VC.mk id ?_; conv=>whnf)
 refine⟨fun h1=>?_,fun h1=>?_⟩
 ·conv=>whnf
  exact au.bool (by rw[holdsB,show Jt k e.value=true from h1]; rfl)
 have hfree:Jt k e.value=false:=h1
 conv=>whnf
 refine ah.aaD (r:=.ints e.counts) (S.xM e.counts false h0 (by omega)) rfl ?_
 conv=>whnf
 refine ah.GZ (ts:=[.row 0 false (.kZ k.each),.row 0 false (.ints k.some),.own 0]) (S.kM k.some false (by omega) k.each e.counts false (by omega) (by omega) hok hcl.some.place (fun s hs=>⟨(hcl.each s hs).1.place,by have:=(hcl.each s hs).1.len; omega⟩) (by omega)) (by rfl) (by rfl) (by rfl) (by rfl) (by rfl) (by rfl) ?_
 rintro t hp' ⟨rfl,rfl⟩
 refine .inl ⟨.bool _,jZ e.counts,rfl,rfl,rfl,?_⟩
 conv=>whnf
 exact au.bool (by rw[holdsB,hfree]; rfl)
theorem Tm{α:Type}{P Q:List α}{x z:α}{k:Nat}(h:k=P.length):(P++x::Q).set k z=P++z::Q:=by
 subst h; simp
theorem VU{α:Type}{P Q:List α}{x d:α}{k:Nat}(h:k=P.length):(P++x::Q).getD k d=x:=by
 subst h; simp
theorem JF(l:List Int):T.qI (Rw.ints l).aT=true:=by
 show T.qI (l.map T.int)=true
 induction l with
 |nil=>rfl
 |cons s r ih=>simp only[List.map_cons,T.qI,ih]; rfl
set_option maxHeartbeats 2000000 in
theorem S.eF(p:aU)(n vals m:Nat)(_hp:dh p)(hn:p.states.length=n)(hn0:0<n)(Ar:n<=6)(hvs:max 1 p.values.length=vals)(nM:vals<=3)(hm8:m<=8) :
  ak Tryz.prog 52 [.dat (.dF p),.int m] (.row 3 false (.elems (eY (m+1) n vals))):=by
 have hb0:0<m+1:=by omega
 have h46:(m+1)^n<=531441:=pO (by omega) Ar
 refine ak.of Bd.eF (by simp) rfl rfl ?_
 conv=>whnf
 refine aJ.nil 5 55 3 (by rfl) rfl rfl rfl ?_
 refine aJ.objs 2 [1,2,12] (fun v:Nat=>[(13,.int v),(5,.own 1)]) (fun v=>[(0,.box 27 11 (.dat (.dF p))),(1,nS (eY (m+1) n v))]) (fun v=>v<=vals) (fun v=>vals-v) 0 [0,8] rfl (by decide) (fun _=>rfl) (Nat.zero_le _) ?_ ?_ ?_
 ·exact⟨⟨_,rfl,.eq rfl⟩,⟨_,rfl,.eq rfl⟩,trivial⟩
 ·exact⟨⟨rfl,nofun,rfl,rfl,rfl,_,rfl,rfl,rfl,bn.of_eq rfl⟩,⟨rfl,nofun,rfl,rfl,rfl,_,rfl,rfl,rfl,bn.of_eq rfl⟩,trivial⟩
 conv=>whnf
 refine⟨⟨⟨_,rfl,.eq rfl⟩,⟨_,rfl,.eq rfl⟩,⟨_,rfl,.eq rfl⟩,trivial⟩,rfl,?_⟩
 rintro v hv
 have hrl:(eY (m+1) n v).length=v*((m+1)^n-1):=pG
 have hr2:v*((m+1)^n-1)<=3*531441:=Nat.mul_le_mul (by omega) (by omega)
 conv=>whnf
 refine⟨fun h3=>?_,fun h3=>?_⟩
 ·have hv':v<vals:=by
   have:(v:Int)<max 1 (p.values.length:Int):=of_decide_eq_true h3
   omega
  conv=>whnf
  have hm:=yS (n:=p.states.length) (by omega)
  rw[hm]
  conv=>whnf
  refine .mk (by omega) ?_
  conv=>whnf
  refine aJ.MX 3 [1,2,6,12,13] (fun u:Nat=>[(5,.own 1),(7,.own 2)]) (fun u=>[(0,.box 27 11 (.dat (.dF p))),(1,nS (eY (m+1) n v++sU (m+1) n v u)),(2,jZ (eX (m+1) n u))]) (fun u=>u<(m+1)^n) (fun u=>(m+1)^n-u) 0 [0,1,8] [(0,some (.box 27 11 (.dat (.dF p)))),(1,some (nS (eY (m+1) n v))),(8,some (jZ (List.replicate p.states.length 0)))] rfl (by decide) (fun _=>rfl) (Nat.pow_pos hb0) ?_ ?_ ?_ ?_
  ·exact⟨⟨_,rfl,.eq rfl⟩,⟨_,rfl,.eq rfl⟩,trivial⟩
  ·exact⟨fun _=>False,bG (Z:=fun _=>False) rfl (fun q=>q),bG (Z:=fun _=>False) rfl (fun q=>q),bG (Z:=fun _=>False) rfl (fun q=>q),trivial⟩
  ·exact⟨okF rfl nofun rfl rfl rfl ⟨rfl,rfl⟩ rfl,okF rfl nofun rfl rfl rfl ⟨rfl,rfl⟩ (by simp[sU]),okF rfl nofun rfl rfl rfl ⟨rfl,rfl⟩ (by rw[zS hb0,hn]),trivial⟩
  conv=>whnf
  refine⟨⟨⟨_,rfl,.eq rfl⟩,⟨_,rfl,.eq rfl⟩,⟨_,rfl,.eq rfl⟩,⟨_,rfl,.eq rfl⟩,⟨_,rfl,.eq rfl⟩,trivial⟩,rfl,?_⟩
  rintro u hu
  have hdl:(eX (m+1) n u).length=n:=dW
  conv=>whnf
  refine .mk (by first|(simp only[okI,dW]; omega)|omega) ?_
  conv=>whnf
  refine aJ.objs 3 [1,2,6,12,13] (fun k:Nat=>[(8,.int ((n:Int)-1-k)),(5,.own 1),(7,.own 2)]) (fun k=>[(0,.box 27 11 (.dat (.dF p))),(1,nS (eY (m+1) n v++sU (m+1) n v u)),(2,jZ (sO (m+1) n u k))]) (fun k=>k<=n/\u+1=(u / (m+1)^k+1)*(m+1)^k) (fun k=>n-k) 0 [0,1,2] rfl (by decide) (fun _=>rfl) ⟨Nat.zero_le _,by simp⟩ ?_ ?_ ?_
  ·refine⟨⟨_,rfl,.eq ?_⟩,⟨_,rfl,.eq rfl⟩,⟨_,rfl,.eq rfl⟩,trivial⟩
   show T.int ((n:Int)-1-((0:Nat):Int))=T.int (((eX (m+1) n u).length:Int)-1)
   rw[dW]; exact congrArg T.int (by omega)
  ·refine⟨⟨rfl,nofun,rfl,rfl,rfl,_,rfl,rfl,rfl,bn.of_eq rfl⟩,⟨rfl,nofun,rfl,rfl,rfl,_,rfl,rfl,rfl,bn.of_eq rfl⟩,⟨rfl,nofun,rfl,rfl,rfl,_,rfl,rfl,rfl,bn.of_eq ?_⟩,trivial⟩
   rw[GH]
  conv=>whnf
  refine⟨⟨⟨_,rfl,.eq rfl⟩,⟨_,rfl,.eq rfl⟩,⟨_,rfl,.eq rfl⟩,⟨_,rfl,.eq rfl⟩,⟨_,rfl,.eq rfl⟩,trivial⟩,rfl,?_⟩
  rintro k ⟨hk,hvk⟩
  have hbl:=Ju (b:=m+1) (v:=u) hk
  have hcell:k<n->(sO (m+1) n u k).getD (n-1-k) 0=((u / (m+1)^k % (m+1):Nat):Int):=fun hkn=>by
   rw[oI hkn]; exact VU (by rw[dW]; omega)
  have hti:((n:Int)-1-k).toNat=n-1-k:=by omega
  conv=>whnf
  repeat(refine VC.mk (by first|exact id|exact fun h=>⟨h,h⟩|(intro h; (repeat' apply And.intro)<;>first|exact h|omega|(simp only[Rw.lg]; omega)|(simp only[Rw.rng]; omega))|(simp only[Rw.rng] at *; first|omega|(simp_all; done)|(simp_all; omega))) ?_; conv=>whnf)
  refine⟨fun h6=>?_,fun h6=>?_⟩
  ·rw[Bool.and_eq_true] at h6
   have hkn:k<n:=by have:=of_decide_eq_true h6.1; omega
   have h3:u / (m+1)^k % (m+1)+1=m+1:=by
    have:=beq_iff_eq.1 h6.2
    rw[hti,hcell hkn] at this; omega
   conv=>whnf
   repeat(refine VC.mk (by first|(simp only[okI]; omega)|(simp only[Rw.rng,hbl]; omega)) ?_; conv=>whnf)
   refine⟨k+1,[0,1,2],⟨by omega,GK hb0 h3 hvk⟩,by omega,⟨⟨_,rfl,.eq ?_⟩,⟨_,rfl,.eq rfl⟩,⟨_,rfl,.eq rfl⟩,trivial⟩,⟨⟨_,rfl,.eq rfl⟩,⟨_,rfl,.eq rfl⟩,⟨_,rfl,.eq rfl⟩,⟨_,rfl,.eq rfl⟩,⟨_,rfl,.eq rfl⟩,trivial⟩,⟨rfl,nofun,rfl,rfl,rfl,_,rfl,rfl,rfl,bn.of_eq rfl⟩,⟨rfl,nofun,rfl,rfl,rfl,_,rfl,rfl,rfl,bn.of_eq rfl⟩,⟨rfl,nofun,rfl,rfl,rfl,_,rfl,rfl,rfl,bn.of_eq ?_⟩,trivial⟩
   ·show T.int ((n:Int)-1-((k+1:Nat):Int))=T.int ((n:Int)-1-(k:Int)-1)
    exact congrArg T.int (by omega)
   ·rw[hti,GI hkn,oI hkn,Tm (by rw[dW]; omega)]
  conv=>whnf
  refine⟨fun h7=>?_,fun h7=>?_⟩
  ·have hkn:k=n:=by have:=of_decide_eq_true h7; omega
   subst hkn
   have hlast:=MS hu hvk
   have hu':u=(m+1)^k-1:=by omega
   rw[hu',<- zT]
   conv=>whnf
   refine .mk (by first|(simp only[okI]; omega)|omega) ?_
   conv=>whnf
   refine⟨v+1,[0,1],by omega,by omega,⟨⟨_,rfl,.eq rfl⟩,⟨_,rfl,.eq rfl⟩,trivial⟩,⟨⟨_,rfl,.eq rfl⟩,⟨_,rfl,.eq rfl⟩,⟨_,rfl,.eq rfl⟩,trivial⟩,⟨rfl,nofun,rfl,rfl,rfl,_,rfl,rfl,rfl,bn.of_eq rfl⟩,⟨rfl,nofun,rfl,rfl,rfl,_,rfl,rfl,rfl,bn.of_eq rfl⟩,trivial⟩
  ·have hkn:k<n:=by have:=of_decide_eq_false h7; omega
   have h3:u / (m+1)^k % (m+1)+1≠m+1:=by
    rw[Bool.and_eq_false_iff] at h6
    rcases h6 with h6|h6
    ·have:=of_decide_eq_false h6; omega
    ·intro e
     have h6':((sO (m+1) n u k).getD ((n:Int)-1-k).toNat 0==(m:Int))=false:=h6
     rw[hti,hcell hkn] at h6'
     exact beq_eq_false_iff_ne.1 h6' (by omega)
   have hlt4:u / (m+1)^k % (m+1)<m+1:=Nat.mod_lt _ hb0
   have hc0:=hcell hkn
   have huv:(eY (m+1) n v++sU (m+1) n v u).length<=4*531441:=by rw[List.length_append,GL]; omega
   have hinc:=Jv hb0 hkn h3 hvk
   have hset:(sO (m+1) n u k).set (n-1-k) (((u / (m+1)^k % (m+1):Nat):Int)+1)=eX (m+1) n (u+1):=by
    rw[<- hinc,oI hkn,Tm (by rw[dW]; omega)]
   conv=>whnf
   repeat(refine VC.mk (by first|(simp only[okI,hti,hc0]; omega)|(simp only[Rw.rng,hbl]; omega)) ?_; conv=>whnf)
   rw[hti,hc0,hset]
   refine ah.KJ (r:=.ints (eX (m+1) n (u+1))) (S.xM (eX (m+1) n (u+1)) false (by rw[dW]; omega) (by rw[dW]; omega)) (And.intro (Jo trivial rfl) trivial) (JF _) ?_
   conv=>whnf
   refine .mk (by first|(show((eY (m+1) n v++sU (m+1) n v u).length+(0+1))*32<=140737488355328/\(eY (m+1) n v++sU (m+1) n v u).length+(0+1)<=1152921504606846976; omega)|(simp only[mD,lH,Rw.len,List.length_cons,List.length_nil,dW]; omega)) ?_
   conv=>whnf
   refine⟨[(0,some (.box 27 11 (.dat (.dF p)))),(28,some (nS ((eY (m+1) n v++sU (m+1) n v u)++[⟨(v:Int),eX (m+1) n (u+1)⟩]))),(2,some (jZ (eX (m+1) n (u+1))))],u+1,[0,28,2],⟨fun i=>i=25,bG (Z:=fun i=>i=25) (i:=0) rfl (by decide),GX (Z:=fun i=>i=25) (i:=28) (j:=25) rfl (by decide) rfl rfl,bG (Z:=fun i=>i=25) (i:=2) rfl (by decide),trivial⟩,QY hb0 hkn hu h3 hvk,by omega,⟨⟨_,rfl,.eq rfl⟩,⟨_,rfl,.eq rfl⟩,trivial⟩,⟨⟨_,rfl,.eq rfl⟩,⟨_,rfl,.eq rfl⟩,⟨_,rfl,.eq rfl⟩,⟨_,rfl,.eq rfl⟩,⟨_,rfl,.eq rfl⟩,trivial⟩,okF rfl nofun rfl rfl rfl ⟨rfl,rfl⟩ rfl,okF rfl nofun rfl rfl rfl ⟨rfl,rfl⟩ ?_,okF rfl nofun rfl rfl rfl ⟨rfl,rfl⟩ rfl,trivial⟩
   rw[Jw,<- List.append_assoc]
 ·have hv':v=vals:=by
   have: ¬ (v:Int)<max 1 (p.values.length:Int):=of_decide_eq_false h3
   omega
  rw[hv']
  conv=>whnf
  exact au.acg rfl
set_option maxHeartbeats 2000000 in
theorem S.Tn(z:Nat)(p:aU)(n vals m:Nat)(_hp:dh p)(hn:p.states.length=n)(hn0:0<n)(Ar:n<=6)(hvs:max 1 p.values.length=vals)(nM:vals<=3)(hm8:m<=8) :
  aN Tryz.prog 52 (V.aT [.dat (.dF p),.int m]) (Hz.aj []) z (fun t hp=>t= .own z/\hp=Hz.aj [(z,some (nS (eY (m+1) n vals)))]):=by
 have hb0:0<m+1:=by omega
 have h46:(m+1)^n<=531441:=pO (by omega) Ar
 refine pR.of (nx:=0) (h0:=[]) Bd.eF (by simp) ⟨_,_,rfl,rfl⟩ rfl rfl ?_
 conv=>whnf
 refine aJ.nil 5 55 3 (by rfl) rfl rfl rfl ?_
 refine aJ.objs 2 [1,2,12] (fun v:Nat=>[(13,.int v),(5,.own 1)]) (fun v=>[(0,.box 27 11 (.dat (.dF p))),(1,nS (eY (m+1) n v))]) (fun v=>v<=vals) (fun v=>vals-v) 0 [0,8] rfl (by decide) (fun _=>rfl) (Nat.zero_le _) ?_ ?_ ?_
 ·exact⟨⟨_,rfl,.eq rfl⟩,⟨_,rfl,.eq rfl⟩,trivial⟩
 ·exact⟨⟨rfl,nofun,rfl,rfl,rfl,_,rfl,rfl,rfl,bn.of_eq rfl⟩,⟨rfl,nofun,rfl,rfl,rfl,_,rfl,rfl,rfl,bn.of_eq rfl⟩,trivial⟩
 conv=>whnf
 refine⟨⟨⟨_,rfl,.eq rfl⟩,⟨_,rfl,.eq rfl⟩,⟨_,rfl,.eq rfl⟩,trivial⟩,rfl,?_⟩
 rintro v hv
 have hrl:(eY (m+1) n v).length=v*((m+1)^n-1):=pG
 have hr2:v*((m+1)^n-1)<=3*531441:=Nat.mul_le_mul (by omega) (by omega)
 conv=>whnf
 refine⟨fun h3=>?_,fun h3=>?_⟩
 ·have hv':v<vals:=by
   have:(v:Int)<max 1 (p.values.length:Int):=of_decide_eq_true h3
   omega
  conv=>whnf
  have hm:=yS (n:=p.states.length) (by omega)
  rw[hm]
  conv=>whnf
  refine .mk (by omega) ?_
  conv=>whnf
  refine aJ.MX 3 [1,2,6,12,13] (fun u:Nat=>[(5,.own 1),(7,.own 2)]) (fun u=>[(0,.box 27 11 (.dat (.dF p))),(1,nS (eY (m+1) n v++sU (m+1) n v u)),(2,jZ (eX (m+1) n u))]) (fun u=>u<(m+1)^n) (fun u=>(m+1)^n-u) 0 [0,1,8] [(0,some (.box 27 11 (.dat (.dF p)))),(1,some (nS (eY (m+1) n v))),(8,some (jZ (List.replicate p.states.length 0)))] rfl (by decide) (fun _=>rfl) (Nat.pow_pos hb0) ?_ ?_ ?_ ?_
  ·exact⟨⟨_,rfl,.eq rfl⟩,⟨_,rfl,.eq rfl⟩,trivial⟩
  ·exact⟨fun _=>False,bG (Z:=fun _=>False) rfl (fun q=>q),bG (Z:=fun _=>False) rfl (fun q=>q),bG (Z:=fun _=>False) rfl (fun q=>q),trivial⟩
  ·exact⟨okF rfl nofun rfl rfl rfl ⟨rfl,rfl⟩ rfl,okF rfl nofun rfl rfl rfl ⟨rfl,rfl⟩ (by simp[sU]),okF rfl nofun rfl rfl rfl ⟨rfl,rfl⟩ (by rw[zS hb0,hn]),trivial⟩
  conv=>whnf
  refine⟨⟨⟨_,rfl,.eq rfl⟩,⟨_,rfl,.eq rfl⟩,⟨_,rfl,.eq rfl⟩,⟨_,rfl,.eq rfl⟩,⟨_,rfl,.eq rfl⟩,trivial⟩,rfl,?_⟩
  rintro u hu
  have hdl:(eX (m+1) n u).length=n:=dW
  conv=>whnf
  refine .mk (by first|(simp only[okI,dW]; omega)|omega) ?_
  conv=>whnf
  refine aJ.objs 3 [1,2,6,12,13] (fun k:Nat=>[(8,.int ((n:Int)-1-k)),(5,.own 1),(7,.own 2)]) (fun k=>[(0,.box 27 11 (.dat (.dF p))),(1,nS (eY (m+1) n v++sU (m+1) n v u)),(2,jZ (sO (m+1) n u k))]) (fun k=>k<=n/\u+1=(u / (m+1)^k+1)*(m+1)^k) (fun k=>n-k) 0 [0,1,2] rfl (by decide) (fun _=>rfl) ⟨Nat.zero_le _,by simp⟩ ?_ ?_ ?_
  ·refine⟨⟨_,rfl,.eq ?_⟩,⟨_,rfl,.eq rfl⟩,⟨_,rfl,.eq rfl⟩,trivial⟩
   show T.int ((n:Int)-1-((0:Nat):Int))=T.int (((eX (m+1) n u).length:Int)-1)
   rw[dW]; exact congrArg T.int (by omega)
  ·refine⟨⟨rfl,nofun,rfl,rfl,rfl,_,rfl,rfl,rfl,bn.of_eq rfl⟩,⟨rfl,nofun,rfl,rfl,rfl,_,rfl,rfl,rfl,bn.of_eq rfl⟩,⟨rfl,nofun,rfl,rfl,rfl,_,rfl,rfl,rfl,bn.of_eq ?_⟩,trivial⟩
   rw[GH]
  conv=>whnf
  refine⟨⟨⟨_,rfl,.eq rfl⟩,⟨_,rfl,.eq rfl⟩,⟨_,rfl,.eq rfl⟩,⟨_,rfl,.eq rfl⟩,⟨_,rfl,.eq rfl⟩,trivial⟩,rfl,?_⟩
  rintro k ⟨hk,hvk⟩
  have hbl:=Ju (b:=m+1) (v:=u) hk
  have hcell:k<n->(sO (m+1) n u k).getD (n-1-k) 0=((u / (m+1)^k % (m+1):Nat):Int):=fun hkn=>by
   rw[oI hkn]; exact VU (by rw[dW]; omega)
  have hti:((n:Int)-1-k).toNat=n-1-k:=by omega
  conv=>whnf
  repeat(refine VC.mk (by first|exact id|exact fun h=>⟨h,h⟩|(intro h; (repeat' apply And.intro)<;>first|exact h|omega|(simp only[Rw.lg]; omega)|(simp only[Rw.rng]; omega))|(simp only[Rw.rng] at *; first|omega|(simp_all; done)|(simp_all; omega))) ?_; conv=>whnf)
  refine⟨fun h6=>?_,fun h6=>?_⟩
  ·rw[Bool.and_eq_true] at h6
   have hkn:k<n:=by have:=of_decide_eq_true h6.1; omega
   have h3:u / (m+1)^k % (m+1)+1=m+1:=by
    have:=beq_iff_eq.1 h6.2
    rw[hti,hcell hkn] at this; omega
   conv=>whnf
   repeat(refine VC.mk (by first|(simp only[okI]; omega)|(simp only[Rw.rng,hbl]; omega)) ?_; conv=>whnf)
   refine⟨k+1,[0,1,2],⟨by omega,GK hb0 h3 hvk⟩,by omega,⟨⟨_,rfl,.eq ?_⟩,⟨_,rfl,.eq rfl⟩,⟨_,rfl,.eq rfl⟩,trivial⟩,⟨⟨_,rfl,.eq rfl⟩,⟨_,rfl,.eq rfl⟩,⟨_,rfl,.eq rfl⟩,⟨_,rfl,.eq rfl⟩,⟨_,rfl,.eq rfl⟩,trivial⟩,⟨rfl,nofun,rfl,rfl,rfl,_,rfl,rfl,rfl,bn.of_eq rfl⟩,⟨rfl,nofun,rfl,rfl,rfl,_,rfl,rfl,rfl,bn.of_eq rfl⟩,⟨rfl,nofun,rfl,rfl,rfl,_,rfl,rfl,rfl,bn.of_eq ?_⟩,trivial⟩
   ·show T.int ((n:Int)-1-((k+1:Nat):Int))=T.int ((n:Int)-1-(k:Int)-1)
    exact congrArg T.int (by omega)
   ·rw[hti,GI hkn,oI hkn,Tm (by rw[dW]; omega)]
  conv=>whnf
  refine⟨fun h7=>?_,fun h7=>?_⟩
  ·have hkn:k=n:=by have:=of_decide_eq_true h7; omega
   subst hkn
   have hlast:=MS hu hvk
   have hu':u=(m+1)^k-1:=by omega
   rw[hu',<- zT]
   conv=>whnf
   refine .mk (by first|(simp only[okI]; omega)|omega) ?_
   conv=>whnf
   refine⟨v+1,[0,1],by omega,by omega,⟨⟨_,rfl,.eq rfl⟩,⟨_,rfl,.eq rfl⟩,trivial⟩,⟨⟨_,rfl,.eq rfl⟩,⟨_,rfl,.eq rfl⟩,⟨_,rfl,.eq rfl⟩,trivial⟩,⟨rfl,nofun,rfl,rfl,rfl,_,rfl,rfl,rfl,bn.of_eq rfl⟩,⟨rfl,nofun,rfl,rfl,rfl,_,rfl,rfl,rfl,bn.of_eq rfl⟩,trivial⟩
  ·have hkn:k<n:=by have:=of_decide_eq_false h7; omega
   have h3:u / (m+1)^k % (m+1)+1≠m+1:=by
    rw[Bool.and_eq_false_iff] at h6
    rcases h6 with h6|h6
    ·have:=of_decide_eq_false h6; omega
    ·intro e
     have h6':((sO (m+1) n u k).getD ((n:Int)-1-k).toNat 0==(m:Int))=false:=h6
     rw[hti,hcell hkn] at h6'
     exact beq_eq_false_iff_ne.1 h6' (by omega)
   have hlt4:u / (m+1)^k % (m+1)<m+1:=Nat.mod_lt _ hb0
   have hc0:=hcell hkn
   have huv:(eY (m+1) n v++sU (m+1) n v u).length<=4*531441:=by rw[List.length_append,GL]; omega
   have hinc:=Jv hb0 hkn h3 hvk
   have hset:(sO (m+1) n u k).set (n-1-k) (((u / (m+1)^k % (m+1):Nat):Int)+1)=eX (m+1) n (u+1):=by
    rw[<- hinc,oI hkn,Tm (by rw[dW]; omega)]
   conv=>whnf
   repeat(refine VC.mk (by first|(simp only[okI,hti,hc0]; omega)|(simp only[Rw.rng,hbl]; omega)) ?_; conv=>whnf)
   rw[hti,hc0,hset]
   refine ah.KJ (r:=.ints (eX (m+1) n (u+1))) (S.xM (eX (m+1) n (u+1)) false (by rw[dW]; omega) (by rw[dW]; omega)) (And.intro (Jo trivial rfl) trivial) (JF _) ?_
   conv=>whnf
   refine .mk (by first|(show((eY (m+1) n v++sU (m+1) n v u).length+(0+1))*32<=140737488355328/\(eY (m+1) n v++sU (m+1) n v u).length+(0+1)<=1152921504606846976; omega)|(simp only[mD,lH,Rw.len,List.length_cons,List.length_nil,dW]; omega)) ?_
   conv=>whnf
   refine⟨[(0,some (.box 27 11 (.dat (.dF p)))),(28,some (nS ((eY (m+1) n v++sU (m+1) n v u)++[⟨(v:Int),eX (m+1) n (u+1)⟩]))),(2,some (jZ (eX (m+1) n (u+1))))],u+1,[0,28,2],⟨fun i=>i=25,bG (Z:=fun i=>i=25) (i:=0) rfl (by decide),GX (Z:=fun i=>i=25) (i:=28) (j:=25) rfl (by decide) rfl rfl,bG (Z:=fun i=>i=25) (i:=2) rfl (by decide),trivial⟩,QY hb0 hkn hu h3 hvk,by omega,⟨⟨_,rfl,.eq rfl⟩,⟨_,rfl,.eq rfl⟩,trivial⟩,⟨⟨_,rfl,.eq rfl⟩,⟨_,rfl,.eq rfl⟩,⟨_,rfl,.eq rfl⟩,⟨_,rfl,.eq rfl⟩,⟨_,rfl,.eq rfl⟩,trivial⟩,okF rfl nofun rfl rfl rfl ⟨rfl,rfl⟩ rfl,okF rfl nofun rfl rfl rfl ⟨rfl,rfl⟩ ?_,okF rfl nofun rfl rfl rfl ⟨rfl,rfl⟩ rfl,trivial⟩
   rw[Jw,<- List.append_assoc]
 ·have hv':v=vals:=by
   have: ¬ (v:Int)<max 1 (p.values.length:Int):=of_decide_eq_false h3
   omega
  rw[hv']
  conv=>whnf
  exact iI.one (c:=z) (j:=1) (o:=nS (eY (m+1) n vals)) (t:=.own z) rfl rfl rfl nofun (.inr rfl) rfl (.eq rfl) ⟨rfl,rfl⟩
theorem S.Tq(p:aU)(n vals m:Nat)(hp:dh p)(hn:p.states.length=n)(hn0:0<n)(Ar:n<=6)(hvs:max 1 p.values.length=vals)(nM:vals<=3)(hm8:m<=8) :
  vM Tryz.prog 52 (V.aT [.dat (.dF p),.int m]) (fun n=>.own n) (some ⟨55,3,(Rw.elems (eY (m+1) n vals)).aT⟩):=by
 refine⟨V.iq [.dat (.dF p),.int m] rfl,fun _=>rfl,(fun ob h=>by cases h; exact BA _),(fun ob h=>by cases h; exact fun e=>absurd e (by decide:(3:Nat)≠fF)),fun z=>(S.Tn z p n vals m hp hn hn0 Ar hvs nM hm8).mono ?_⟩
 rintro t hp ⟨rfl,rfl⟩
 refine⟨rfl,?_⟩
 rw[bD]; simp[nN,OV.aF,V.aT]; rfl
abbrev rowB(l:List Bool):OV:=.row 4 0 (.bools l) []
abbrev yK(l:List Clause)(f:Bool)(m:Nat):OV:=.box 70 4 (.agg [.row 4 f (.clauses l),.int (bF l),.own m])
abbrev xO(es:List (Int×List Bool)):OV:=.map 68 es []
theorem S.jr(l:List Clause)(f:Bool)(hl:SmallK l):jS Tryz.prog 29 (V.aT [.row 4 f (.clauses l)]) (Hz.aj []) 0 1 (fun t hp=>t= .ptr 0 0 0/\hp=Hz.aj [(0,some (yK l f 1)),(1,some (xO []))]):=by
 refine aaE.of Bd.jr (by simp) rfl rfl rfl ?_
 conv=>whnf
 refine ah.pure (S.mJ l f hl) rfl ?_
 conv=>whnf
 exact⟨⟨_,_,_,rfl,by decide,rfl,rfl,rfl⟩⟩
theorem JG{h:Hz}{j:Nat}{Z:Nat->Prop}{l:List Bool}(hz:Z j)(q:h.get j=some (rowB l)):T.sub Z h.aj (V.row 0 false (.bools l)).aG (V.own j).aG:=by
 show T.sub Z h.aj (.sl 0 false (l.map T.bool)) (.own j)
 simp only[T.sub]
 refine⟨trivial,hz,?_,by decide,4,?_⟩
 ·rw[ig]; intro t ht; obtain⟨x,_,rfl⟩:=List.mem_map.1 ht; rfl
 ·have:=aH q; simpa [OV.aF,Rw.aT,V.aT] using this
theorem YC{Z:Nat->Prop}{h:Hz}{i j ty:Nat}{es:List (Int×List Bool)}{k:Int}{row:List Bool}(q:h.get i=some (.map ty es [(k,.own j)]))(hi: ¬ Z i)(hz:Z j)(qj:h.get j=some (rowB row)) :
  ∃ o',h.get i=some o'/\ ¬ Z i/\o'.aF.ty=(OV.map ty (es++[(k,row)]) []).aF.ty/\o'.aF.k=(OV.map ty (es++[(k,row)]) []).aF.k/\T.dD Z h.aj (OV.map ty (es++[(k,row)]) []).aF.l o'.aF.l/\(OV.map ty (es++[(k,row)]) []).aF.l.map T.kd=o'.aF.l.map T.kd/\(OV.map ty (es++[(k,row)]) []).aF.l.map fQ=o'.aF.l.map fQ:=by
 have e1:(OV.map ty (es++[(k,row)]) []).aF.l=es.map yI++[yI (k,row)]:=by simp[OV.aF]
 have e2:(OV.map ty es [(k,.own j)]).aF.l=es.map yI++[yH (k,.own j)]:=by simp[OV.aF]
 refine⟨_,q,hi,rfl,rfl,?_,?_,?_⟩
 ·rw[e1,e2]
  refine yY (bZ _) ⟨?_,trivial⟩
  have:=JG hz qj
  simp only[V.aG] at this
  show T.sub Z h.aj (.fK [.int k,.sl 0 false (row.map T.bool)]) (.fK [.int k,.own j])
  simp only[T.sub,T.dD]
  simp only[T.sub] at this
  exact⟨trivial,this,trivial⟩
 ·rw[e1,e2,List.map_append,List.map_append]; rfl
 ·rw[e1,e2,List.map_append,List.map_append]; rfl
def CY(r:Int)(c:List Int)(i:Nat):List Int:=oC r (c.take i)++List.replicate (c.length-i) 0
theorem JH{r:Int}{c:List Int}{i:Nat}(hi:i<c.length):(CY r c i).set i (min (c.getD i 0) r)=CY r c (i+1):=by
 have e:c.length-i=(c.length-(i+1))+1:=by omega
 unfold CY
 rw[e,List.replicate_succ,Tm (by simp[oC]; omega),List.take_add_one,oC,oC,List.map_append,List.append_assoc]
 simp[hi]
theorem Na{r:Int}{c:List Int}{i:Nat}(hi:i<=c.length):(CY r c i).length=c.length:=by
 simp[CY,oC]; omega
theorem VW{r:Int}{c:List Int}:CY r c c.length=oC r c:=by simp[CY]
theorem VX{r:Int}{c:List Int}{i:Nat}(hi:i<c.length):(CY r c (i+1)).getD i 0=min (c.getD i 0) r:=by
 rw[<- JH hi]
 have:i<(CY r c i).length:=by rw[Na (by omega)]; exact hi
 simp[List.getD_eq_getElem?_getD,this]
theorem Tt{r v:Int}{c:List Int}{i:Nat}(hi:i<c.length):yX r v (c.take (i+1))=yX r v (c.take i)*(r+1)+min (c.getD i 0) r:=by
 unfold yX
 rw[List.take_add_one,List.foldl_append]; simp[hi]
theorem aaF{r v:Int}{c:List Int}(hr:0<=r/\r<=3)(hv:0<=v/\v<=1048576)(hc: ∀ x∈c,0<=x)(hl:c.length<=6):0<=yX r v c/\yX r v c<=2^40:=by
 have: ∀ (c:List Int) (v:Int) (n:Nat),c.length<=n->(∀ x∈c,0<=x)->0<=v->0<=yX r v c/\yX r v c<=(v+1)*4^n:=by
  intro c
  induction c with
  |nil =>
   intro v n _ _ hv
   refine⟨hv,?_⟩
   have:(0:Int)<4^n:=Int.pow_pos (by decide)
   have h2:(v+1)*1<=(v+1)*4^n:=Int.mul_le_mul_of_nonneg_left this (by omega)
   show v<=_; omega
  |cons x c ih =>
   intro v n hn hc hv
   obtain⟨m,rfl⟩: ∃ m,n=m+1:=⟨n-1,by simp only[List.length_cons] at hn; omega⟩
   have hx:=hc x (by simp)
   have h1:0<=v*(r+1):=Int.mul_nonneg hv (by omega)
   have h2:v*(r+1)<=v*4:=Int.mul_le_mul_of_nonneg_left (by omega) hv
   obtain⟨g1,g2⟩:=ih (v*(r+1)+min x r) m (by simp only[List.length_cons] at hn; omega) (fun y hy=>hc y (List.mem_cons_of_mem _ hy)) (by omega)
   refine⟨g1,Int.le_trans g2 ?_⟩
   have e:(v+1)*4^(m+1)=((v+1)*4)*4^m:=by rw[Int.pow_succ,Int.mul_assoc,Int.mul_comm (4^m) 4]
   rw[e]
   refine Int.mul_le_mul_of_nonneg_right (by omega) (Int.pow_nonneg (by decide))
 obtain⟨h1,h2⟩:=this c v 6 hl hc hv.1
 refine⟨h1,Int.le_trans h2 ?_⟩
 have:(v+1)*4^6<=1048577*4^6:=Int.mul_le_mul_of_nonneg_right (by omega) (by decide)
 exact Int.le_trans this (by decide)
abbrev hT(l:List Clause)(f:Bool)(es:List (Int×List Bool)):Hz:=[(0,some (yK l f 1)),(1,some (xO es))]
theorem iI.AQ{l:List Clause}{f:Bool}{es es':List (Int×List Bool)}{h:Hz}{n:Nat}{v u:V}{post:T->Hp->Prop}(Z:Nat->Prop)(F:Fz Z h (hT l f es'))(hu:u.free=true)(hv:T.sub Z h.aj u.aG v.aG)(hp:post u.aG (hT l f es').aj):iI (hT l f es) n post v h:=by
 refine iI.OX (h2:=hT l f es') (u:=u) Z F ?_ hu hv hp
 intro i o ho
 have hG:=kL (show rM 2 (hT l f es')=true from rfl) i o.aF (aH ho)
 refine⟨?_,T.ay (fun i hi=>?_) _ hG.2.1,hG.2.2⟩
 ·match i,hG.1 with
  |0,_=>rfl
  |1,_=>rfl
  |k+2,hk=>exact absurd hk (by omega)
 ·match i,hi with
  |0,_=>rfl
  |1,_=>rfl
  |k+2,hk=>exact absurd hk (by omega)
structure IZ(l:List Clause)(e:Elem):Prop where
 cl: ∃ vals,∀ k∈l,yG e.counts.length vals k
 ok:Bl e.counts
 len:0<e.counts.length/\e.counts.length<=6
 val:0<=e.value/\e.value<=1048576
theorem IZ.three{l:List Clause}{e:Elem}(h:IZ l e):bF l<=3:=by
 obtain⟨vals,hc⟩:=h.cl
 exact qP fun k hk=>(hc k hk).two
theorem IZ.low{l:List Clause}{e:Elem}(h:IZ l e){i:Nat}(hi:i<l.length):S9 (l.getD i default) (uj (bF l) e):=by
 obtain⟨vals,hc⟩:=h.cl
 have hr:=nC (l:=l)
 refine⟨⟨vals,?_⟩,fun x hx=>?_,?_⟩
 ·have:(uj (bF l) e).counts.length=e.counts.length:=by simp[uj,oC]
  rw[this]; exact hc _ (getM hi)
 ·obtain⟨y,hy,rfl⟩:=List.mem_map.1 hx
  have:=h.ok y hy; omega
 ·simp[uj,oC]; exact h.len.2
theorem IZ.row{l:List Clause}{e:Elem}(h:IZ l e):fH l (uj (bF l) e)=fH l e:=by
 obtain⟨vals,hc⟩:=h.cl
 exact Yy hc ⟨rfl,fun x hx=>(h.ok x hx).1⟩
theorem Tv{l:List Clause}{e:Elem}{i:Nat}(hi:i<l.length):fH (l.take (i+1)) e=fH (l.take i) e++[holdsB (l.getD i default) e]:=by
 unfold fH
 rw[List.take_add_one,List.map_append]; simp[hi]
set_option maxHeartbeats 1000000 in
theorem S.Tz(l:List Clause)(f:Bool)(es:List (Int×List Bool))(e:Elem)(hl:SmallK l)(ht:IZ l e)(hg:iL e.counts.length l es):aN Tryz.prog 53 (V.aT [.ptr 0 0 0,.dat (.elem e)]) (Hz.aj (hT l f es)) 2 (fun t hp=> ∃ es',iL e.counts.length l es'/\t=(V.row 0 false (.bools (fH l e))).aG/\hp=Hz.aj (hT l f es')):=by
 have hr0:=nC (l:=l)
 have hr3:=ht.three
 obtain⟨hn0,Ar⟩:=ht.len
 obtain⟨hv0,hv1⟩:=ht.val
 refine pR.of (nx:=2) (h0:=hT l f es) Bd.mO (by simp) ⟨_,_,es,hg,rfl,rfl⟩ rfl rfl ?_
 conv=>whnf
 have hm:=yS (n:=e.counts.length) hn0
 rw[hm]
 conv=>whnf
 refine .mk (by omega) ?_
 conv=>whnf
 refine aJ.yZ 100 [0,3,5,23,24] (fun i:Nat=>[(25,.int i),(6,.int (yX (bF l) e.value (e.counts.take i)))]) (fun i=>[(0,yK l f 1),(1,xO es),(2,.box 55 3 (.dat (.elem e))),(9,jZ (CY (bF l) e.counts i)),(11,.box 55 3 (.agg [.int e.value,.own 9]))]) (fun i=>i<=e.counts.length) (fun i=>e.counts.length-i) 0 [0,1,2,9,11] rfl (by decide) (fun _=>rfl) (Nat.zero_le _) ?_ ?_ ?_
 ·exact⟨⟨_,rfl,.eq rfl⟩,⟨_,rfl,.eq rfl⟩,trivial⟩
 ·exact⟨⟨rfl,(fun _=>rfl),rfl,rfl,_,rfl,rfl,rfl,bn.of_eq rfl⟩,okF rfl (fun _=>rfl) rfl rfl rfl ⟨rfl,rfl⟩ rfl,okF rfl nofun rfl rfl rfl ⟨rfl,rfl⟩ rfl,okF rfl nofun rfl rfl rfl ⟨rfl,rfl⟩ (by simp[CY,oC]),⟨rfl,nofun,rfl,rfl,_,rfl,rfl,rfl,bn.of_eq rfl⟩,trivial⟩
 conv=>whnf
 refine⟨⟨⟨_,rfl,.eq rfl⟩,⟨_,rfl,.eq rfl⟩,⟨_,rfl,.eq rfl⟩,⟨_,rfl,.eq rfl⟩,⟨_,rfl,.eq rfl⟩,trivial⟩,rfl,?_⟩
 rintro i hi
 have hll:=Na (r:=bF l) hi
 have hkb:=aaF (r:=bF l) (c:=e.counts.take i) ⟨hr0,hr3⟩ ht.val (fun x hx=>(ht.ok x (List.mem_of_mem_take hx)).1) (by rw[List.length_take]; omega)
 conv=>whnf
 refine⟨fun h3=>?_,fun h3=>?_⟩
 ·have hi':i<e.counts.length:=by simpa using h3
  have hset:=JH (r:=bF l) hi'
  have hget:=VX (r:=bF l) hi'
  have hkn:=Tt (r:=bF l) (v:=e.value) hi'
  have hge:=ht.ok.get hi'
  have hm1:0<=yX (bF l) e.value (e.counts.take i)*(bF l+1):=Int.mul_nonneg hkb.1 (by omega)
  have hm2:yX (bF l) e.value (e.counts.take i)*(bF l+1)<=yX (bF l) e.value (e.counts.take i)*4:=Int.mul_le_mul_of_nonneg_left (by omega) hkb.1
  conv=>whnf
  repeat(refine VC.mk (by first|(first|(simp only[Rw.rng,Int.toNat_natCast,List.length_set,hll]; omega)|(simp only[okI,Int.toNat_natCast]; omega))|(simp only[okI] at *; first|omega|(simp_all; done)|(simp_all; omega))) ?_; conv=>whnf)
  refine⟨i+1,[0,1,2,9,11],by omega,by omega,⟨⟨_,rfl,.eq rfl⟩,⟨_,rfl,.eq ?_⟩,trivial⟩,⟨⟨_,rfl,.eq rfl⟩,⟨_,rfl,.eq rfl⟩,⟨_,rfl,.eq rfl⟩,⟨_,rfl,.eq rfl⟩,⟨_,rfl,.eq rfl⟩,trivial⟩,⟨rfl,(fun _=>rfl),rfl,rfl,_,rfl,rfl,rfl,bn.of_eq rfl⟩,okF rfl (fun _=>rfl) rfl rfl rfl ⟨rfl,rfl⟩ rfl,okF rfl nofun rfl rfl rfl ⟨rfl,rfl⟩ rfl,okF rfl nofun rfl rfl rfl ⟨rfl,rfl⟩ ?_,⟨rfl,nofun,rfl,rfl,_,rfl,rfl,rfl,bn.of_eq rfl⟩,trivial⟩
  ·show T.int _=T.int (yX (bF l) e.value (e.counts.take i)*(bF l+1)+((CY (bF l) e.counts i).set i (min (e.counts.getD i 0) (bF l))).getD i 0)
   rw[hset,hget,hkn]
  ·show(jZ (CY (bF l) e.counts (i+1))).aF.l=(jZ ((CY (bF l) e.counts i).set i (min (e.counts.getD i 0) (bF l)))).aF.l
   rw[hset]
 have hi':i=e.counts.length:=by have:e.counts.length<=i:=(by simpa using h3); omega
 subst hi'
 rw[VW,List.take_length]
 have hkey:yX (bF l) e.value e.counts=keyE (bF l) e:=rfl
 rw[hkey]
 have hel:SL e.counts.length e:=⟨rfl,fun x hx=>(ht.ok x hx).1⟩
 conv=>whnf
 refine aaG.mk (fun row hrow=>?_) (fun hnone=>?_)
 ·obtain rfl:=hg e hel row hrow
  conv=>whnf
  refine Fork.mk (fun q=>absurd (q.symm.trans ((rfl:false=false))).symm Bool.false_ne_true) (fun _=>?_)
  conv=>whnf
  conv=>whnf
  exact iI.AQ (es':=es) (u:=.row 0 false (.bools (fH l e))) (fun _=>False) ⟨bG (Z:=fun _=>False) rfl (fun q=>q),bG (Z:=fun _=>False) rfl (fun q=>q),trivial⟩ rfl (aB _) ⟨es,hg,rfl,rfl⟩
 conv=>whnf
 refine Fork.mk (fun _=>?_) (fun q=>absurd (q.symm.trans ((rfl:true=true))) Bool.false_ne_true)
 conv=>whnf
 conv=>whnf
 have hk1:=hl.len
 refine aJ.nil 9 4 0 (by rfl) rfl rfl rfl ?_
 refine aJ.yZ 200 [0,5,6,68,69] (fun i:Nat=>[(70,.int i),(9,.own 12)]) (fun i=>[(0,yK l f 1),(1,xO es),(2,.box 55 3 (.dat (.elem e))),(9,jZ (oC (bF l) e.counts)),(11,.box 55 3 (.agg [.int e.value,.own 9])),(12,rowB (fH (l.take i) (uj (bF l) e)))]) (fun i=>i<=l.length) (fun i=>l.length-i) 0 [0,1,2,9,11,120] rfl (by decide) (fun _=>rfl) (Nat.zero_le _) ?_ ?_ ?_
 ·exact⟨⟨_,rfl,.eq rfl⟩,⟨_,rfl,.eq rfl⟩,trivial⟩
 ·exact⟨⟨rfl,(fun _=>rfl),rfl,rfl,_,rfl,rfl,rfl,bn.of_eq rfl⟩,okF rfl (fun _=>rfl) rfl rfl rfl ⟨rfl,rfl⟩ rfl,okF rfl nofun rfl rfl rfl ⟨rfl,rfl⟩ rfl,okF rfl nofun rfl rfl rfl ⟨rfl,rfl⟩ rfl,⟨rfl,nofun,rfl,rfl,_,rfl,rfl,rfl,bn.of_eq rfl⟩,okF rfl nofun rfl rfl rfl ⟨rfl,rfl⟩ rfl,trivial⟩
 conv=>whnf
 refine⟨⟨⟨_,rfl,.eq rfl⟩,⟨_,rfl,.eq rfl⟩,⟨_,rfl,.eq rfl⟩,⟨_,rfl,.eq rfl⟩,⟨_,rfl,.eq rfl⟩,trivial⟩,rfl,?_⟩
 rintro i hi
 have hrl:(fH (l.take i) (uj (bF l) e)).length=i:=by rw[pJ,List.length_take]; omega
 conv=>whnf
 refine⟨fun h4=>?_,fun h4=>?_⟩
 ·have hi2:i<l.length:=by simpa using h4
  have hfit:=ht.low hi2
  have hrn:=Tv (e:=uj (bF l) e) hi2
  have hv:=(hl.cl i).values
  conv=>whnf
  refine .mk (by first|(simp only[Rw.rng]; omega)|(simp only[okI,Int.toNat_natCast]; omega)) ?_
  conv=>whnf
  refine ah.lend (S.lN (l.getD i default) (uj (bF l) e) hfit (by simp[uj,oC]; exact hn0) hv) ⟨aB _,aaC trivial rfl,trivial⟩ rfl rfl ?_
  conv=>whnf
  repeat(refine VC.mk (by first|(first|(simp only[mD,lH,Rw.len,List.length_cons,List.length_nil,hrl]; omega)|(show((fH (l.take i) (uj (bF l) e)).length+(0+1))*1<=140737488355328/\(fH (l.take i) (uj (bF l) e)).length+(0+1)<=1152921504606846976; omega))|(simp only[okI] at *; first|omega|(simp_all; done)|(simp_all; omega))) ?_; conv=>whnf)
  refine⟨i+1,[0,1,2,9,11,210],by omega,by omega,⟨⟨_,rfl,.eq rfl⟩,⟨_,rfl,.eq rfl⟩,trivial⟩,⟨⟨_,rfl,.eq rfl⟩,⟨_,rfl,.eq rfl⟩,⟨_,rfl,.eq rfl⟩,⟨_,rfl,.eq rfl⟩,⟨_,rfl,.eq rfl⟩,trivial⟩,⟨rfl,(fun _=>rfl),rfl,rfl,_,rfl,rfl,rfl,bn.of_eq rfl⟩,okF rfl (fun _=>rfl) rfl rfl rfl ⟨rfl,rfl⟩ rfl,okF rfl nofun rfl rfl rfl ⟨rfl,rfl⟩ rfl,okF rfl nofun rfl rfl rfl ⟨rfl,rfl⟩ rfl,⟨rfl,nofun,rfl,rfl,_,rfl,rfl,rfl,bn.of_eq rfl⟩,okF rfl nofun rfl rfl rfl ⟨rfl,rfl⟩ ?_,trivial⟩
  rw[hrn]
 ·have hi3:i=l.length:=by have:l.length<=i:=(by simpa using h4); omega
  subst hi3
  rw[List.take_length,ht.row]
  conv=>whnf
  refine .mk (by omega) ?_
  conv=>whnf
  exact iI.AQ (es':=es++[(keyE (bF l) e,fH l e)]) (u:=.row 0 false (.bools (fH l e))) (fun i=>i=12) ⟨bG (Z:=fun i=>i=12) rfl (by decide),YC (Z:=fun i=>i=12) (j:=12) rfl (by decide) rfl rfl,trivial⟩ rfl (JG rfl rfl) ⟨_,ht.cl.elim fun _ hc=>hg.add hc hel,rfl,rfl⟩
abbrev TA(r:Rule)(e:Elem):List V:=Dat.cells (.rule r)++Dat.cells (.elem e)
def CZ(r:Rule)(e:Elem):Bool:=e.counts.getD r.fr.toNat 0==0||(decide (0<=r.read)&&r.read !=e.value)
theorem uY{r:Rule}{e:Elem}:(decide (0<=r.read)&&e.value !=r.read||e.counts.getD r.fr.toNat 0==0)=CZ r e:=by
 unfold CZ
 rw[Bool.or_comm]
 congr 2
 rw[bne,bne,Bool.beq_comm]
theorem S.G5(r:Rule)(e:Elem)(hp:xE e.counts.length r)(h:CZ r e=true):ak Tryz.prog 121 [.agg (TA r e)] (.fK [.row 0 true (.ints []),.bool false]):=by
 obtain⟨f1,f2⟩:=hp.src
 refine ak.of Bd.iZ (by simp) rfl rfl ?_
 conv=>whnf
 repeat(refine VC.mk (by first|exact id|exact fun h=>⟨h,h⟩|(intro h; rw[h]; rfl)|(intro h; simp_all; done)|(simp only[Rw.rng] at *; omega)) ?_; conv=>whnf)
 refine Fork.mk (fun _=>?_) (fun q=>absurd (q.symm.trans (h)) Bool.false_ne_true)
 conv=>whnf
 exact au.eqv rfl
theorem S.PG(r:Rule)(e:Elem)(hp:xE e.counts.length r)(hc:Bl e.counts)(hl:e.counts.length<=6)(h:CZ r e=false)(n:Nat):aN Tryz.prog 121 (V.aT [.agg (TA r e)]) (Hz.aj []) n (fun t hp=>t= .fK [.own n,.bool true]/\hp=Hz.aj [(n,some (jZ (bH e.counts r.fr)))]):=by
 obtain⟨f1,f2⟩:=hp.src
 have hfr:=hc.get (i:=r.fr.toNat) (by omega)
 refine pR.of (nx:=0) (h0:=[]) Bd.iZ (by simp) ⟨_,_,rfl,rfl⟩ rfl rfl ?_
 conv=>whnf
 repeat(refine VC.mk (by first|exact id|exact fun h=>⟨h,h⟩|(intro h; rw[h]; rfl)|(intro h; simp_all; done)|(simp only[Rw.rng] at *; omega)) ?_; conv=>whnf)
 refine Fork.mk (fun q=>absurd (q.symm.trans (h)).symm Bool.false_ne_true) (fun _=>?_)
 conv=>whnf
 conv=>whnf
 refine ah.mkRow (r:=.ints e.counts) (S.xM e.counts false (by omega) (by omega)) ?_
 conv=>whnf
 repeat(refine VC.mk (by first|(simp only[Rw.rng]; omega)|(simp only[okI]; omega)) ?_; conv=>whnf)
 exact iI.one (c:=n) (j:=30) (o:=jZ (bH e.counts r.fr)) (t:=.fK [.own n,.bool true]) rfl rfl rfl nofun (.inr rfl) ⟨rfl,trivial,trivial⟩ (.eq rfl) ⟨rfl,rfl⟩
theorem S.TB(r:Rule)(e:Elem)(hp:xE e.counts.length r)(hc:Bl e.counts)(hl:e.counts.length<=6)(h:CZ r e=false):vM Tryz.prog 121 (V.aT [.agg (TA r e)]) (fun n=>.fK [.own n,.bool true]) (some ⟨3,0,(Rw.ints (bH e.counts r.fr)).aT⟩):=by
 refine⟨V.iq [.agg (TA r e)] rfl,fun _=>⟨rfl,trivial,trivial⟩,(fun ob h=>by cases h; rw[ig]; intro t ht; obtain⟨x,_,rfl⟩:=List.mem_map.1 ht; rfl),(fun ob h=>by cases h; exact fun e=>absurd e (by decide:(0:Nat)≠fF)),fun n=>(S.PG r e hp hc hl h n).mono ?_⟩
 rintro t hp ⟨rfl,rfl⟩
 refine⟨rfl,?_⟩
 rw[bD]; simp[nN,OV.aF,V.aT]; rfl
theorem ah.others{r:Rule}{e:Elem}{h:Hz}{n:Nat}{K:V->Hz->Prop}{KW:Nat->V->Hz->Prop}(hp:xE e.counts.length r)(hc:Bl e.counts)(hl:e.counts.length<=6)(hs:CZ r e=false)(hK:K (.fK [.own n,.bool true]) ((n,some (jZ (bH e.counts r.fr)))::h)):ah Tryz.prog false none 121 [.agg (TA r e)] h n K KW :=
 ah.heap (vM.frame (S.TB r e hp hc hl hs) _ _) (by rintro t hp ⟨rfl,rfl⟩; exact⟨.fK [.own n,.bool true],_,rfl,by rw[bD]; simp[nN,OV.aF,V.aT],hK⟩)
def C9(r:Rule)(e:Elem):Int:=bif decide (r.write>=0) then r.write else e.value
theorem S.KL(r:Rule)(e:Elem)(c:List Int):aN Tryz.prog 122 (V.aT [.agg (TA r e),.own 0]) (Hz.aj [(0,some (jZ c))]) 1 (fun t hp=>t= .agg [.int (C9 r e),.own 0]/\hp=Hz.aj [(0,some (jZ c))]):=by
 refine pR.of (nx:=1) (h0:=[(0,some (jZ c))]) Bd.lC (by simp) ⟨_,_,rfl,rfl⟩ rfl rfl ?_
 conv=>whnf
 refine⟨fun h1=>?_,fun h1=>?_⟩
 ·conv=>whnf
  refine iI.one (c:=0) (j:=0) (o:=jZ c) (t:=.agg [.int (C9 r e),.own 0]) rfl rfl rfl (fun _=>rfl) (.inl rfl) ⟨trivial,rfl,trivial⟩ ?_ ⟨rfl,rfl⟩
  rw[C9,show decide (r.write>=0)=true from h1]; exact .eq rfl
 ·conv=>whnf
  refine iI.one (c:=0) (j:=0) (o:=jZ c) (t:=.agg [.int (C9 r e),.own 0]) rfl rfl rfl (fun _=>rfl) (.inl rfl) ⟨trivial,rfl,trivial⟩ ?_ ⟨rfl,rfl⟩
  rw[C9,show decide (r.write>=0)=false from h1]; exact .eq rfl
def zE:Elem:=⟨0,[]⟩
theorem au.noneE{h:Hz}:au (.fK [.dat (.elem zE),.bool false]) (.fK [.agg [.int 0,.row 0 true .nil],.bool false]) h:=⟨by
 show T.sub _ _ (.fK [.agg [.int 0,.sl 0 false []],.bool false]) (.fK [.agg [.int 0,.sl 0 true []],.bool false])
 simp[T.sub,T.dD]⟩
theorem au.VY{h:Hz}{j:Nat}{v:Int}{l:List Int}{b:Bool}(q:h.get j=some (jZ l)):au (.fK [.dat (.elem ⟨v,l⟩),.bool b]) (.fK [.agg [.int v,.own j],.bool b]) h:=⟨by
 have:=Jo (Z:=fun _=>True) trivial q
 show T.sub _ h.aj (.fK [.agg [.int v,.sl 0 false (l.map T.int)],.bool b]) (.fK [.agg [.int v,.own j],.bool b])
 replace this:T.sub (fun _=>True) h.aj (.sl 0 false (l.map T.int)) (.own j):=this
 simp only[T.sub] at this
 simp only[T.sub,T.dD]
 exact⟨⟨trivial,this,trivial⟩,trivial,trivial⟩⟩
theorem ah.result{r:Rule}{e:Elem}{c:List Int}{h:Hz}{i n:Nat}{K:V->Hz->Prop}{KW:Nat->V->Hz->Prop}(hi:h.get i=some (jZ c))(hn:h.get n=none)(hK:K (.agg [.int (C9 r e),.own i]) ((i,some (jZ c))::h)):ah Tryz.prog false none 122 [.agg (TA r e),.own i] h n K KW:=by
 refine ah.GZ (ts:=[.agg (TA r e),.own 0]) (S.KL r e c) rfl rfl rfl rfl hi hn ?_
 rintro t hp ⟨rfl,rfl⟩
 exact .inl ⟨.agg [.int (C9 r e),.own i],jZ c,rfl,rfl,rfl,hK⟩
theorem S.PI(r:Rule)(e:Elem)(hp:xE e.counts.length r)(hc:Bl e.counts)(hl:e.counts.length<=6)(hk:r.kind=2): ∃ x,ak Tryz.prog 94 [.agg (TA r e)] (.fK [.dat (.elem x),.bool (dK r e).isSome])/\ ∀ y,dK r e=some y->x=y:=by
 obtain⟨d1,d2⟩:=hp.dst
 obtain⟨p1,p2⟩:=hp.adg
 obtain⟨q1,q2⟩:=hp.adh
 have hl1:(bH e.counts r.fr).length=e.counts.length:=by simp[bH]
 have hB:=hc.b.dec (by omega) r.fr
 have hB1:=hB.get (by omega) r.jd.toNat
 have hB2:=hB.dec (by omega) r.jd
 have hB3:=hB2.get (by omega) r.CQ.toNat
 have hB4:=hB2.add (by omega) r.CQ 1 (k:=1) ⟨by omega,by omega⟩
 have hB5:=hB4.get (by omega) r.to.toNat
 cases hs:CZ r e with
 |true =>
  have hf:dK r e=none:=by rw[dK,uY,hs]; rfl
  refine⟨zE,?_,fun y hy=>by rw[hf] at hy; cases hy⟩
  rw[hf]
  refine ak.of Bd.iE (by simp) rfl rfl ?_
  conv=>whnf
  refine ah.pure (S.G5 r e hp hs) rfl ?_
  conv=>whnf
  repeat(refine VC.mk (by first|exact id|(intro h; rw[h]; rfl)|(intro h; simp_all; done)) ?_; conv=>whnf)
  refine Fork.mk (fun _=>?_) (fun q=>absurd (q.symm.trans ((rfl:true=true))) Bool.false_ne_true)
  conv=>whnf
  exact au.noneE
 |false =>
  cases h6:(bH e.counts r.fr).getD r.jd.toNat 0==0 with
  |true =>
   have hf:dK r e=none:=by rw[dK,uY,hs,hk]; simp only[cond_false]; rw[show((2:Int)==1)=false from rfl,show((2:Int)==2)=true from rfl,h6]; rfl
   refine⟨zE,?_,fun y hy=>by rw[hf] at hy; cases hy⟩
   rw[hf]
   refine ak.of Bd.iE (by simp) rfl rfl ?_
   conv=>whnf
   refine ah.others hp hc hl hs ?_
   conv=>whnf
   repeat(refine VC.mk (by first|exact id|(intro h; rw[h]; rfl)|(intro h; (repeat' apply And.intro)<;>first|exact h|omega|(simp only[Rw.lg]; omega)|(simp only[Rw.rng]; omega))) ?_; conv=>whnf)
   refine Fork.mk (fun _=>?_) (fun q=>absurd (q.symm.trans (h6)) Bool.false_ne_true)
   conv=>whnf
   exact au.noneE
  |false =>
   have hf:dK r e=some ⟨C9 r e,kY (kY (bH (bH e.counts r.fr) r.jd) r.CQ 1) r.to 1⟩:=by rw[dK,uY,hs,hk]; simp only[cond_false]; rw[show((2:Int)==1)=false from rfl,show((2:Int)==2)=true from rfl,h6]; rfl
   refine⟨_,?_,fun y hy=>by rw[hf] at hy; exact Option.some.inj hy⟩
   rw[hf]
   refine ak.of Bd.iE (by simp) rfl rfl ?_
   conv=>whnf
   refine ah.others hp hc hl hs ?_
   conv=>whnf
   repeat(refine VC.mk (by first|exact id|(intro h; rw[h]; rfl)|(intro h; (repeat' apply And.intro)<;>first|exact h|omega|(simp only[Rw.lg]; omega)|(simp only[Rw.rng]; omega))) ?_; conv=>whnf)
   refine Fork.mk (fun q=>absurd (q.symm.trans (h6)).symm Bool.false_ne_true) (fun _=>?_)
   conv=>whnf
   repeat(refine VC.mk (by simp only[okI,Rw.rng] at *; omega) ?_; conv=>whnf)
   conv=>whnf
   repeat(refine VC.mk (by first|(simp only[Rw.rng,List.length_set,hl1]; omega)|(simp only[okI,bH,kY] at *; omega)) ?_; conv=>whnf)
   refine ah.result (c:=kY (kY (bH (bH e.counts r.fr) r.jd) r.CQ 1) r.to 1) rfl rfl ?_
   conv=>whnf
   exact au.VY rfl
theorem ach{x:Int}(h:0<=x):decide (x>0)= !(x==0):=by
 by_cases e:x=0
 ·subst e; rfl
 ·rw[beq_eq_false_iff_ne.2 e,decide_eq_true (by omega)]; rfl
theorem S.Nb(r:Rule)(e:Elem)(hr:vN r)(hp:xE e.counts.length r)(hc:Bl e.counts)(hl:e.counts.length<=6)(hk:r.kind=1): ∃ x,ak Tryz.prog 93 [.agg (TA r e)] (.fK [.dat (.elem x),.bool (dK r e).isSome])/\ ∀ y,dK r e=some y->x=y:=by
 obtain⟨d1,d2⟩:=hp.dst
 have hl1:(bH e.counts r.fr).length=e.counts.length:=by simp[bH]
 have hB:=hc.b.dec (by omega) r.fr
 have hB5:=hB.get (by omega) r.to.toNat
 have ha1:=hr.all; have hx1:=hr.ex
 cases hs:CZ r e with
 |true =>
  have hf:dK r e=none:=by rw[dK,uY,hs]; rfl
  refine⟨zE,?_,fun y hy=>by rw[hf] at hy; cases hy⟩
  rw[hf]
  refine ak.of Bd.jF (by simp) rfl rfl ?_
  conv=>whnf
  refine ah.pure (S.G5 r e hp hs) rfl ?_
  conv=>whnf
  refine Fork.mk (fun _=>?_) (fun q=>absurd (q.symm.trans ((rfl:true=true))) Bool.false_ne_true)
  conv=>whnf
  exact au.noneE
 |false =>
  have hpos: ∀ i,0<=(bH e.counts r.fr).getD i 0:=fun i=>Yu hc (by rw[uY]; exact hs) i
  have Z4:dK r e=bif !(vS r (bH e.counts r.fr)) then none else some ⟨C9 r e,kY (bH e.counts r.fr) r.to 1⟩:=by
   rw[dK,uY,hs,hk]; rfl
  refine⟨bif vP r.all (bH e.counts r.fr) (bH e.counts r.fr).length then zE else⟨C9 r e,kY (bH e.counts r.fr) r.to 1⟩,?_,fun y hy=>?_⟩
  rotate_left
  ·rw[Z4] at hy
   cases ha:vS r (bH e.counts r.fr) with
   |false=>rw[ha] at hy; cases hy
   |true =>
    rw[ha] at hy
    have hb:vP r.all (bH e.counts r.fr) (bH e.counts r.fr).length=false:=by
     unfold vS at ha; rw[Bool.and_eq_true] at ha; simpa using ha.1
    rw[hb]; exact Option.some.inj hy
  have hsome:(dK r e).isSome=vS r (bH e.counts r.fr):=by
   rw[Z4]; cases vS r (bH e.counts r.fr)<;>rfl
  rw[hsome]
  refine ak.of Bd.jF (by simp) rfl rfl ?_
  conv=>whnf
  refine ah.others hp hc hl hs ?_
  conv=>whnf
  refine Fork.mk (fun q=>absurd (q.symm.trans ((rfl:false=false))).symm Bool.false_ne_true) (fun _=>?_)
  conv=>whnf
  conv=>whnf
  refine aJ.same [1,2,4,22,23] (fun i:Nat=>[(24,.int i),(6,.bool (Bj r.ex (bH e.counts r.fr) i))]) (fun i=>i<=(bH e.counts r.fr).length/\vP r.all (bH e.counts r.fr) i=false) (fun i=>(bH e.counts r.fr).length-i) 0 rfl (by decide) rfl (fun _=>rfl) ⟨by omega,by simp[vP]⟩ ⟨⟨_,rfl,rfl⟩,⟨_,rfl,by simp[Bj]; rfl⟩,trivial⟩ ?_
  conv=>whnf
  refine⟨rfl,?_⟩
  rintro i ⟨hi,hb⟩
  conv=>whnf
  refine⟨fun h3=>?_,fun h3=>?_⟩
  ·have hi':i<(bH e.counts r.fr).length:=by simpa using h3
   have hbn:=Ph (al:=r.all) (c:=bH e.counts r.fr) (i:=i)
   have hfn:=Pg (ex:=r.ex) (c:=bH e.counts r.fr) (i:=i)
   have hg:=ach (hpos i)
   conv=>whnf
   repeat(refine VC.mk (by first|(simp only[Rw.rng,Int.toNat_natCast]; omega)|exact fun h=>h|exact fun h=>⟨h,h⟩) ?_; conv=>whnf)
   refine ah.fP (fun _=>S.slices_Contains_int r.all i false (by omega)) rfl ?_
   conv=>whnf
   repeat(refine VC.mk id ?_; conv=>whnf)
   refine⟨fun h4=>?_,fun h4=>?_⟩
   ·have h4':(decide (0<(bH e.counts r.fr).getD i 0)&&decide (0<(r.all.length:Int))&& !O9 r.all i)=true:=h4
    rw[Bool.and_assoc,Bool.and_eq_true] at h4'
    have hbl:=VA (al:=r.all) hi' (by have:=hg.symm.trans h4'.1; simpa using this) h4'.2
    rw[hbl,show vS r (bH e.counts r.fr)=false by rw[vS,hbl]; rfl]
    conv=>whnf
    exact au.noneE
   ·have h4':(decide (0<(bH e.counts r.fr).getD i 0)&&decide (0<(r.all.length:Int))&& !O9 r.all i)=false:=h4
    have hb2:vP r.all (bH e.counts r.fr) (i+1)=false:=by
     rw[hbn,hb,Bool.false_or,<- hg,<- h4',Bool.and_assoc]
    conv=>whnf
    repeat(refine VC.mk (by first|exact id|exact fun h=>⟨h,h⟩) ?_; conv=>whnf)
    refine ah.fP (fun _=>S.slices_Contains_int r.ex i false (by omega)) rfl ?_
    conv=>whnf
    repeat(refine VC.mk (by first|(intro h; rw[h]; rfl)|(intro h; simp[h]; done)|(simp only[okI] at *; first|omega|(simp_all; done)|(simp_all; omega))) ?_; conv=>whnf)
    refine⟨i+1,⟨by omega,hb2⟩,by omega,⟨⟨_,rfl,rfl⟩,⟨_,rfl,?_⟩,trivial⟩,?_,rfl⟩
    ·rw[hfn,<- hg]
     rfl
    ·repeat' (first|exact trivial|exact⟨_,rfl,rfl⟩|constructor)
  ·have hi':i=(bH e.counts r.fr).length:=by have:(bH e.counts r.fr).length<=i:=(by simpa using h3); omega
   subst hi'
   rw[hb]
   have hal:vS r (bH e.counts r.fr)=Bj r.ex (bH e.counts r.fr) (bH e.counts r.fr).length:=by rw[vS,hb]; rfl
   rw[hal]
   conv=>whnf
   repeat(refine VC.mk (by first|(simp only[Rw.rng,hl1]; omega)|(simp only[okI,bH,kY] at *; omega)) ?_; conv=>whnf)
   refine ah.result (c:=kY (bH e.counts r.fr) r.to 1) rfl rfl ?_
   conv=>whnf
   exact au.VY rfl
theorem S.FB(r:Rule)(e:Elem)(hp:xE e.counts.length r)(hc:Bl e.counts)(hl:e.counts.length<=6)(hk:r.kind=3): ∃ x,ak Tryz.prog 95 [.agg (TA r e)] (.fK [.dat (.elem x),.bool (dK r e).isSome])/\ ∀ y,dK r e=some y->x=y:=by
 obtain⟨d1,d2⟩:=hp.dst
 obtain⟨rs1,rs2⟩:=hp.rsp hk
 have hl1:(bH e.counts r.fr).length=e.counts.length:=by simp[bH]
 have hB:=hc.b.dec (by omega) r.fr
 cases hs:CZ r e with
 |true =>
  have hf:dK r e=none:=by rw[dK,uY,hs]; rfl
  refine⟨zE,?_,fun y hy=>by rw[hf] at hy; cases hy⟩
  rw[hf]
  refine ak.of Bd.gG (by simp) rfl rfl ?_
  conv=>whnf
  refine ah.pure (S.G5 r e hp hs) rfl ?_
  conv=>whnf
  refine Fork.mk (fun _=>?_) (fun q=>absurd (q.symm.trans ((rfl:true=true))) Bool.false_ne_true)
  conv=>whnf
  exact au.noneE
 |false =>
  have hf:dK r e=some ⟨C9 r e,kY (wo r (bH e.counts r.fr) (bH e.counts r.fr).length) r.to 1⟩:=by rw[dK,uY,hs,hk]; rfl
  refine⟨_,?_,fun y hy=>by rw[hf] at hy; exact Option.some.inj hy⟩
  rw[hf]
  refine ak.of Bd.gG (by simp) rfl rfl ?_
  conv=>whnf
  refine ah.others hp hc hl hs ?_
  conv=>whnf
  refine Fork.mk (fun q=>absurd (q.symm.trans ((rfl:false=false))).symm Bool.false_ne_true) (fun _=>?_)
  conv=>whnf
  conv=>whnf
  have hm:=yS (n:=(bH e.counts r.fr).length) (by have:=hp.src; omega)
  rw[hm]
  conv=>whnf
  refine .mk (by omega) ?_
  conv=>whnf
  refine aJ.objs 60 [1,2,4,20,21] (fun i:Nat=>[(22,.int i),(6,.own 14)]) (fun i=>[(0,.box 119 21 (.agg (TA r e))),(1,.box 55 3 (.agg [.int 0,.row 0 true .nil])),(4,jZ (bH e.counts r.fr)),(14,jZ (wo r (bH e.counts r.fr) i))]) (fun i=>i<=(bH e.counts r.fr).length) (fun i=>(bH e.counts r.fr).length-i) 0 [0,1,4,14] rfl (by decide) (fun _=>rfl) (Nat.zero_le _) ?_ ?_ ?_
  ·exact⟨⟨_,rfl,.eq rfl⟩,⟨_,rfl,.eq rfl⟩,trivial⟩
  ·exact⟨⟨rfl,nofun,rfl,rfl,rfl,_,rfl,rfl,rfl,bn.of_eq rfl⟩,⟨rfl,nofun,rfl,rfl,rfl,_,rfl,rfl,rfl,bn.of_eq rfl⟩,⟨rfl,nofun,rfl,rfl,rfl,_,rfl,rfl,rfl,bn.of_eq rfl⟩,⟨rfl,nofun,rfl,rfl,rfl,_,rfl,rfl,rfl,bn.of_eq rfl⟩,trivial⟩
  conv=>whnf
  refine⟨⟨⟨_,rfl,.eq rfl⟩,⟨_,rfl,.eq rfl⟩,⟨_,rfl,.eq rfl⟩,⟨_,rfl,.eq rfl⟩,⟨_,rfl,.eq rfl⟩,trivial⟩,rfl,?_⟩
  rintro i hi
  have Ar:(i:Int)*1048577<=6*1048577:=Int.mul_le_mul_of_nonneg_right (by omega) (by omega)
  have hn0:0<=(i:Int)*1048577:=Int.mul_nonneg (by omega) (by omega)
  have hRB:=aay hB (by omega) (r:=r) i
  have hRl:(wo r (bH e.counts r.fr) i).length=e.counts.length:=by rw[CS,hl1]
  conv=>whnf
  refine⟨fun g1=>?_,fun g1=>?_⟩
  ·have hi':i<(bH e.counts r.fr).length:=by simpa using g1
   have hir:i<r.response.length:=by omega
   obtain⟨q1,q2⟩:0<=r.response.getD i 0/\r.response.getD i 0<e.counts.length:=by
    rw[show r.response.getD i 0=r.response[i] by simp[hir]]; exact rs2 _ (List.getElem_mem hir)
   have hR1:=hRB.get hn0 (r.response.getD i 0).toNat
   have hR2:=hB.get (by omega) i
   conv=>whnf
   repeat(refine VC.mk (by first|(first|(simp only[Rw.rng,CS]; omega)|(simp only[okI,bH,kY,Int.toNat_natCast] at *; omega))|(simp only[Rw.rng] at *; first|omega|(simp_all; done)|(simp_all; omega))) ?_; conv=>whnf)
   refine⟨i+1,[0,1,4,14],by omega,by omega,⟨⟨_,rfl,.eq rfl⟩,⟨_,rfl,.eq rfl⟩,trivial⟩,⟨⟨_,rfl,.eq rfl⟩,⟨_,rfl,.eq rfl⟩,⟨_,rfl,.eq rfl⟩,⟨_,rfl,.eq rfl⟩,⟨_,rfl,.eq rfl⟩,trivial⟩,⟨rfl,nofun,rfl,rfl,rfl,_,rfl,rfl,rfl,bn.of_eq rfl⟩,⟨rfl,nofun,rfl,rfl,rfl,_,rfl,rfl,rfl,bn.of_eq rfl⟩,⟨rfl,nofun,rfl,rfl,rfl,_,rfl,rfl,rfl,bn.of_eq rfl⟩,⟨rfl,nofun,rfl,rfl,rfl,_,rfl,rfl,rfl,bn.of_eq ?_⟩,trivial⟩
   rw[zM]; rfl
  have hi':i=(bH e.counts r.fr).length:=by have:(bH e.counts r.fr).length<=i:=(by simpa using g1); omega
  subst hi'
  have hR1:=hRB.get hn0 r.to.toNat
  conv=>whnf
  repeat(refine VC.mk (by first|(simp only[Rw.rng,CS]; omega)|(simp only[okI,bH,kY,Int.toNat_natCast] at *; omega)) ?_; conv=>whnf)
  refine ah.result (c:=kY (wo r (bH e.counts r.fr) (bH e.counts r.fr).length) r.to 1) rfl rfl ?_
  conv=>whnf
  exact au.VY rfl
def Ei(k:Int):FuncId:=bif k==1 then 93 else bif k==2 then 94 else 95
theorem S.kN(k:Int):ak Tryz.prog 64 [.int k] (.fn (Ei k) []):=by
 refine ak.of Bd.kN (by simp) rfl rfl ?_
 conv=>whnf
 refine⟨fun h1=>?_,fun h1=>?_⟩
 ·conv=>whnf
  refine au.eqv ?_
  rw[Ei,show(k==1)=true from h1]; rfl
 ·conv=>whnf
  refine⟨fun h2=>?_,fun h2=>?_⟩
  ·conv=>whnf
   refine au.eqv ?_
   rw[Ei,show(k==1)=false from h1,show(k==2)=true from h2]; rfl
  ·conv=>whnf
   refine au.eqv ?_
   rw[Ei,show(k==1)=false from h1,show(k==2)=false from h2]; rfl
theorem S.apply(r:Rule)(e:Elem)(hr:vN r)(hp:xE e.counts.length r)(hc:Bl e.counts)(hl:e.counts.length<=6)(hk:r.kind=1\/r.kind=2\/r.kind=3): ∃ x,ak Tryz.prog (Ei r.kind) [.agg (TA r e)] (.fK [.dat (.elem x),.bool (dK r e).isSome])/\ ∀ y,dK r e=some y->x=y:=by
 rcases hk with h|h|h
 ·rw[show Ei r.kind=93 by rw[Ei,h]; rfl]; exact S.Nb r e hr hp hc hl h
 ·rw[show Ei r.kind=94 by rw[Ei,h]; rfl]; exact S.PI r e hp hc hl h
 ·rw[show Ei r.kind=95 by rw[Ei,h]; rfl]; exact S.FB r e hp hc hl h
def Ej(l:List Bool):Int:=bif decide (l.findIdx (fun b=> !b)<l.length) then(l.findIdx (fun b=> !b):Nat) else -1
theorem KN{l:List Bool}{i:Nat}(h:(l.take i).all id=true)(hi:i<=l.length):l.findIdx (fun b=> !b)=i+(l.drop i).findIdx (fun b=> !b):=by
 induction i generalizing l with
 |zero=>simp
 |succ i ih =>
  cases l with
  |nil=>simp at hi
  |cons b l =>
   simp only[List.take_succ_cons,List.all_cons,id,Bool.and_eq_true] at h
   rw[List.findIdx_cons,h.1,List.drop_succ_cons]
   simp only[Bool.not_true,cond_false]
   rw[ih h.2 (by simpa using hi)]; omega
theorem S.G6(l:List Bool)(f:Bool)(hl:l.length<2^30):ak Tryz.prog 65 [.row 0 f (.bools l),.bool false] (.int (Ej l)):=by
 refine ak.of Bd.kP (by simp) rfl rfl ?_
 conv=>whnf
 refine aJ.same [0,1,6,7] (fun i:Nat=>[(8,.int i)]) (fun i=>i<=l.length/\(l.take i).all id=true) (fun i=>l.length-i) 0 rfl (by decide) rfl (fun _=>rfl) ⟨by omega,by simp⟩ ⟨⟨_,rfl,rfl⟩,trivial⟩ ?_
 conv=>whnf
 refine⟨rfl,?_⟩
 rintro i ⟨hi,hall⟩
 have hfd:=KN hall hi
 conv=>whnf
 refine⟨fun h3=>?_,fun h3=>?_⟩
 ·have hi':i<l.length:=by simpa using h3
  rw[aY false hi',List.findIdx_cons] at hfd
  conv=>whnf
  refine .mk (by simp only[Rw.rng] at *; first|omega|(simp_all; done)|(simp_all; omega)) ?_
  conv=>whnf
  refine⟨fun h4=>?_,fun h4=>?_⟩
  ·have h4':l.getD i false=false:=by
    have h5:(false==l.getD i false)=true:=h4
    cases hb:l.getD i false with
    |false=>rfl
    |true=>rw[hb] at h5; cases h5
   conv=>whnf
   refine au.int ?_
   rw[h4'] at hfd
   have aaH:l.findIdx (fun b=> !b)=i:=hfd
   rw[Ej,aaH,decide_eq_true hi']; rfl
  ·have h4':l.getD i false=true:=by
    have h5:(false==l.getD i false)=false:=h4
    cases hb:l.getD i false with
    |true=>rfl
    |false=>rw[hb] at h5; cases h5
   conv=>whnf
   refine .mk (by simp only[okI] at *; first|omega|(simp_all; done)|(simp_all; omega)) ?_
   conv=>whnf
   refine⟨i+1,⟨by omega,?_⟩,by omega,⟨⟨_,rfl,rfl⟩,trivial⟩,?_,rfl⟩
   ·rw[nG (d:=false) hi' hall]; exact h4'
   ·repeat' (first|exact trivial|exact⟨_,rfl,rfl⟩|constructor)
 ·have hi':l.length<=i:=by simpa using h3
  rw[List.drop_eq_nil_of_le hi'] at hfd
  have aaH:l.findIdx (fun b=> !b)=i:=hfd
  conv=>whnf
  refine au.int ?_
  rw[Ej,aaH,decide_eq_false (by omega)]; rfl
theorem S.kC(l:List Bool)(n:Nat)(f g:Bool)(hl:l.length<2^30)(hn:l.length<=n):ak Tryz.prog 54 [.row 0 f (.bools l),.row 0 g (.bools (List.replicate n false))] (.bool (l.all id)):=by
 refine ak.of Bd.kC (by simp) rfl rfl ?_
 conv=>whnf
 refine aJ.same [1,7,8] (fun i:Nat=>[(9,.int i)]) (fun i=>i<=l.length/\(l.take i).all id=true) (fun i=>l.length-i) 0 rfl (by decide) rfl (fun _=>rfl) ⟨by omega,by simp⟩ ⟨⟨_,rfl,rfl⟩,trivial⟩ ?_
 conv=>whnf
 refine⟨rfl,?_⟩
 rintro i ⟨hi,hall⟩
 conv=>whnf
 refine⟨fun h3=>?_,fun h3=>?_⟩
 ·have hi':i<l.length:=by simpa using h3
  have hd:(List.replicate n false).getD i false=false:=by simp[List.getD_eq_getElem?_getD,show i<n by omega]
  conv=>whnf
  repeat(refine VC.mk (by first|(first|(intro _; simp only[Rw.rng,List.length_replicate]; omega)|(simp only[Rw.rng,List.length_replicate]; omega))|exact fun h=>h|(simp only[Rw.rng] at *; first|omega|(simp_all; done)|(simp_all; omega))) ?_; conv=>whnf)
  refine⟨fun h4=>?_,fun h4=>?_⟩
  ·have h4':l.getD i false=false:=by
    have h5:(!(l.getD i false)&& !((List.replicate n false).getD i false))=true:=h4
    rw[hd] at h5; simpa using h5
   conv=>whnf
   exact au.bool (mM (p:=id) (d:=false) hi' h4')
  ·have h4':l.getD i false=true:=by
    have h5:(!(l.getD i false)&& !((List.replicate n false).getD i false))=false:=h4
    rw[hd] at h5; simpa using h5
   conv=>whnf
   refine .mk (by simp only[okI] at *; first|omega|(simp_all; done)|(simp_all; omega)) ?_
   conv=>whnf
   refine⟨i+1,⟨by omega,?_⟩,by omega,⟨⟨_,rfl,rfl⟩,trivial⟩,?_,rfl⟩
   ·rw[nG (d:=false) hi' hall]; exact h4'
   ·repeat' (first|exact trivial|exact⟨_,rfl,rfl⟩|constructor)
 ·have hi':l.length<=i:=by simpa using h3
  rw[List.take_of_length_le hi'] at hall
  conv=>whnf
  exact au.bool hall
theorem Dc(l:List Clause):T.dH (l.map nX)=true:=by
 rw[ig]; intro t ht; obtain⟨x,_,rfl⟩:=List.mem_map.1 ht; rfl
abbrev Sv(l:List Clause):OV:=.row 36 4 (.clauses l) []
theorem QM{h:Hz}{j:Nat}{l:List Clause}{Z:Nat->Prop}(hz:Z j)(q:h.get j=some (Sv l)):T.sub Z h.aj (V.row 4 false (.clauses l)).aG (V.own j).aG:=by
 show T.sub Z h.aj (.sl 4 false (l.map nX)) (.own j)
 simp only[T.sub]
 refine⟨trivial,hz,Dc l,by decide,36,?_⟩
 have:=aH q; simpa [OV.aF,Rw.aT,V.aT] using this
theorem au.YD{h:Hz}{j:Nat}{l:List Clause}(q:h.get j=some (Sv l)):au (.row 4 false (.clauses l)) (.own j) h:=⟨QM trivial q⟩
theorem S.iw(l a:List Clause)(f g:Bool)(hl:l.length<2^20)(ha:a.length<2^20):ak Tryz.prog 30 [.row 4 f (.clauses l),.row 4 g (.clauses a)] (.row 4 false (.clauses (l++a))):=by
 refine ak.of Bd.iw (by simp) rfl rfl ?_
 conv=>whnf
 refine .mk (by simp only[Rw.lg]; omega) ?_
 conv=>whnf
 rw[show decide ((l.length:Int)=l.length)=true from decide_eq_true rfl]
 conv=>whnf
 have ht:(l.take (l.length:Int).toNat)=l:=List.take_length
 have hcap:mD 72 (Rw.take (l.length:Int).toNat (Rw.clauses l)).len (lH (Rw.clauses a) []):=by
  show((l.take (l.length:Int).toNat).length+(a.length+0))*72<=140737488355328/\(l.take (l.length:Int).toNat).length+(a.length+0)<=1152921504606846976
  rw[ht]; omega
 by_cases ha0:a=[]
 ·subst ha0
  refine PK.both hcap ?_ ⟨rfl,?_⟩
  ·conv=>whnf
   refine au.YD ?_
   show some (Sv (l.take (l.length:Int).toNat++[]))=_
   rw[ht]
  ·conv=>whnf
   refine au.row ?_
   show Rw.clauses (l++[])=Rw.clauses (l.take (l.length:Int).toNat)
   rw[ht,List.append_nil]
 ·refine PK.one ⟨.inr ?_,hcap⟩ ?_
  ·have:=List.length_pos_iff.2 ha0
   show 0<a.length+0; omega
  ·conv=>whnf
   refine au.YD ?_
   show some (Sv (l.take (l.length:Int).toNat++a))=_
   rw[ht]
def JI(b:Int)(c:List Int):Prop:= ∀ x∈c,0<=x/\x<=b
theorem JI.g{b:Int}{c:List Int}(h:JI b c)(hb:0<=b)(i:Nat):0<=c.getD i 0/\c.getD i 0<=b:=by
 by_cases hi:i<c.length
 ·rw[show c.getD i 0=c[i] by simp[hi]]; exact h _ (List.getElem_mem hi)
 ·rw[show c.getD i 0=0 by simp[List.getD_eq_getElem?_getD,List.getElem?_eq_none (by omega:c.length<=i)]]; omega
theorem JI.add{b k d i:Int}{c:List Int}(h:JI b c)(hb:0<=b)(hd:0<=d/\d<=k):JI (b+k) (kY c i d):=by
 intro x hx
 have hg:=h.g hb i.toNat
 rcases List.mem_or_eq_of_mem_set hx with hx|rfl
 ·have:=h x hx; omega
 ·omega
theorem JI.dec{b i:Int}{c:List Int}(h:JI b c)(hb:0<=b)(h0:(c.getD i.toNat 0==0)=false):JI b (bH c i):=by
 intro x hx
 have hg:=h.g hb i.toNat
 have:=beq_eq_false_iff_ne.1 h0
 rcases List.mem_or_eq_of_mem_set hx with hx|rfl
 ·exact h x hx
 ·omega
theorem JI.resp{b:Int}{c:List Int}{r:Rule}(h:JI b c)(hb:0<=b): ∀ i:Nat,JI (i*b) (wo r c i):=by
 intro i
 induction i with
 |zero=>intro x hx; have:=List.eq_of_mem_replicate hx; subst this; simp
 |succ i ih =>
  rw[zM]
  have h0:0<=(i:Int)*b:=Int.mul_nonneg (by omega) hb
  have:=ih.add h0 (h.g hb i) (i:=r.response.getD i 0)
  have e:((i+1:Nat):Int)*b=i*b+b:=by rw[Int.natCast_succ,Int.add_mul,Int.one_mul]
  rw[e]; exact this
theorem JI.mono{b k:Int}{c:List Int}(h:JI b c)(hk:b<=k):JI k c:=fun x hx=>by have:=h x hx; omega
theorem YE{r:Rule}{e x:Elem}(hc:JI 8 e.counts)(hl:e.counts.length<=6)(h:dK r e=some x):Bl x.counts:=by
 have lift: ∀ {c:List Int} {v:Int},JI 100 c->some (⟨v,kY c r.to 1⟩:Elem)=some x->Bl x.counts:=by
  intro c v hc h; cases h
  exact(hc.add (k:=1) (by omega) ⟨by omega,by omega⟩).mono (by omega)
 unfold dK at h
 cases hs:(decide (0<=r.read)&&e.value !=r.read||e.counts.getD r.fr.toNat 0==0) with
 |true=>rw[hs] at h; cases h
 |false =>
  rw[hs] at h
  rw[Bool.or_eq_false_iff] at hs
  have h1:JI 8 (bH e.counts r.fr):=hc.dec (by omega) hs.2
  simp only[cond_false] at h
  rcases gU h with h|h
  ·rcases gU h with h|h
   ·cases h
   ·exact lift (h1.mono (by omega)) h
  ·cases hp:(bH e.counts r.fr).getD r.jd.toNat 0==0 with
   |true =>
    rw[hp] at h
    rcases gU h with h|h
    ·cases h
    ·rcases gU h with h|h
     ·refine lift ((h1.resp (by omega) (r:=r) (bH e.counts r.fr).length).mono ?_) h
      rw[qN]
      have:(e.counts.length:Int)*8<=6*8:=Int.mul_le_mul_of_nonneg_right (by omega) (by omega)
      omega
     ·exact lift (h1.mono (by omega)) h
   |false =>
    rw[hp] at h
    rcases gU h with h|h
    ·exact lift (((h1.dec (by omega) hp).add (k:=1) (by omega) ⟨by omega,by omega⟩).mono (by omega)) h
    ·rcases gU h with h|h
     ·refine lift ((h1.resp (by omega) (r:=r) (bH e.counts r.fr).length).mono ?_) h
      rw[qN]
      have:(e.counts.length:Int)*8<=6*8:=Int.mul_le_mul_of_nonneg_right (by omega) (by omega)
      omega
     ·exact lift (h1.mono (by omega)) h
theorem VZ{r:Rule}{e x:Elem}(h:dK r e=some x):x.value=C9 r e:=by
 have lift: ∀ {c:List Int},some (⟨bif decide (r.write>=0) then r.write else e.value,c⟩:Elem)=some x->x.value=C9 r e:=by
  intro c h; cases h; rfl
 unfold dK at h
 rcases gU h with h|h
 ·cases h
 rcases gU h with h|h
 ·rcases gU h with h|h
  ·cases h
  ·exact lift h
 rcases gU h with h|h
 ·rcases gU h with h|h
  ·cases h
  ·exact lift h
 rcases gU h with h|h
 ·exact lift h
 ·exact lift h
theorem Nc: ∀ {l:List Int},vT l=true->l.Pairwise (· < ·):=by
 intro l
 induction l with
 |nil=>intro _; exact List.Pairwise.nil
 |cons x r ih =>
  intro h
  cases r with
  |nil=>exact List.pairwise_singleton _ _
  |cons y r =>
   simp only[vT,Bool.and_eq_true,decide_eq_true_eq] at h
   have h2:=ih h.2
   refine List.pairwise_cons.2 ⟨fun z hz=>?_,h2⟩
   rcases List.mem_cons.1 hz with rfl|hz
   ·exact h.1
   ·have:=(List.pairwise_cons.1 h2).1 z hz; omega
theorem PL{l:List Int}{n:Nat}(h:dU l n=0):EY n l:=by
 refine⟨zN h,Nc ?_⟩
 unfold dU at h
 cases ha:l.any fun i=>ou i n with
 |true=>rw[ha] at h; cases h
 |false =>
  rw[ha] at h
  cases hi:vT l with
  |true=>rfl
  |false=>rw[hi] at h; cases h
theorem Jl{p:aU}{k:Clause}(h:uX p k=0):yG p.states.length p.values.length k:=by
 unfold uX at h
 obtain⟨h1,h⟩:=bz (fun _=>by decide) h
 obtain⟨h2,h⟩:=bz nz h
 obtain⟨h3,h4⟩:=bz nz h
 refine⟨by have:=of_decide_eq_false h1; omega,fun s hs=>?_,PL (by simpa using h3),PL h4⟩
 have:=gY (by simpa using h2) (nK p.states.length s) (List.mem_map.2 ⟨s,hs,rfl⟩)
 unfold nK at this
 obtain⟨g1,g2⟩:=bz nz this
 refine⟨PL (by simpa using g1),fun e=>?_⟩
 subst e; exact absurd g2 (by decide)
structure fB(n vals:Nat)(l:List Clause):Prop where
 cl: ∀ k∈l,yG n vals k
 len:l.length<=1000
theorem y5{p:aU}{l:List Clause}(h:jg p l=0):fB p.states.length p.values.length l/\l.length<=160:=by
 unfold jg at h
 obtain⟨h1,h⟩:=bz (fun _=>by decide) h
 have h1':l.length<=160:=by have:=of_decide_eq_false h1; omega
 exact⟨⟨fun k hk=>Jl (gY h _ (List.mem_map.2 ⟨k,hk,rfl⟩)),by omega⟩,h1'⟩
theorem yG.small{n vals:Nat}{k:Clause}(h:yG n vals k)(hn:n<=6)(hv:vals<=3):o9 k:=by
 have h1:=h.two
 have h2:=h.values.len
 have h3:=h.some.len
 refine⟨by omega,fun i=>?_,by omega,by omega⟩
 by_cases hi:i<k.each.length
 ·have:=(h.each _ (getM (d:=[]) hi)).1.len; omega
 ·rw[show k.each.getD i []=[] by simp[List.getD_eq_getElem?_getD,List.getElem?_eq_none (by omega:k.each.length<=i)]]; decide
theorem fB.small{n vals:Nat}{l:List Clause}(h:fB n vals l)(hn:n<=6)(hv:vals<=3):SmallK l:=by
 have:=h.len
 refine⟨by omega,fun i=>?_⟩
 by_cases hi:i<l.length
 ·exact(h.cl _ (getM hi)).small hn hv
 ·rw[show l.getD i default=default by simp[List.getD_eq_getElem?_getD,List.getElem?_eq_none (by omega:l.length<=i)]]
  exact⟨by decide,fun i=>by show(([]:List (List Int)).getD i []).length<2^30; rw[List.getD_nil]; decide,by decide,by decide⟩
theorem fB.tab{n vals:Nat}{l:List Clause}{e:Elem}(h:fB n vals l)(hl:e.counts.length=n)(hc:Bl e.counts)(hn0:0<n)(Ar:n<=6)(hv:0<=e.value/\e.value<=1048576):IZ l e :=
 ⟨⟨vals,by rw[hl]; exact h.cl⟩,hc,⟨by omega,by omega⟩,hv⟩
theorem yx.nn{b n vals:Nat}{e:Elem}(h:yx b n vals e)(hb:b<=9):JI 8 e.counts:=fun x hx=>by have:=h.rng x hx; omega
theorem yx.Bl{b n vals:Nat}{e:Elem}(h:yx b n vals e)(hb:b<=9):Bl e.counts:=fun x hx=>by have:=h.rng x hx; omega
theorem fB.at{n vs vals:Nat}{l:List Clause}{b:Nat}{e:Elem}(h:fB n vs l)(he:yx b n vals e)(hb:b<=9)(hv:vals<=3)(hn0:0<n)(Ar:n<=6):IZ l e :=
 h.tab he.len (he.Bl hb) hn0 Ar ⟨he.val.1,by have:=he.val.2; omega⟩
theorem fB.app{n vals:Nat}{l a:List Clause}(h:fB n vals l)(g:fB n vals a)(hs:l.length+a.length<=1000):fB n vals (l++a) :=
 ⟨fun k hk=>(List.mem_append.1 hk).elim (h.cl k) (g.cl k),by rw[List.length_append]; exact hs⟩
theorem fB.fit{n vs:Nat}{l:List Clause}{e:Elem}(h:fB n vs l)(hl:e.counts.length=n)(hc:Bl e.counts)(Ar:n<=6)(hv:vs<=3){i:Nat}(hi:i<l.length):S9 (l.getD i default) e/\(l.getD i default).values.length<2^30:=by
 have hk:=h.cl _ (getM (d:=default) hi)
 refine⟨⟨⟨vs,by rw[hl]; exact hk⟩,hc,by omega⟩,?_⟩
 have:=hk.values.len; omega
end Go.Proofs.YtbfhebmdcpmfaaaGreatDoor
