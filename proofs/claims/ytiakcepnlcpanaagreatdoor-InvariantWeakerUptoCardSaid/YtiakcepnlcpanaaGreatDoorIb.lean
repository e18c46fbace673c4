/-
 A part of the proof. No condition.
-/
import Derived.Test.YtiakcepnlcpanaaGreatDoorIa
namespace Go.Proofs.YtiakcepnlcpanaaGreatDoor
open Go.Ab Go.Proofs
set_option maxRecDepth 100000
theorem S.OL(l:List Int)(f:Bool)(h0:0<l.length)(hl:l.length<2^30)(n:Nat):aF Tryz.prog 57 (V.aS [.row 0 f (.ints l)]) (Hz.aj []) n (fun t hp=>t= .own n/\hp=Hz.aj [(n,some (jK l))]):=by
 refine lV.of (nx:=0) (h0:=[]) Bd.jw (by simp) ⟨_,_,rfl,rfl⟩ rfl rfl ?_
 conv=>whnf
 refine U8.mk (fun hz=>?_) ?_
 ·exact absurd (show l.length=0 from hz) (by omega)
 ·conv=>whnf
  refine Fork.mk (fun q=>absurd (q.symm.trans ((rfl:false=false))).symm Bool.false_ne_true) (fun _=>?_)
  conv=>whnf
  refine .mk (by simp only[oQ,og,Rw.len]; omega) ?_
  conv=>whnf
  repeat(refine VC.mk (by simp only[oQ,og,Rw.len]; omega) ?_; conv=>whnf)
  exact fV.one (c:=n) (o:=jK l) (t:=.own n) rfl rfl rfl nofun (.inr rfl) rfl (.eq rfl) ⟨rfl,rfl⟩
theorem S.wX(l:List Int)(f:Bool)(h0:0<l.length)(hl:l.length<2^30):uy Tryz.prog 57 (V.aS [.row 0 f (.ints l)]) (fun n=>.own n) (some ⟨3,0,(Rw.ints l).aS⟩):=by
 refine⟨V.gY [.row 0 f (.ints l)] rfl,fun _=>rfl,(fun ob h=>by cases h; rw[fJ]; intro t ht; obtain⟨x,_,rfl⟩:=List.mem_map.1 ht; rfl),(fun ob h=>by cases h; exact fun e=>absurd e (by decide:(0:Nat)≠fF)),fun n=>(S.OL l f h0 hl n).mono ?_⟩
 rintro t hp ⟨rfl,rfl⟩
 refine⟨rfl,?_⟩
 rw[aZ]; simp[ng,OV.aG,V.aS]; rfl
abbrev hF(c:List Int):Hz:=[(1,some (.box 24 0 (.own 0))),(0,some (jK c))]
theorem fV.ofF{c:List Int}{h:Hz}{n:Nat}{v:V}{post:T->Hp->Prop}(q0:h.get 0=some (jK c))(q1:h.get 1=some (.box 24 0 (.own 0)))(hv:v.free=true)(hp:post v.aH (hF c).aj):fV (hF c) n post v h:=by
 refine fV.Oo (h2:=hF c) (u:=v) (fun _=>False) ⟨dn (Z:=fun _=>False) q1 (fun q=>q),dn (Z:=fun _=>False) q0 (fun q=>q),trivial⟩ ?_ hv (aC _) hp
 intro i o ho
 have hG:=kG (show qP 2 (hF c)=true from rfl) i o.aG (aJ ho)
 refine⟨by rw[aJ ho]; rfl,T.ak (fun i hi=>?_) _ hG.2.1,hG.2.2⟩
 match i,hi with
 |0,_=>rfl
 |1,_=>rfl
 |k+2,hk=>exact absurd hk (by omega)
theorem S.XQ(c:List Int)(x:Int)(hx:0<=x/\x<c.length)(hc:c.length<2^30)(n:Nat):aF Tryz.prog 75 (V.aS [.int x,.ptr 1 0 0]) (hF c).aj n (fun t hp=>t= .bool (decide (c.getD x.toNat 0>0))/\hp=(hF c).aj):=by
 refine lV.of (nx:=2) Bd.oW (by simp) ⟨_,_,rfl,rfl⟩ rfl rfl ?_
 conv=>whnf
 repeat(refine VC.mk (by simp only[Rw.rng]; omega) ?_; conv=>whnf)
 exact fV.ofF rfl rfl rfl ⟨rfl,rfl⟩
def JZ(c:List Int):List Int->Nat->Int
 |[],_=> -1
 |x::r,i=>bif decide (c.getD x.toNat 0>0) then(i:Int) else JZ c r (i+1)
theorem XR{c l:List Int}:decide (0<=JZ c l 0)=l.any fun x=>decide (c.getD x.toNat 0>0):=by
 have: ∀ {l:List Int} {i:Nat},0<=JZ c l i↔(l.any fun x=>decide (c.getD x.toNat 0>0))=true:=by
  intro l
  induction l with
  |nil=>intro i; simp[JZ]
  |cons x r ih =>
   intro i
   rw[List.any_cons,Bool.or_eq_true,<- ih (i:=i+1)]
   show(0:Int)<=(bif decide (c.getD x.toNat 0>0) then(i:Int) else JZ c r (i+1))↔_
   generalize decide (c.getD x.toNat 0>0)=b
   cases b<;>simp
 rw[Bool.eq_iff_iff,decide_eq_true_eq]; exact this
theorem S.OM(c l:List Int)(f:Bool)(hl:l.length<2^30)(hp:rC c.length l)(hc:c.length<2^30)(n:Nat):aF Tryz.prog 103 (V.aS [.row 0 f (.ints l),.fn 75 [.ptr 1 0 0]]) (hF c).aj n (fun t hp=>t= .int (JZ c l 0)/\hp=(hF c).aj):=by
 refine lV.of (nx:=2) Bd.jF (by simp) ⟨_,_,rfl,rfl⟩ rfl rfl ?_
 conv=>whnf
 refine aU.same [0,1,6,7] (fun i:Nat=>[(8,.int i)]) (fun i=>i<=l.length/\JZ c l 0=JZ c (l.drop i) i) (fun i=>l.length-i) 0 rfl (by decide) rfl (fun _=>rfl) ⟨by omega,by simp⟩ ⟨⟨_,rfl,rfl⟩,trivial⟩ ?_
 conv=>whnf
 refine⟨rfl,?_⟩
 rintro i ⟨hi,hall⟩
 conv=>whnf
 refine⟨fun h3=>?_,fun h3=>?_⟩
 ·have hi':i<l.length:=by simpa using h3
  rw[cO 0 hi'] at hall
  simp only[JZ] at hall
  conv=>whnf
  refine .mk (by simp only[Rw.rng] at *; first|omega|(simp_all; done)|(simp_all; omega)) ?_
  conv=>whnf
  refine ah.heap (S.XQ c (l.getD i 0) (hp _ (getM hi')) hc _) ?_
  rintro t hp ⟨rfl,rfl⟩
  refine⟨.bool _,hF c,rfl,rfl,?_⟩
  conv=>whnf
  refine⟨fun h4=>?_,fun h4=>?_⟩
  ·conv=>whnf
   rw[h4] at hall
   exact fV.ofF rfl rfl rfl ⟨by rw[hall]; rfl,rfl⟩
  ·conv=>whnf
   refine .mk (by simp only[okI] at *; first|omega|(simp_all; done)|(simp_all; omega)) ?_
   conv=>whnf
   rw[h4] at hall
   refine⟨i+1,⟨by omega,hall⟩,by omega,⟨⟨_,rfl,rfl⟩,trivial⟩,?_,rfl⟩
   repeat' (first|exact trivial|exact⟨_,rfl,rfl⟩|constructor)
 ·conv=>whnf
  have hi':l.length<=i:=by simpa using h3
  rw[List.drop_eq_nil_of_le hi'] at hall
  exact fV.ofF rfl rfl rfl ⟨by rw[hall]; rfl,rfl⟩
theorem S.Iq(c l:List Int)(f:Bool)(hl:l.length<2^30)(hp:rC c.length l)(hc:c.length<2^30)(n:Nat):aF Tryz.prog 74 (V.aS [.row 0 f (.ints l),.fn 75 [.ptr 1 0 0]]) (hF c).aj n (fun t hp=>t= .bool (sW [] l c)/\hp=(hF c).aj):=by
 refine lV.of (nx:=2) Bd.iM (by simp) ⟨_,_,rfl,rfl⟩ rfl rfl ?_
 conv=>whnf
 refine ah.heap (S.OM c l f hl hp hc _) ?_
 rintro t hp ⟨rfl,rfl⟩
 refine⟨.int _,hF c,rfl,rfl,?_⟩
 conv=>whnf
 exact fV.ofF rfl rfl rfl ⟨by rw[show sW [] l c=_ from XR.symm]; rfl,rfl⟩
theorem Sv{c:List Int}{x:Int}(hx:0<=x/\x<c.length):((iL c x).set x.toNat ((iL c x).getD x.toNat 0+1))=c:=by
 have hlt:x.toNat<c.length:=by omega
 have e:(iL c x).getD x.toNat 0=c.getD x.toNat 0-1:=by
  have:=Bv (c:=c) (b:=x) hx hx.1
  simpa using this
 rw[e,Int.sub_add_cancel]
 unfold iL
 rw[List.set_set]
 refine List.ext_getElem (by simp) fun i h1 h2=>?_
 rw[List.getElem_set]
 split
 ·rename_i e; subst e; simp[hlt]
 ·rfl
theorem S.kH(l:List Int)(g:Bool)(hl:l.length<2^30): ∀ (each:List (List Int)) (c:List Int) (f:Bool),each.length<2^30->c.length<2^30->Dk c->rC c.length l->(∀ s∈each,rC c.length s/\s.length<2^30)->(each.length:Int)<=2->aF Tryz.prog 56 (V.aS [.row 0 f (.mZ each),.row 0 g (.ints l),.own 0]) (Hz.aj [(0,some (jK c))]) 1 (fun t hp=>t= .bool (sW each l c)/\hp=Hz.aj [(0,some (jK c))]):=by
 intro each
 induction each with
 |nil =>
  intro c f he hc hb hp hs h2
  refine lV.of (nx:=1) (h0:=[(0,some (jK c))]) Bd.kH (by simp) ⟨_,_,rfl,rfl⟩ rfl rfl ?_
  conv=>whnf
  refine Fork.mk (fun _=>?_) (fun q=>absurd (q.symm.trans ((rfl:true=true))) Bool.false_ne_true)
  conv=>whnf
  refine ah.heap (S.Iq c l g hl hp hc _) ?_
  rintro t hp' ⟨rfl,rfl⟩
  refine⟨.bool _,hF c,rfl,rfl,?_⟩
  conv=>whnf
  exact fV.same (nx:=1) rfl ⟨rfl,trivial⟩ rfl rfl ⟨rfl,rfl⟩
 |cons s each ih =>
  intro c f he hc hb hp hs h2
  refine lV.of (nx:=1) (h0:=[(0,some (jK c))]) Bd.kH (by simp) ⟨_,_,rfl,rfl⟩ rfl rfl ?_
  conv=>whnf
  refine Fork.mk (fun q=>absurd (q.symm.trans ((rfl:false=false))).symm Bool.false_ne_true) (fun _=>?_)
  conv=>whnf
  refine .mk (by simp only[Rw.rng] at *; first|omega|(simp_all; done)|(simp_all; omega)) ?_
  conv=>whnf
  conv=>whnf
  obtain⟨hs1,hs2⟩:=hs s (by simp)
  refine aU.Et 2 [0,1,5,18,19] (fun i:Nat=>[(20,.int i)]) (fun _=>[(1,.box 24 0 (.own 0)),(0,jK c)]) (fun i=>i<=s.length/\(s.take i).all (fun x=>c.getD x.toNat 0==0||sW each l (iL c x))=true) (fun i=>s.length-i) 0 [1,0] rfl (by decide) (fun _=>rfl) ⟨by omega,by simp⟩ ?_ ?_ ?_
  ·exact⟨⟨_,rfl,.eq rfl⟩,trivial⟩
  ·exact⟨⟨rfl,nofun,rfl,rfl,_,rfl,rfl,rfl,bG.of_eq rfl⟩,okF rfl (fun _=>rfl) rfl rfl rfl ⟨rfl,rfl⟩ rfl,trivial⟩
  conv=>whnf
  refine⟨⟨⟨_,rfl,.eq rfl⟩,⟨_,rfl,.eq rfl⟩,⟨_,rfl,.eq rfl⟩,⟨_,rfl,.eq rfl⟩,⟨_,rfl,.eq rfl⟩,trivial⟩,rfl,?_⟩
  rintro i ⟨hi,hall⟩
  conv=>whnf
  refine⟨fun h3=>?_,fun h3=>?_⟩
  ·have hi':i<s.length:=by simpa using h3
   obtain⟨p1,p2⟩:=hs1 _ (getM (d:=0) hi')
   have hg:=hb.g (s.getD i 0).toNat
   have hnext:=nZ (d:=0) hi' hall
   have abN:=fun h=>pO (p:=fun x=>c.getD x.toNat 0==0||sW each l (iL c x)) (d:=0) hi' h
   conv=>whnf
   repeat(refine VC.mk (by simp only[Rw.rng] at *; first|omega|(simp_all; done)|(simp_all; omega)) ?_; conv=>whnf)
   refine⟨fun h4=>?_,fun h4=>?_⟩
   ·have h4':(c.getD (s.getD i 0).toNat 0==0)=true:=h4
    conv=>whnf
    refine .mk (by simp only[okI] at *; first|omega|(simp_all; done)|(simp_all; omega)) ?_
    conv=>whnf
    refine⟨i+1,[1,0],⟨by omega,?_⟩,by omega,⟨⟨_,rfl,.eq rfl⟩,trivial⟩,⟨⟨_,rfl,.eq rfl⟩,⟨_,rfl,.eq rfl⟩,⟨_,rfl,.eq rfl⟩,⟨_,rfl,.eq rfl⟩,⟨_,rfl,.eq rfl⟩,trivial⟩,⟨rfl,nofun,rfl,rfl,_,rfl,rfl,rfl,bG.of_eq rfl⟩,okF rfl (fun _=>rfl) rfl rfl rfl ⟨rfl,rfl⟩ rfl,trivial⟩
    rw[hnext,h4']; rfl
   have h4':(c.getD (s.getD i 0).toNat 0==0)=false:=h4
   have hnz:c.getD (s.getD i 0).toNat 0≠0:=beq_eq_false_iff_ne.1 h4'
   conv=>whnf
   repeat(refine VC.mk (by first|(first|(simp only[Rw.rng,Int.toNat_natCast]; omega)|(simp only[okI,Int.toNat_natCast]; omega)|(simp only[Rw.qN,List.length_cons]; omega))|(simp only[okI,Rw.rng] at *; first|omega|(simp_all; done)|(simp_all; omega))) ?_; conv=>whnf)
   refine ah.Dq (i:=0) (ts:=[.row 0 f (.mZ each),.row 0 g (.ints l),.own 0]) (ih (iL c (s.getD i 0)) f (by simp only[List.length_cons] at he; omega) (by simp only[iL,List.length_set]; exact hc) ?_ (by simp only[iL,List.length_set]; exact hp) (fun t ht=>by simp only[iL,List.length_set]; exact hs t (List.mem_cons_of_mem _ ht)) (by simp only[List.length_cons] at h2; omega)) (by rfl) (by rfl) (by rfl) (by rfl) (by rfl) (by rfl) ?_
   ·intro x hx
    have:=List.mem_or_eq_of_mem_set hx
    rcases this with h|rfl
    ·exact hb x h
    ·omega
   rintro t hp' ⟨rfl,rfl⟩
   refine .inl ⟨.bool _,jK (iL c (s.getD i 0)),rfl,rfl,rfl,?_⟩
   have htg:(iL c (s.getD i 0)).getD (s.getD i 0).toNat 0=c.getD (s.getD i 0).toNat 0-1:=by
    have:=Bv (c:=c) (b:=s.getD i 0) ⟨p1,p2⟩ p1
    simpa using this
   have hbk:=Sv (c:=c) ⟨p1,p2⟩
   have hr2:Rw.rng ((s.getD i 0).toNat:Int) (.ints (iL c (s.getD i 0))):=⟨by omega,by simp only[iL,List.length_set]; omega⟩
   conv=>whnf
   repeat(refine VC.mk (by first|exact hr2|(exact⟨p1,by simp only[iL,List.length_set]; exact p2⟩)|(show okI ((iL c (s.getD i 0)).getD (s.getD i 0).toNat 0+1); rw[htg]; simp only[okI]; omega)) ?_; conv=>whnf)
   refine⟨fun h5=>?_,fun h5=>?_⟩
   ·have h5':sW each l (iL c (s.getD i 0))=false:=by simpa using h5
    conv=>whnf
    refine fV.same (nx:=1) rfl ⟨congrArg (fun l=>some (jK l)) hbk,trivial⟩ rfl rfl ⟨?_,rfl⟩
    rw[show sW (s::each) l c=false from abN (by rw[h4',h5']; rfl)]; rfl
   ·have h5':sW each l (iL c (s.getD i 0))=true:=by simpa using h5
    conv=>whnf
    refine .mk (by simp only[okI,Rw.rng] at *; first|omega|(simp_all; done)|(simp_all; omega)) ?_
    conv=>whnf
    refine⟨i+1,[1,0],⟨by omega,?_⟩,by omega,⟨⟨_,rfl,.eq rfl⟩,trivial⟩,⟨⟨_,rfl,.eq rfl⟩,⟨_,rfl,.eq rfl⟩,⟨_,rfl,.eq rfl⟩,⟨_,rfl,.eq rfl⟩,⟨_,rfl,.eq rfl⟩,trivial⟩,⟨rfl,nofun,rfl,rfl,_,rfl,rfl,rfl,bG.of_eq rfl⟩,okF rfl (fun _=>rfl) rfl rfl rfl ⟨rfl,rfl⟩ ?_,trivial⟩
    ·rw[hnext,h5',Bool.or_true]
    ·exact congrArg (fun l=>(jK l).aG.l) hbk.symm
  ·have hi':s.length<=i:=by simpa using h3
   rw[List.take_of_length_le hi'] at hall
   conv=>whnf
   exact fV.same (nx:=1) rfl ⟨rfl,trivial⟩ rfl rfl ⟨by rw[show sW (s::each) l c=true from hall]; rfl,rfl⟩
theorem ah.Z4{P:Program}{f:FuncId}{args:List V}{h:Hz}{n ty k:Nat}{r:Rw}{K:V->Hz->Prop}{KW:Nat->V->Hz->Prop}(H:uy P f (V.aS args) (fun n=>.own n) (some ⟨ty,k,r.aS⟩))(hn:h.get n=none)(hK:KW 0 (.own n) ((n,some (.row ty k r []))::h)):ah P true none f args h n K KW :=
 ⟨.inr (.inr ⟨rfl,rfl,hn,(uy.frame H _ _).mono (by rintro t hp ⟨rfl,rfl⟩; exact⟨.own n,_,rfl,by rw[aZ]; simp[ng,OV.aG,V.aS],hK⟩)⟩)⟩
theorem S.jH(k:Clause)(e:Elem)(h:ZY k e)(h0:0<e.counts.length)(hk:k.values.length<2^30):au Tryz.prog 30 [.dat (.clause k),.dat (.elem e)] (.bool (holdsB k e)):=by
 obtain⟨⟨vals,hcl⟩,hok,hln⟩:=h
 have hS:=hcl.some.len
 have h2:=hcl.two
 refine au.of Bd.jH (by simp) rfl rfl ?_
 conv=>whnf
 repeat(refine VC.mk (by first|exact id|exact fun h=>⟨h,h⟩) ?_; conv=>whnf)
 refine ah.nY (fun _=>S.slices_Contains_int k.values e.value false (by omega)) rfl ?_
 conv=>whnf
 repeat(refine VC.mk id ?_; conv=>whnf)
 refine⟨fun h1=>?_,fun h1=>?_⟩
 ·conv=>whnf
  exact aA.bool (by rw[holdsB,show U9 k e.value=true from h1]; rfl)
 have hfree:U9 k e.value=false:=h1
 conv=>whnf
 refine ah.Z4 (r:=.ints e.counts) (S.wX e.counts false h0 (by omega)) rfl ?_
 conv=>whnf
 refine ah.Dq (ts:=[.row 0 false (.mZ k.each),.row 0 false (.ints k.some),.own 0]) (S.kH k.some false (by omega) k.each e.counts false (by omega) (by omega) hok hcl.some.place (fun s hs=>⟨(hcl.each s hs).1.place,by have:=(hcl.each s hs).1.len; omega⟩) (by omega)) (by rfl) (by rfl) (by rfl) (by rfl) (by rfl) (by rfl) ?_
 rintro t hp' ⟨rfl,rfl⟩
 refine .inl ⟨.bool _,jK e.counts,rfl,rfl,rfl,?_⟩
 conv=>whnf
 exact aA.bool (by rw[holdsB,hfree]; rfl)
theorem Sz{α:Type}{P Q:List α}{x z:α}{k:Nat}(h:k=P.length):(P++x::Q).set k z=P++z::Q:=by
 subst h; simp
theorem Vj{α:Type}{P Q:List α}{x d:α}{k:Nat}(h:k=P.length):(P++x::Q).getD k d=x:=by
 subst h; simp
theorem Jd(l:List Int):T.pG (Rw.ints l).aS=true:=by
 show T.pG (l.map T.int)=true
 induction l with
 |nil=>rfl
 |cons s r ih=>simp only[List.map_cons,T.pG,ih]; rfl
set_option maxHeartbeats 2000000 in
theorem S.dX(p:aW)(n vals m:Nat)(_hp:dI p)(hn:p.states.length=n)(hn0:0<n)(Dl:n<=6)(hvs:max 1 p.values.length=vals)(nJ:vals<=3)(hm8:m<=8) :
  au Tryz.prog 45 [.dat (.eU p),.int m] (.row 3 false (.elems (gI (m+1) n vals))):=by
 have hb0:0<m+1:=by omega
 have h46:(m+1)^n<=531441:=wW (by omega) Dl
 refine au.of Bd.dX (by simp) rfl rfl ?_
 conv=>whnf
 refine aU.nil 5 38 3 (by rfl) rfl rfl rfl ?_
 refine aU.objs 2 [1,2,12] (fun v:Nat=>[(13,.int v),(5,.own 1)]) (fun v=>[(0,.box 27 11 (.dat (.eU p))),(1,jE (gI (m+1) n v))]) (fun v=>v<=vals) (fun v=>vals-v) 0 [0,8] rfl (by decide) (fun _=>rfl) (Nat.zero_le _) ?_ ?_ ?_
 ·exact⟨⟨_,rfl,.eq rfl⟩,⟨_,rfl,.eq rfl⟩,trivial⟩
 ·exact⟨⟨rfl,nofun,rfl,rfl,rfl,_,rfl,rfl,rfl,bG.of_eq rfl⟩,⟨rfl,nofun,rfl,rfl,rfl,_,rfl,rfl,rfl,bG.of_eq rfl⟩,trivial⟩
 conv=>whnf
 refine⟨⟨⟨_,rfl,.eq rfl⟩,⟨_,rfl,.eq rfl⟩,⟨_,rfl,.eq rfl⟩,trivial⟩,rfl,?_⟩
 rintro v hv
 have hrl:(gI (m+1) n v).length=v*((m+1)^n-1):=tq
 have hr2:v*((m+1)^n-1)<=3*531441:=Nat.mul_le_mul (by omega) (by omega)
 conv=>whnf
 refine⟨fun h3=>?_,fun h3=>?_⟩
 ·have hv':v<vals:=by
   have:(v:Int)<max 1 (p.values.length:Int):=of_decide_eq_true h3
   omega
  conv=>whnf
  have hm:=yc (n:=p.states.length) (by omega)
  rw[hm]
  conv=>whnf
  refine .mk (by omega) ?_
  conv=>whnf
  refine aU.Zj 3 [1,2,6,12,13] (fun u:Nat=>[(5,.own 1),(7,.own 2)]) (fun u=>[(0,.box 27 11 (.dat (.eU p))),(1,jE (gI (m+1) n v++vg (m+1) n v u)),(2,jK (jC (m+1) n u))]) (fun u=>u<(m+1)^n) (fun u=>(m+1)^n-u) 0 [0,1,8] [(0,some (.box 27 11 (.dat (.eU p)))),(1,some (jE (gI (m+1) n v))),(8,some (jK (List.replicate p.states.length 0)))] rfl (by decide) (fun _=>rfl) (Nat.pow_pos hb0) ?_ ?_ ?_ ?_
  ·exact⟨⟨_,rfl,.eq rfl⟩,⟨_,rfl,.eq rfl⟩,trivial⟩
  ·exact⟨fun _=>False,dn (Z:=fun _=>False) rfl (fun q=>q),dn (Z:=fun _=>False) rfl (fun q=>q),dn (Z:=fun _=>False) rfl (fun q=>q),trivial⟩
  ·exact⟨okF rfl nofun rfl rfl rfl ⟨rfl,rfl⟩ rfl,okF rfl nofun rfl rfl rfl ⟨rfl,rfl⟩ (by simp[vg]),okF rfl nofun rfl rfl rfl ⟨rfl,rfl⟩ (by rw[Du hb0,hn]),trivial⟩
  conv=>whnf
  refine⟨⟨⟨_,rfl,.eq rfl⟩,⟨_,rfl,.eq rfl⟩,⟨_,rfl,.eq rfl⟩,⟨_,rfl,.eq rfl⟩,⟨_,rfl,.eq rfl⟩,trivial⟩,rfl,?_⟩
  rintro u hu
  have hdl:(jC (m+1) n u).length=n:=fK
  conv=>whnf
  refine .mk (by first|(simp only[okI,fK]; omega)|omega) ?_
  conv=>whnf
  refine aU.objs 3 [1,2,6,12,13] (fun k:Nat=>[(8,.int ((n:Int)-1-k)),(5,.own 1),(7,.own 2)]) (fun k=>[(0,.box 27 11 (.dat (.eU p))),(1,jE (gI (m+1) n v++vg (m+1) n v u)),(2,jK (rJ (m+1) n u k))]) (fun k=>k<=n/\u+1=(u / (m+1)^k+1)*(m+1)^k) (fun k=>n-k) 0 [0,1,2] rfl (by decide) (fun _=>rfl) ⟨Nat.zero_le _,by simp⟩ ?_ ?_ ?_
  ·refine⟨⟨_,rfl,.eq ?_⟩,⟨_,rfl,.eq rfl⟩,⟨_,rfl,.eq rfl⟩,trivial⟩
   show T.int ((n:Int)-1-((0:Nat):Int))=T.int (((jC (m+1) n u).length:Int)-1)
   rw[fK]; exact congrArg T.int (by omega)
  ·refine⟨⟨rfl,nofun,rfl,rfl,rfl,_,rfl,rfl,rfl,bG.of_eq rfl⟩,⟨rfl,nofun,rfl,rfl,rfl,_,rfl,rfl,rfl,bG.of_eq rfl⟩,⟨rfl,nofun,rfl,rfl,rfl,_,rfl,rfl,rfl,bG.of_eq ?_⟩,trivial⟩
   rw[F6]
  conv=>whnf
  refine⟨⟨⟨_,rfl,.eq rfl⟩,⟨_,rfl,.eq rfl⟩,⟨_,rfl,.eq rfl⟩,⟨_,rfl,.eq rfl⟩,⟨_,rfl,.eq rfl⟩,trivial⟩,rfl,?_⟩
  rintro k ⟨hk,hvk⟩
  have hbl:=I9 (b:=m+1) (v:=u) hk
  have hcell:k<n->(rJ (m+1) n u k).getD (n-1-k) 0=((u / (m+1)^k % (m+1):Nat):Int):=fun hkn=>by
   rw[oh hkn]; exact Vj (by rw[fK]; omega)
  have hti:((n:Int)-1-k).toNat=n-1-k:=by omega
  conv=>whnf
  repeat(refine VC.mk (by first|exact id|exact fun h=>⟨h,h⟩|(intro h; (repeat' apply And.intro)<;>first|exact h|omega|(simp only[Rw.qN]; omega)|(simp only[Rw.rng]; omega))|(simp only[Rw.rng] at *; first|omega|(simp_all; done)|(simp_all; omega))) ?_; conv=>whnf)
  refine⟨fun h6=>?_,fun h6=>?_⟩
  ·rw[Bool.and_eq_true] at h6
   have hkn:k<n:=by have:=of_decide_eq_true h6.1; omega
   have h3:u / (m+1)^k % (m+1)+1=m+1:=by
    have:=beq_iff_eq.1 h6.2
    rw[hti,hcell hkn] at this; omega
   conv=>whnf
   repeat(refine VC.mk (by first|(simp only[okI]; omega)|(simp only[Rw.rng,hbl]; omega)) ?_; conv=>whnf)
   refine⟨k+1,[0,1,2],⟨by omega,F8 hb0 h3 hvk⟩,by omega,⟨⟨_,rfl,.eq ?_⟩,⟨_,rfl,.eq rfl⟩,⟨_,rfl,.eq rfl⟩,trivial⟩,⟨⟨_,rfl,.eq rfl⟩,⟨_,rfl,.eq rfl⟩,⟨_,rfl,.eq rfl⟩,⟨_,rfl,.eq rfl⟩,⟨_,rfl,.eq rfl⟩,trivial⟩,⟨rfl,nofun,rfl,rfl,rfl,_,rfl,rfl,rfl,bG.of_eq rfl⟩,⟨rfl,nofun,rfl,rfl,rfl,_,rfl,rfl,rfl,bG.of_eq rfl⟩,⟨rfl,nofun,rfl,rfl,rfl,_,rfl,rfl,rfl,bG.of_eq ?_⟩,trivial⟩
   ·show T.int ((n:Int)-1-((k+1:Nat):Int))=T.int ((n:Int)-1-(k:Int)-1)
    exact congrArg T.int (by omega)
   ·rw[hti,F7 hkn,oh hkn,Sz (by rw[fK]; omega)]
  conv=>whnf
  refine⟨fun h7=>?_,fun h7=>?_⟩
  ·have hkn:k=n:=by have:=of_decide_eq_true h7; omega
   subst hkn
   have hlast:=L8 hu hvk
   have hu':u=(m+1)^k-1:=by omega
   rw[hu',<- Dv]
   conv=>whnf
   refine .mk (by first|(simp only[okI]; omega)|omega) ?_
   conv=>whnf
   refine⟨v+1,[0,1],by omega,by omega,⟨⟨_,rfl,.eq rfl⟩,⟨_,rfl,.eq rfl⟩,trivial⟩,⟨⟨_,rfl,.eq rfl⟩,⟨_,rfl,.eq rfl⟩,⟨_,rfl,.eq rfl⟩,trivial⟩,⟨rfl,nofun,rfl,rfl,rfl,_,rfl,rfl,rfl,bG.of_eq rfl⟩,⟨rfl,nofun,rfl,rfl,rfl,_,rfl,rfl,rfl,bG.of_eq rfl⟩,trivial⟩
  ·have hkn:k<n:=by have:=of_decide_eq_false h7; omega
   have h3:u / (m+1)^k % (m+1)+1≠m+1:=by
    rw[Bool.and_eq_false_iff] at h6
    rcases h6 with h6|h6
    ·have:=of_decide_eq_false h6; omega
    ·intro e
     have h6':((rJ (m+1) n u k).getD ((n:Int)-1-k).toNat 0==(m:Int))=false:=h6
     rw[hti,hcell hkn] at h6'
     exact beq_eq_false_iff_ne.1 h6' (by omega)
   have hlt4:u / (m+1)^k % (m+1)<m+1:=Nat.mod_lt _ hb0
   have hc0:=hcell hkn
   have huv:(gI (m+1) n v++vg (m+1) n v u).length<=4*531441:=by rw[List.length_append,F9]; omega
   have hinc:=Ja hb0 hkn h3 hvk
   have hset:(rJ (m+1) n u k).set (n-1-k) (((u / (m+1)^k % (m+1):Nat):Int)+1)=jC (m+1) n (u+1):=by
    rw[<- hinc,oh hkn,Sz (by rw[fK]; omega)]
   conv=>whnf
   repeat(refine VC.mk (by first|(simp only[okI,hti,hc0]; omega)|(simp only[Rw.rng,hbl]; omega)) ?_; conv=>whnf)
   rw[hti,hc0,hset]
   refine ah.J3 (r:=.ints (jC (m+1) n (u+1))) (S.wX (jC (m+1) n (u+1)) false (by rw[fK]; omega) (by rw[fK]; omega)) (And.intro (FU trivial rfl) trivial) (Jd _) ?_
   conv=>whnf
   refine .mk (by first|(show((gI (m+1) n v++vg (m+1) n v u).length+(0+1))*32<=140737488355328/\(gI (m+1) n v++vg (m+1) n v u).length+(0+1)<=1152921504606846976; omega)|(simp only[oQ,og,Rw.len,List.length_cons,List.length_nil,fK]; omega)) ?_
   conv=>whnf
   refine⟨[(0,some (.box 27 11 (.dat (.eU p)))),(28,some (jE ((gI (m+1) n v++vg (m+1) n v u)++[⟨(v:Int),jC (m+1) n (u+1)⟩]))),(2,some (jK (jC (m+1) n (u+1))))],u+1,[0,28,2],⟨fun i=>i=25,dn (Z:=fun i=>i=25) (i:=0) rfl (by decide),Md (Z:=fun i=>i=25) (i:=28) (j:=25) rfl (by decide) rfl rfl,dn (Z:=fun i=>i=25) (i:=2) rfl (by decide),trivial⟩,QA hb0 hkn hu h3 hvk,by omega,⟨⟨_,rfl,.eq rfl⟩,⟨_,rfl,.eq rfl⟩,trivial⟩,⟨⟨_,rfl,.eq rfl⟩,⟨_,rfl,.eq rfl⟩,⟨_,rfl,.eq rfl⟩,⟨_,rfl,.eq rfl⟩,⟨_,rfl,.eq rfl⟩,trivial⟩,okF rfl nofun rfl rfl rfl ⟨rfl,rfl⟩ rfl,okF rfl nofun rfl rfl rfl ⟨rfl,rfl⟩ ?_,okF rfl nofun rfl rfl rfl ⟨rfl,rfl⟩ rfl,trivial⟩
   rw[Jb,<- List.append_assoc]
 ·have hv':v=vals:=by
   have: ¬ (v:Int)<max 1 (p.values.length:Int):=of_decide_eq_false h3
   omega
  rw[hv']
  conv=>whnf
  exact aA.acZ rfl
set_option maxHeartbeats 2000000 in
theorem S.SA(z:Nat)(p:aW)(n vals m:Nat)(_hp:dI p)(hn:p.states.length=n)(hn0:0<n)(Dl:n<=6)(hvs:max 1 p.values.length=vals)(nJ:vals<=3)(hm8:m<=8) :
  aF Tryz.prog 45 (V.aS [.dat (.eU p),.int m]) (Hz.aj []) z (fun t hp=>t= .own z/\hp=Hz.aj [(z,some (jE (gI (m+1) n vals)))]):=by
 have hb0:0<m+1:=by omega
 have h46:(m+1)^n<=531441:=wW (by omega) Dl
 refine lV.of (nx:=0) (h0:=[]) Bd.dX (by simp) ⟨_,_,rfl,rfl⟩ rfl rfl ?_
 conv=>whnf
 refine aU.nil 5 38 3 (by rfl) rfl rfl rfl ?_
 refine aU.objs 2 [1,2,12] (fun v:Nat=>[(13,.int v),(5,.own 1)]) (fun v=>[(0,.box 27 11 (.dat (.eU p))),(1,jE (gI (m+1) n v))]) (fun v=>v<=vals) (fun v=>vals-v) 0 [0,8] rfl (by decide) (fun _=>rfl) (Nat.zero_le _) ?_ ?_ ?_
 ·exact⟨⟨_,rfl,.eq rfl⟩,⟨_,rfl,.eq rfl⟩,trivial⟩
 ·exact⟨⟨rfl,nofun,rfl,rfl,rfl,_,rfl,rfl,rfl,bG.of_eq rfl⟩,⟨rfl,nofun,rfl,rfl,rfl,_,rfl,rfl,rfl,bG.of_eq rfl⟩,trivial⟩
 conv=>whnf
 refine⟨⟨⟨_,rfl,.eq rfl⟩,⟨_,rfl,.eq rfl⟩,⟨_,rfl,.eq rfl⟩,trivial⟩,rfl,?_⟩
 rintro v hv
 have hrl:(gI (m+1) n v).length=v*((m+1)^n-1):=tq
 have hr2:v*((m+1)^n-1)<=3*531441:=Nat.mul_le_mul (by omega) (by omega)
 conv=>whnf
 refine⟨fun h3=>?_,fun h3=>?_⟩
 ·have hv':v<vals:=by
   have:(v:Int)<max 1 (p.values.length:Int):=of_decide_eq_true h3
   omega
  conv=>whnf
  have hm:=yc (n:=p.states.length) (by omega)
  rw[hm]
  conv=>whnf
  refine .mk (by omega) ?_
  conv=>whnf
  refine aU.Zj 3 [1,2,6,12,13] (fun u:Nat=>[(5,.own 1),(7,.own 2)]) (fun u=>[(0,.box 27 11 (.dat (.eU p))),(1,jE (gI (m+1) n v++vg (m+1) n v u)),(2,jK (jC (m+1) n u))]) (fun u=>u<(m+1)^n) (fun u=>(m+1)^n-u) 0 [0,1,8] [(0,some (.box 27 11 (.dat (.eU p)))),(1,some (jE (gI (m+1) n v))),(8,some (jK (List.replicate p.states.length 0)))] rfl (by decide) (fun _=>rfl) (Nat.pow_pos hb0) ?_ ?_ ?_ ?_
  ·exact⟨⟨_,rfl,.eq rfl⟩,⟨_,rfl,.eq rfl⟩,trivial⟩
  ·exact⟨fun _=>False,dn (Z:=fun _=>False) rfl (fun q=>q),dn (Z:=fun _=>False) rfl (fun q=>q),dn (Z:=fun _=>False) rfl (fun q=>q),trivial⟩
  ·exact⟨okF rfl nofun rfl rfl rfl ⟨rfl,rfl⟩ rfl,okF rfl nofun rfl rfl rfl ⟨rfl,rfl⟩ (by simp[vg]),okF rfl nofun rfl rfl rfl ⟨rfl,rfl⟩ (by rw[Du hb0,hn]),trivial⟩
  conv=>whnf
  refine⟨⟨⟨_,rfl,.eq rfl⟩,⟨_,rfl,.eq rfl⟩,⟨_,rfl,.eq rfl⟩,⟨_,rfl,.eq rfl⟩,⟨_,rfl,.eq rfl⟩,trivial⟩,rfl,?_⟩
  rintro u hu
  have hdl:(jC (m+1) n u).length=n:=fK
  conv=>whnf
  refine .mk (by first|(simp only[okI,fK]; omega)|omega) ?_
  conv=>whnf
  refine aU.objs 3 [1,2,6,12,13] (fun k:Nat=>[(8,.int ((n:Int)-1-k)),(5,.own 1),(7,.own 2)]) (fun k=>[(0,.box 27 11 (.dat (.eU p))),(1,jE (gI (m+1) n v++vg (m+1) n v u)),(2,jK (rJ (m+1) n u k))]) (fun k=>k<=n/\u+1=(u / (m+1)^k+1)*(m+1)^k) (fun k=>n-k) 0 [0,1,2] rfl (by decide) (fun _=>rfl) ⟨Nat.zero_le _,by simp⟩ ?_ ?_ ?_
  ·refine⟨⟨_,rfl,.eq ?_⟩,⟨_,rfl,.eq rfl⟩,⟨_,rfl,.eq rfl⟩,trivial⟩
   show T.int ((n:Int)-1-((0:Nat):Int))=T.int (((jC (m+1) n u).length:Int)-1)
   rw[fK]; exact congrArg T.int (by omega)
  ·refine⟨⟨rfl,nofun,rfl,rfl,rfl,_,rfl,rfl,rfl,bG.of_eq rfl⟩,⟨rfl,nofun,rfl,rfl,rfl,_,rfl,rfl,rfl,bG.of_eq rfl⟩,⟨rfl,nofun,rfl,rfl,rfl,_,rfl,rfl,rfl,bG.of_eq ?_⟩,trivial⟩
   rw[F6]
  conv=>whnf
  refine⟨⟨⟨_,rfl,.eq rfl⟩,⟨_,rfl,.eq rfl⟩,⟨_,rfl,.eq rfl⟩,⟨_,rfl,.eq rfl⟩,⟨_,rfl,.eq rfl⟩,trivial⟩,rfl,?_⟩
  rintro k ⟨hk,hvk⟩
  have hbl:=I9 (b:=m+1) (v:=u) hk
  have hcell:k<n->(rJ (m+1) n u k).getD (n-1-k) 0=((u / (m+1)^k % (m+1):Nat):Int):=fun hkn=>by
   rw[oh hkn]; exact Vj (by rw[fK]; omega)
  have hti:((n:Int)-1-k).toNat=n-1-k:=by omega
  conv=>whnf
  repeat(refine VC.mk (by first|exact id|exact fun h=>⟨h,h⟩|(intro h; (repeat' apply And.intro)<;>first|exact h|omega|(simp only[Rw.qN]; omega)|(simp only[Rw.rng]; omega))|(simp only[Rw.rng] at *; first|omega|(simp_all; done)|(simp_all; omega))) ?_; conv=>whnf)
  refine⟨fun h6=>?_,fun h6=>?_⟩
  ·rw[Bool.and_eq_true] at h6
   have hkn:k<n:=by have:=of_decide_eq_true h6.1; omega
   have h3:u / (m+1)^k % (m+1)+1=m+1:=by
    have:=beq_iff_eq.1 h6.2
    rw[hti,hcell hkn] at this; omega
   conv=>whnf
   repeat(refine VC.mk (by first|(simp only[okI]; omega)|(simp only[Rw.rng,hbl]; omega)) ?_; conv=>whnf)
   refine⟨k+1,[0,1,2],⟨by omega,F8 hb0 h3 hvk⟩,by omega,⟨⟨_,rfl,.eq ?_⟩,⟨_,rfl,.eq rfl⟩,⟨_,rfl,.eq rfl⟩,trivial⟩,⟨⟨_,rfl,.eq rfl⟩,⟨_,rfl,.eq rfl⟩,⟨_,rfl,.eq rfl⟩,⟨_,rfl,.eq rfl⟩,⟨_,rfl,.eq rfl⟩,trivial⟩,⟨rfl,nofun,rfl,rfl,rfl,_,rfl,rfl,rfl,bG.of_eq rfl⟩,⟨rfl,nofun,rfl,rfl,rfl,_,rfl,rfl,rfl,bG.of_eq rfl⟩,⟨rfl,nofun,rfl,rfl,rfl,_,rfl,rfl,rfl,bG.of_eq ?_⟩,trivial⟩
   ·show T.int ((n:Int)-1-((k+1:Nat):Int))=T.int ((n:Int)-1-(k:Int)-1)
    exact congrArg T.int (by omega)
   ·rw[hti,F7 hkn,oh hkn,Sz (by rw[fK]; omega)]
  conv=>whnf
  refine⟨fun h7=>?_,fun h7=>?_⟩
  ·have hkn:k=n:=by have:=of_decide_eq_true h7; omega
   subst hkn
   have hlast:=L8 hu hvk
   have hu':u=(m+1)^k-1:=by omega
   rw[hu',<- Dv]
   conv=>whnf
   refine .mk (by first|(simp only[okI]; omega)|omega) ?_
   conv=>whnf
   refine⟨v+1,[0,1],by omega,by omega,⟨⟨_,rfl,.eq rfl⟩,⟨_,rfl,.eq rfl⟩,trivial⟩,⟨⟨_,rfl,.eq rfl⟩,⟨_,rfl,.eq rfl⟩,⟨_,rfl,.eq rfl⟩,trivial⟩,⟨rfl,nofun,rfl,rfl,rfl,_,rfl,rfl,rfl,bG.of_eq rfl⟩,⟨rfl,nofun,rfl,rfl,rfl,_,rfl,rfl,rfl,bG.of_eq rfl⟩,trivial⟩
  ·have hkn:k<n:=by have:=of_decide_eq_false h7; omega
   have h3:u / (m+1)^k % (m+1)+1≠m+1:=by
    rw[Bool.and_eq_false_iff] at h6
    rcases h6 with h6|h6
    ·have:=of_decide_eq_false h6; omega
    ·intro e
     have h6':((rJ (m+1) n u k).getD ((n:Int)-1-k).toNat 0==(m:Int))=false:=h6
     rw[hti,hcell hkn] at h6'
     exact beq_eq_false_iff_ne.1 h6' (by omega)
   have hlt4:u / (m+1)^k % (m+1)<m+1:=Nat.mod_lt _ hb0
   have hc0:=hcell hkn
   have huv:(gI (m+1) n v++vg (m+1) n v u).length<=4*531441:=by rw[List.length_append,F9]; omega
   have hinc:=Ja hb0 hkn h3 hvk
   have hset:(rJ (m+1) n u k).set (n-1-k) (((u / (m+1)^k % (m+1):Nat):Int)+1)=jC (m+1) n (u+1):=by
    rw[<- hinc,oh hkn,Sz (by rw[fK]; omega)]
   conv=>whnf
   repeat(refine VC.mk (by first|(simp only[okI,hti,hc0]; omega)|(simp only[Rw.rng,hbl]; omega)) ?_; conv=>whnf)
   rw[hti,hc0,hset]
   refine ah.J3 (r:=.ints (jC (m+1) n (u+1))) (S.wX (jC (m+1) n (u+1)) false (by rw[fK]; omega) (by rw[fK]; omega)) (And.intro (FU trivial rfl) trivial) (Jd _) ?_
   conv=>whnf
   refine .mk (by first|(show((gI (m+1) n v++vg (m+1) n v u).length+(0+1))*32<=140737488355328/\(gI (m+1) n v++vg (m+1) n v u).length+(0+1)<=1152921504606846976; omega)|(simp only[oQ,og,Rw.len,List.length_cons,List.length_nil,fK]; omega)) ?_
   conv=>whnf
   refine⟨[(0,some (.box 27 11 (.dat (.eU p)))),(28,some (jE ((gI (m+1) n v++vg (m+1) n v u)++[⟨(v:Int),jC (m+1) n (u+1)⟩]))),(2,some (jK (jC (m+1) n (u+1))))],u+1,[0,28,2],⟨fun i=>i=25,dn (Z:=fun i=>i=25) (i:=0) rfl (by decide),Md (Z:=fun i=>i=25) (i:=28) (j:=25) rfl (by decide) rfl rfl,dn (Z:=fun i=>i=25) (i:=2) rfl (by decide),trivial⟩,QA hb0 hkn hu h3 hvk,by omega,⟨⟨_,rfl,.eq rfl⟩,⟨_,rfl,.eq rfl⟩,trivial⟩,⟨⟨_,rfl,.eq rfl⟩,⟨_,rfl,.eq rfl⟩,⟨_,rfl,.eq rfl⟩,⟨_,rfl,.eq rfl⟩,⟨_,rfl,.eq rfl⟩,trivial⟩,okF rfl nofun rfl rfl rfl ⟨rfl,rfl⟩ rfl,okF rfl nofun rfl rfl rfl ⟨rfl,rfl⟩ ?_,okF rfl nofun rfl rfl rfl ⟨rfl,rfl⟩ rfl,trivial⟩
   rw[Jb,<- List.append_assoc]
 ·have hv':v=vals:=by
   have: ¬ (v:Int)<max 1 (p.values.length:Int):=of_decide_eq_false h3
   omega
  rw[hv']
  conv=>whnf
  exact fV.one (c:=z) (j:=1) (o:=jE (gI (m+1) n vals)) (t:=.own z) rfl rfl rfl nofun (.inr rfl) rfl (.eq rfl) ⟨rfl,rfl⟩
theorem S.SB(p:aW)(n vals m:Nat)(hp:dI p)(hn:p.states.length=n)(hn0:0<n)(Dl:n<=6)(hvs:max 1 p.values.length=vals)(nJ:vals<=3)(hm8:m<=8) :
  uy Tryz.prog 45 (V.aS [.dat (.eU p),.int m]) (fun n=>.own n) (some ⟨38,3,(Rw.elems (gI (m+1) n vals)).aS⟩):=by
 refine⟨V.gY [.dat (.eU p),.int m] rfl,fun _=>rfl,(fun ob h=>by cases h; exact tH _),(fun ob h=>by cases h; exact fun e=>absurd e (by decide:(3:Nat)≠fF)),fun z=>(S.SA z p n vals m hp hn hn0 Dl hvs nJ hm8).mono ?_⟩
 rintro t hp ⟨rfl,rfl⟩
 refine⟨rfl,?_⟩
 rw[aZ]; simp[ng,OV.aG,V.aS]; rfl
abbrev rowB(l:List Bool):OV:=.row 4 0 (.bools l) []
abbrev yw(l:List Clause)(f:Bool)(m:Nat):OV:=.box 73 4 (.agg [.row 4 f (.clauses l),.int (bF l),.own m])
abbrev xR(es:List (Int×List Bool)):OV:=.map 71 es []
theorem S.jf(l:List Clause)(f:Bool)(hl:SmallK l):jM Tryz.prog 22 (V.aS [.row 4 f (.clauses l)]) (Hz.aj []) 0 1 (fun t hp=>t= .ptr 0 0 0/\hp=Hz.aj [(0,some (yw l f 1)),(1,some (xR []))]):=by
 refine Z5.of Bd.jf (by simp) rfl rfl rfl ?_
 conv=>whnf
 refine ah.pure (S.lZ l f hl) rfl ?_
 conv=>whnf
 exact⟨⟨_,_,_,rfl,by decide,rfl,rfl,rfl⟩⟩
theorem Me{h:Hz}{j:Nat}{Z:Nat->Prop}{l:List Bool}(hz:Z j)(q:h.get j=some (rowB l)):T.sub Z h.aj (V.row 0 false (.bools l)).aH (V.own j).aH:=by
 show T.sub Z h.aj (.sl 0 false (l.map T.bool)) (.own j)
 simp only[T.sub]
 refine⟨trivial,hz,?_,by decide,4,?_⟩
 ·rw[fJ]; intro t ht; obtain⟨x,_,rfl⟩:=List.mem_map.1 ht; rfl
 ·have:=aJ q; simpa [OV.aG,Rw.aS,V.aS] using this
theorem XT{Z:Nat->Prop}{h:Hz}{i j ty:Nat}{es:List (Int×List Bool)}{k:Int}{row:List Bool}(q:h.get i=some (.map ty es [(k,.own j)]))(hi: ¬ Z i)(hz:Z j)(qj:h.get j=some (rowB row)) :
  ∃ o',h.get i=some o'/\ ¬ Z i/\o'.aG.ty=(OV.map ty (es++[(k,row)]) []).aG.ty/\o'.aG.k=(OV.map ty (es++[(k,row)]) []).aG.k/\T.cu Z h.aj (OV.map ty (es++[(k,row)]) []).aG.l o'.aG.l/\(OV.map ty (es++[(k,row)]) []).aG.l.map T.kd=o'.aG.l.map T.kd/\(OV.map ty (es++[(k,row)]) []).aG.l.map iw=o'.aG.l.map iw:=by
 have e1:(OV.map ty (es++[(k,row)]) []).aG.l=es.map vJ++[vJ (k,row)]:=by simp[OV.aG]
 have e2:(OV.map ty es [(k,.own j)]).aG.l=es.map vJ++[EL (k,.own j)]:=by simp[OV.aG]
 refine⟨_,q,hi,rfl,rfl,?_,?_,?_⟩
 ·rw[e1,e2]
  refine Es (bP _) ⟨?_,trivial⟩
  have:=Me hz qj
  simp only[V.aH] at this
  show T.sub Z h.aj (.dM [.int k,.sl 0 false (row.map T.bool)]) (.dM [.int k,.own j])
  simp only[T.sub,T.cu]
  simp only[T.sub] at this
  exact⟨trivial,this,trivial⟩
 ·rw[e1,e2,List.map_append,List.map_append]; rfl
 ·rw[e1,e2,List.map_append,List.map_append]; rfl
def BA(r:Int)(c:List Int)(i:Nat):List Int:=nS r (c.take i)++List.replicate (c.length-i) 0
theorem Je{r:Int}{c:List Int}{i:Nat}(hi:i<c.length):(BA r c i).set i (min (c.getD i 0) r)=BA r c (i+1):=by
 have e:c.length-i=(c.length-(i+1))+1:=by omega
 unfold BA
 rw[e,List.replicate_succ,Sz (by simp[nS]; omega),List.take_add_one,nS,nS,List.map_append,List.append_assoc]
 simp[hi]
theorem MB{r:Int}{c:List Int}{i:Nat}(hi:i<=c.length):(BA r c i).length=c.length:=by
 simp[BA,nS]; omega
theorem Vk{r:Int}{c:List Int}:BA r c c.length=nS r c:=by simp[BA]
theorem Vl{r:Int}{c:List Int}{i:Nat}(hi:i<c.length):(BA r c (i+1)).getD i 0=min (c.getD i 0) r:=by
 rw[<- Je hi]
 have:i<(BA r c i).length:=by rw[MB (by omega)]; exact hi
 simp[List.getD_eq_getElem?_getD,this]
theorem SC{r v:Int}{c:List Int}{i:Nat}(hi:i<c.length):yu r v (c.take (i+1))=yu r v (c.take i)*(r+1)+min (c.getD i 0) r:=by
 unfold yu
 rw[List.take_add_one,List.foldl_append]; simp[hi]
theorem Z7{r v:Int}{c:List Int}(hr:0<=r/\r<=3)(hv:0<=v/\v<=1048576)(hc: ∀ x∈c,0<=x)(hl:c.length<=6):0<=yu r v c/\yu r v c<=2^40:=by
 have: ∀ (c:List Int) (v:Int) (n:Nat),c.length<=n->(∀ x∈c,0<=x)->0<=v->0<=yu r v c/\yu r v c<=(v+1)*4^n:=by
  intro c
  induction c with
  |nil =>
   intro v n _ _ hv
   refine⟨hv,?_⟩
   have:(0:Int)<4^n:=Int.pow_pos (by decide)
   have h2:(v+1)*1<=(v+1)*4^n:=Int.mul_le_mul_of_nonneg_left this (by omega)
   show v<=_; omega
  |cons x c ih =>
   intro v n hn hc hv
   obtain⟨m,rfl⟩: ∃ m,n=m+1:=⟨n-1,by simp only[List.length_cons] at hn; omega⟩
   have hx:=hc x (by simp)
   have h1:0<=v*(r+1):=Int.mul_nonneg hv (by omega)
   have h2:v*(r+1)<=v*4:=Int.mul_le_mul_of_nonneg_left (by omega) hv
   obtain⟨g1,g2⟩:=ih (v*(r+1)+min x r) m (by simp only[List.length_cons] at hn; omega) (fun y hy=>hc y (List.mem_cons_of_mem _ hy)) (by omega)
   refine⟨g1,Int.le_trans g2 ?_⟩
   have e:(v+1)*4^(m+1)=((v+1)*4)*4^m:=by rw[Int.pow_succ,Int.mul_assoc,Int.mul_comm (4^m) 4]
   rw[e]
   refine Int.mul_le_mul_of_nonneg_right (by omega) (Int.pow_nonneg (by decide))
 obtain⟨h1,h2⟩:=this c v 6 hl hc hv.1
 refine⟨h1,Int.le_trans h2 ?_⟩
 have:(v+1)*4^6<=1048577*4^6:=Int.mul_le_mul_of_nonneg_right (by omega) (by decide)
 exact Int.le_trans this (by decide)
abbrev hT(l:List Clause)(f:Bool)(es:List (Int×List Bool)):Hz:=[(0,some (yw l f 1)),(1,some (xR es))]
theorem fV.zO{l:List Clause}{f:Bool}{es es':List (Int×List Bool)}{h:Hz}{n:Nat}{v u:V}{post:T->Hp->Prop}(Z:Nat->Prop)(F:Df Z h (hT l f es'))(hu:u.free=true)(hv:T.sub Z h.aj u.aH v.aH)(hp:post u.aH (hT l f es').aj):fV (hT l f es) n post v h:=by
 refine fV.Oo (h2:=hT l f es') (u:=u) Z F ?_ hu hv hp
 intro i o ho
 have hG:=kG (show qP 2 (hT l f es')=true from rfl) i o.aG (aJ ho)
 refine⟨?_,T.ak (fun i hi=>?_) _ hG.2.1,hG.2.2⟩
 ·match i,hG.1 with
  |0,_=>rfl
  |1,_=>rfl
  |k+2,hk=>exact absurd hk (by omega)
 ·match i,hi with
  |0,_=>rfl
  |1,_=>rfl
  |k+2,hk=>exact absurd hk (by omega)
structure Ir(l:List Clause)(e:Elem):Prop where
 cl: ∃ vals,∀ k∈l,zD e.counts.length vals k
 ok:Dk e.counts
 len:0<e.counts.length/\e.counts.length<=6
 val:0<=e.value/\e.value<=1048576
theorem Ir.three{l:List Clause}{e:Elem}(h:Ir l e):bF l<=3:=by
 obtain⟨vals,hc⟩:=h.cl
 exact sZ fun k hk=>(hc k hk).two
theorem Ir.low{l:List Clause}{e:Elem}(h:Ir l e){i:Nat}(hi:i<l.length):ZY (l.getD i default) (oU (bF l) e):=by
 obtain⟨vals,hc⟩:=h.cl
 have hr:=qF (l:=l)
 refine⟨⟨vals,?_⟩,fun x hx=>?_,?_⟩
 ·have:(oU (bF l) e).counts.length=e.counts.length:=by simp[oU,nS]
  rw[this]; exact hc _ (getM hi)
 ·obtain⟨y,hy,rfl⟩:=List.mem_map.1 hx
  have:=h.ok y hy; omega
 ·simp[oU,nS]; exact h.len.2
theorem Ir.row{l:List Clause}{e:Elem}(h:Ir l e):fZ l (oU (bF l) e)=fZ l e:=by
 obtain⟨vals,hc⟩:=h.cl
 exact XO hc ⟨rfl,fun x hx=>(h.ok x hx).1⟩
theorem SE{l:List Clause}{e:Elem}{i:Nat}(hi:i<l.length):fZ (l.take (i+1)) e=fZ (l.take i) e++[holdsB (l.getD i default) e]:=by
 unfold fZ
 rw[List.take_add_one,List.map_append]; simp[hi]
set_option maxHeartbeats 1000000 in
theorem S.SG(l:List Clause)(f:Bool)(es:List (Int×List Bool))(e:Elem)(hl:SmallK l)(ht:Ir l e)(hg:iW e.counts.length l es):aF Tryz.prog 34 (V.aS [.ptr 0 0 0,.dat (.elem e)]) (Hz.aj (hT l f es)) 2 (fun t hp=> ∃ es',iW e.counts.length l es'/\t=(V.row 0 false (.bools (fZ l e))).aH/\hp=Hz.aj (hT l f es')):=by
 have hr0:=qF (l:=l)
 have hr3:=ht.three
 obtain⟨hn0,Dl⟩:=ht.len
 obtain⟨hv0,hv1⟩:=ht.val
 refine lV.of (nx:=2) (h0:=hT l f es) Bd.mg (by simp) ⟨_,_,es,hg,rfl,rfl⟩ rfl rfl ?_
 conv=>whnf
 have hm:=yc (n:=e.counts.length) hn0
 rw[hm]
 conv=>whnf
 refine .mk (by omega) ?_
 conv=>whnf
 refine aU.Et 100 [0,3,5,23,24] (fun i:Nat=>[(25,.int i),(6,.int (yu (bF l) e.value (e.counts.take i)))]) (fun i=>[(0,yw l f 1),(1,xR es),(2,.box 38 3 (.dat (.elem e))),(9,jK (BA (bF l) e.counts i)),(11,.box 38 3 (.agg [.int e.value,.own 9]))]) (fun i=>i<=e.counts.length) (fun i=>e.counts.length-i) 0 [0,1,2,9,11] rfl (by decide) (fun _=>rfl) (Nat.zero_le _) ?_ ?_ ?_
 ·exact⟨⟨_,rfl,.eq rfl⟩,⟨_,rfl,.eq rfl⟩,trivial⟩
 ·exact⟨⟨rfl,(fun _=>rfl),rfl,rfl,_,rfl,rfl,rfl,bG.of_eq rfl⟩,okF rfl (fun _=>rfl) rfl rfl rfl ⟨rfl,rfl⟩ rfl,okF rfl nofun rfl rfl rfl ⟨rfl,rfl⟩ rfl,okF rfl nofun rfl rfl rfl ⟨rfl,rfl⟩ (by simp[BA,nS]),⟨rfl,nofun,rfl,rfl,_,rfl,rfl,rfl,bG.of_eq rfl⟩,trivial⟩
 conv=>whnf
 refine⟨⟨⟨_,rfl,.eq rfl⟩,⟨_,rfl,.eq rfl⟩,⟨_,rfl,.eq rfl⟩,⟨_,rfl,.eq rfl⟩,⟨_,rfl,.eq rfl⟩,trivial⟩,rfl,?_⟩
 rintro i hi
 have hll:=MB (r:=bF l) hi
 have hkb:=Z7 (r:=bF l) (c:=e.counts.take i) ⟨hr0,hr3⟩ ht.val (fun x hx=>(ht.ok x (List.mem_of_mem_take hx)).1) (by rw[List.length_take]; omega)
 conv=>whnf
 refine⟨fun h3=>?_,fun h3=>?_⟩
 ·have hi':i<e.counts.length:=by simpa using h3
  have hset:=Je (r:=bF l) hi'
  have hget:=Vl (r:=bF l) hi'
  have hkn:=SC (r:=bF l) (v:=e.value) hi'
  have hge:=ht.ok.get hi'
  have hm1:0<=yu (bF l) e.value (e.counts.take i)*(bF l+1):=Int.mul_nonneg hkb.1 (by omega)
  have hm2:yu (bF l) e.value (e.counts.take i)*(bF l+1)<=yu (bF l) e.value (e.counts.take i)*4:=Int.mul_le_mul_of_nonneg_left (by omega) hkb.1
  conv=>whnf
  repeat(refine VC.mk (by first|(first|(simp only[Rw.rng,Int.toNat_natCast,List.length_set,hll]; omega)|(simp only[okI,Int.toNat_natCast]; omega))|(simp only[okI] at *; first|omega|(simp_all; done)|(simp_all; omega))) ?_; conv=>whnf)
  refine⟨i+1,[0,1,2,9,11],by omega,by omega,⟨⟨_,rfl,.eq rfl⟩,⟨_,rfl,.eq ?_⟩,trivial⟩,⟨⟨_,rfl,.eq rfl⟩,⟨_,rfl,.eq rfl⟩,⟨_,rfl,.eq rfl⟩,⟨_,rfl,.eq rfl⟩,⟨_,rfl,.eq rfl⟩,trivial⟩,⟨rfl,(fun _=>rfl),rfl,rfl,_,rfl,rfl,rfl,bG.of_eq rfl⟩,okF rfl (fun _=>rfl) rfl rfl rfl ⟨rfl,rfl⟩ rfl,okF rfl nofun rfl rfl rfl ⟨rfl,rfl⟩ rfl,okF rfl nofun rfl rfl rfl ⟨rfl,rfl⟩ ?_,⟨rfl,nofun,rfl,rfl,_,rfl,rfl,rfl,bG.of_eq rfl⟩,trivial⟩
  ·show T.int _=T.int (yu (bF l) e.value (e.counts.take i)*(bF l+1)+((BA (bF l) e.counts i).set i (min (e.counts.getD i 0) (bF l))).getD i 0)
   rw[hset,hget,hkn]
  ·show(jK (BA (bF l) e.counts (i+1))).aG.l=(jK ((BA (bF l) e.counts i).set i (min (e.counts.getD i 0) (bF l)))).aG.l
   rw[hset]
 have hi':i=e.counts.length:=by have:e.counts.length<=i:=(by simpa using h3); omega
 subst hi'
 rw[Vk,List.take_length]
 have hkey:yu (bF l) e.value e.counts=keyE (bF l) e:=rfl
 rw[hkey]
 have hel:RZ e.counts.length e:=⟨rfl,fun x hx=>(ht.ok x hx).1⟩
 conv=>whnf
 refine Z8.mk (fun row hrow=>?_) (fun hnone=>?_)
 ·obtain rfl:=hg e hel row hrow
  conv=>whnf
  refine Fork.mk (fun q=>absurd (q.symm.trans ((rfl:false=false))).symm Bool.false_ne_true) (fun _=>?_)
  conv=>whnf
  conv=>whnf
  exact fV.zO (es':=es) (u:=.row 0 false (.bools (fZ l e))) (fun _=>False) ⟨dn (Z:=fun _=>False) rfl (fun q=>q),dn (Z:=fun _=>False) rfl (fun q=>q),trivial⟩ rfl (aC _) ⟨es,hg,rfl,rfl⟩
 conv=>whnf
 refine Fork.mk (fun _=>?_) (fun q=>absurd (q.symm.trans ((rfl:true=true))) Bool.false_ne_true)
 conv=>whnf
 conv=>whnf
 have hk1:=hl.len
 refine aU.nil 9 4 0 (by rfl) rfl rfl rfl ?_
 refine aU.Et 200 [0,5,6,68,69] (fun i:Nat=>[(70,.int i),(9,.own 12)]) (fun i=>[(0,yw l f 1),(1,xR es),(2,.box 38 3 (.dat (.elem e))),(9,jK (nS (bF l) e.counts)),(11,.box 38 3 (.agg [.int e.value,.own 9])),(12,rowB (fZ (l.take i) (oU (bF l) e)))]) (fun i=>i<=l.length) (fun i=>l.length-i) 0 [0,1,2,9,11,120] rfl (by decide) (fun _=>rfl) (Nat.zero_le _) ?_ ?_ ?_
 ·exact⟨⟨_,rfl,.eq rfl⟩,⟨_,rfl,.eq rfl⟩,trivial⟩
 ·exact⟨⟨rfl,(fun _=>rfl),rfl,rfl,_,rfl,rfl,rfl,bG.of_eq rfl⟩,okF rfl (fun _=>rfl) rfl rfl rfl ⟨rfl,rfl⟩ rfl,okF rfl nofun rfl rfl rfl ⟨rfl,rfl⟩ rfl,okF rfl nofun rfl rfl rfl ⟨rfl,rfl⟩ rfl,⟨rfl,nofun,rfl,rfl,_,rfl,rfl,rfl,bG.of_eq rfl⟩,okF rfl nofun rfl rfl rfl ⟨rfl,rfl⟩ rfl,trivial⟩
 conv=>whnf
 refine⟨⟨⟨_,rfl,.eq rfl⟩,⟨_,rfl,.eq rfl⟩,⟨_,rfl,.eq rfl⟩,⟨_,rfl,.eq rfl⟩,⟨_,rfl,.eq rfl⟩,trivial⟩,rfl,?_⟩
 rintro i hi
 have hrl:(fZ (l.take i) (oU (bF l) e)).length=i:=by rw[qG,List.length_take]; omega
 conv=>whnf
 refine⟨fun h4=>?_,fun h4=>?_⟩
 ·have hi2:i<l.length:=by simpa using h4
  have hfit:=ht.low hi2
  have hrn:=SE (e:=oU (bF l) e) hi2
  have hv:=(hl.cl i).values
  conv=>whnf
  refine .mk (by first|(simp only[Rw.rng]; omega)|(simp only[okI,Int.toNat_natCast]; omega)) ?_
  conv=>whnf
  refine ah.lend (S.jH (l.getD i default) (oU (bF l) e) hfit (by simp[oU,nS]; exact hn0) hv) ⟨aC _,abM trivial rfl,trivial⟩ rfl rfl ?_
  conv=>whnf
  repeat(refine VC.mk (by first|(first|(simp only[oQ,og,Rw.len,List.length_cons,List.length_nil,hrl]; omega)|(show((fZ (l.take i) (oU (bF l) e)).length+(0+1))*1<=140737488355328/\(fZ (l.take i) (oU (bF l) e)).length+(0+1)<=1152921504606846976; omega))|(simp only[okI] at *; first|omega|(simp_all; done)|(simp_all; omega))) ?_; conv=>whnf)
  refine⟨i+1,[0,1,2,9,11,210],by omega,by omega,⟨⟨_,rfl,.eq rfl⟩,⟨_,rfl,.eq rfl⟩,trivial⟩,⟨⟨_,rfl,.eq rfl⟩,⟨_,rfl,.eq rfl⟩,⟨_,rfl,.eq rfl⟩,⟨_,rfl,.eq rfl⟩,⟨_,rfl,.eq rfl⟩,trivial⟩,⟨rfl,(fun _=>rfl),rfl,rfl,_,rfl,rfl,rfl,bG.of_eq rfl⟩,okF rfl (fun _=>rfl) rfl rfl rfl ⟨rfl,rfl⟩ rfl,okF rfl nofun rfl rfl rfl ⟨rfl,rfl⟩ rfl,okF rfl nofun rfl rfl rfl ⟨rfl,rfl⟩ rfl,⟨rfl,nofun,rfl,rfl,_,rfl,rfl,rfl,bG.of_eq rfl⟩,okF rfl nofun rfl rfl rfl ⟨rfl,rfl⟩ ?_,trivial⟩
  rw[hrn]
 ·have hi3:i=l.length:=by have:l.length<=i:=(by simpa using h4); omega
  subst hi3
  rw[List.take_length,ht.row]
  conv=>whnf
  refine .mk (by omega) ?_
  conv=>whnf
  exact fV.zO (es':=es++[(keyE (bF l) e,fZ l e)]) (u:=.row 0 false (.bools (fZ l e))) (fun i=>i=12) ⟨dn (Z:=fun i=>i=12) rfl (by decide),XT (Z:=fun i=>i=12) (j:=12) rfl (by decide) rfl rfl,trivial⟩ rfl (Me rfl rfl) ⟨_,ht.cl.elim fun _ hc=>hg.add hc hel,rfl,rfl⟩
abbrev SH(r:Rule)(e:Elem):List V:=Dat.cells (.rule r)++Dat.cells (.elem e)
def BD(r:Rule)(e:Elem):Bool:=e.counts.getD r.fr.toNat 0==0||(decide (0<=r.read)&&r.read !=e.value)
theorem uJ{r:Rule}{e:Elem}:(decide (0<=r.read)&&e.value !=r.read||e.counts.getD r.fr.toNat 0==0)=BD r e:=by
 unfold BD
 rw[Bool.or_comm]
 congr 2
 rw[bne,bne,Bool.beq_comm]
theorem S.Gm(r:Rule)(e:Elem)(hp:sN e.counts.length r)(h:BD r e=true):au Tryz.prog 106 [.agg (SH r e)] (.dM [.row 0 true (.ints []),.bool false]):=by
 obtain⟨f1,f2⟩:=hp.src
 refine au.of Bd.iU (by simp) rfl rfl ?_
 conv=>whnf
 repeat(refine VC.mk (by first|exact id|exact fun h=>⟨h,h⟩|(intro h; rw[h]; rfl)|(intro h; simp_all; done)|(simp only[Rw.rng] at *; omega)) ?_; conv=>whnf)
 refine Fork.mk (fun _=>?_) (fun q=>absurd (q.symm.trans (h)) Bool.false_ne_true)
 conv=>whnf
 exact aA.eqv rfl
theorem S.OO(r:Rule)(e:Elem)(hp:sN e.counts.length r)(hc:Dk e.counts)(hl:e.counts.length<=6)(h:BD r e=false)(n:Nat):aF Tryz.prog 106 (V.aS [.agg (SH r e)]) (Hz.aj []) n (fun t hp=>t= .dM [.own n,.bool true]/\hp=Hz.aj [(n,some (jK (aO e.counts r.fr)))]):=by
 obtain⟨f1,f2⟩:=hp.src
 have hfr:=hc.get (i:=r.fr.toNat) (by omega)
 refine lV.of (nx:=0) (h0:=[]) Bd.iU (by simp) ⟨_,_,rfl,rfl⟩ rfl rfl ?_
 conv=>whnf
 repeat(refine VC.mk (by first|exact id|exact fun h=>⟨h,h⟩|(intro h; rw[h]; rfl)|(intro h; simp_all; done)|(simp only[Rw.rng] at *; omega)) ?_; conv=>whnf)
 refine Fork.mk (fun q=>absurd (q.symm.trans (h)).symm Bool.false_ne_true) (fun _=>?_)
 conv=>whnf
 conv=>whnf
 refine ah.mkRow (r:=.ints e.counts) (S.wX e.counts false (by omega) (by omega)) ?_
 conv=>whnf
 repeat(refine VC.mk (by first|(simp only[Rw.rng]; omega)|(simp only[okI]; omega)) ?_; conv=>whnf)
 exact fV.one (c:=n) (j:=30) (o:=jK (aO e.counts r.fr)) (t:=.dM [.own n,.bool true]) rfl rfl rfl nofun (.inr rfl) ⟨rfl,trivial,trivial⟩ (.eq rfl) ⟨rfl,rfl⟩
theorem S.SI(r:Rule)(e:Elem)(hp:sN e.counts.length r)(hc:Dk e.counts)(hl:e.counts.length<=6)(h:BD r e=false):uy Tryz.prog 106 (V.aS [.agg (SH r e)]) (fun n=>.dM [.own n,.bool true]) (some ⟨3,0,(Rw.ints (aO e.counts r.fr)).aS⟩):=by
 refine⟨V.gY [.agg (SH r e)] rfl,fun _=>⟨rfl,trivial,trivial⟩,(fun ob h=>by cases h; rw[fJ]; intro t ht; obtain⟨x,_,rfl⟩:=List.mem_map.1 ht; rfl),(fun ob h=>by cases h; exact fun e=>absurd e (by decide:(0:Nat)≠fF)),fun n=>(S.OO r e hp hc hl h n).mono ?_⟩
 rintro t hp ⟨rfl,rfl⟩
 refine⟨rfl,?_⟩
 rw[aZ]; simp[ng,OV.aG,V.aS]; rfl
theorem ah.others{r:Rule}{e:Elem}{h:Hz}{n:Nat}{K:V->Hz->Prop}{KW:Nat->V->Hz->Prop}(hp:sN e.counts.length r)(hc:Dk e.counts)(hl:e.counts.length<=6)(hs:BD r e=false)(hK:K (.dM [.own n,.bool true]) ((n,some (jK (aO e.counts r.fr)))::h)):ah Tryz.prog false none 106 [.agg (SH r e)] h n K KW :=
 ah.heap (uy.frame (S.SI r e hp hc hl hs) _ _) (by rintro t hp ⟨rfl,rfl⟩; exact⟨.dM [.own n,.bool true],_,rfl,by rw[aZ]; simp[ng,OV.aG,V.aS],hK⟩)
def BF(r:Rule)(e:Elem):Int:=bif decide (r.write>=0) then r.write else e.value
theorem S.J4(r:Rule)(e:Elem)(c:List Int):aF Tryz.prog 107 (V.aS [.agg (SH r e),.own 0]) (Hz.aj [(0,some (jK c))]) 1 (fun t hp=>t= .agg [.int (BF r e),.own 0]/\hp=Hz.aj [(0,some (jK c))]):=by
 refine lV.of (nx:=1) (h0:=[(0,some (jK c))]) Bd.kX (by simp) ⟨_,_,rfl,rfl⟩ rfl rfl ?_
 conv=>whnf
 refine⟨fun h1=>?_,fun h1=>?_⟩
 ·conv=>whnf
  refine fV.one (c:=0) (j:=0) (o:=jK c) (t:=.agg [.int (BF r e),.own 0]) rfl rfl rfl (fun _=>rfl) (.inl rfl) ⟨trivial,rfl,trivial⟩ ?_ ⟨rfl,rfl⟩
  rw[BF,show decide (r.write>=0)=true from h1]; exact .eq rfl
 ·conv=>whnf
  refine fV.one (c:=0) (j:=0) (o:=jK c) (t:=.agg [.int (BF r e),.own 0]) rfl rfl rfl (fun _=>rfl) (.inl rfl) ⟨trivial,rfl,trivial⟩ ?_ ⟨rfl,rfl⟩
  rw[BF,show decide (r.write>=0)=false from h1]; exact .eq rfl
def zE:Elem:=⟨0,[]⟩
theorem aA.noneE{h:Hz}:aA (.dM [.dat (.elem zE),.bool false]) (.dM [.agg [.int 0,.row 0 true .nil],.bool false]) h:=⟨by
 show T.sub _ _ (.dM [.agg [.int 0,.sl 0 false []],.bool false]) (.dM [.agg [.int 0,.sl 0 true []],.bool false])
 simp[T.sub,T.cu]⟩
theorem aA.Vm{h:Hz}{j:Nat}{v:Int}{l:List Int}{b:Bool}(q:h.get j=some (jK l)):aA (.dM [.dat (.elem ⟨v,l⟩),.bool b]) (.dM [.agg [.int v,.own j],.bool b]) h:=⟨by
 have:=FU (Z:=fun _=>True) trivial q
 show T.sub _ h.aj (.dM [.agg [.int v,.sl 0 false (l.map T.int)],.bool b]) (.dM [.agg [.int v,.own j],.bool b])
 replace this:T.sub (fun _=>True) h.aj (.sl 0 false (l.map T.int)) (.own j):=this
 simp only[T.sub] at this
 simp only[T.sub,T.cu]
 exact⟨⟨trivial,this,trivial⟩,trivial,trivial⟩⟩
theorem ah.result{r:Rule}{e:Elem}{c:List Int}{h:Hz}{i n:Nat}{K:V->Hz->Prop}{KW:Nat->V->Hz->Prop}(hi:h.get i=some (jK c))(hn:h.get n=none)(hK:K (.agg [.int (BF r e),.own i]) ((i,some (jK c))::h)):ah Tryz.prog false none 107 [.agg (SH r e),.own i] h n K KW:=by
 refine ah.Dq (ts:=[.agg (SH r e),.own 0]) (S.J4 r e c) rfl rfl rfl rfl hi hn ?_
 rintro t hp ⟨rfl,rfl⟩
 exact .inl ⟨.agg [.int (BF r e),.own i],jK c,rfl,rfl,rfl,hK⟩
theorem S.OQ(r:Rule)(e:Elem)(hp:sN e.counts.length r)(hc:Dk e.counts)(hl:e.counts.length<=6)(hk:r.kind=2): ∃ x,au Tryz.prog 84 [.agg (SH r e)] (.dM [.dat (.elem x),.bool (aX r e).isSome])/\ ∀ y,aX r e=some y->x=y:=by
 obtain⟨d1,d2⟩:=hp.dst
 obtain⟨p1,p2⟩:=hp.abH
 obtain⟨q1,q2⟩:=hp.abI
 have hl1:(aO e.counts r.fr).length=e.counts.length:=by simp[aO]
 have hB:=hc.b.dec (by omega) r.fr
 have hB1:=hB.get (by omega) r.gU.toNat
 have hB2:=hB.dec (by omega) r.gU
 have hB3:=hB2.get (by omega) r.Bl.toNat
 have hB4:=hB2.add (by omega) r.Bl 1 (k:=1) ⟨by omega,by omega⟩
 have hB5:=hB4.get (by omega) r.to.toNat
 cases hs:BD r e with
 |true =>
  have hf:aX r e=none:=by rw[aX,uJ,hs]; rfl
  refine⟨zE,?_,fun y hy=>by rw[hf] at hy; cases hy⟩
  rw[hf]
  refine au.of Bd.iC (by simp) rfl rfl ?_
  conv=>whnf
  refine ah.pure (S.Gm r e hp hs) rfl ?_
  conv=>whnf
  repeat(refine VC.mk (by first|exact id|(intro h; rw[h]; rfl)|(intro h; simp_all; done)) ?_; conv=>whnf)
  refine Fork.mk (fun _=>?_) (fun q=>absurd (q.symm.trans ((rfl:true=true))) Bool.false_ne_true)
  conv=>whnf
  exact aA.noneE
 |false =>
  cases h6:(aO e.counts r.fr).getD r.gU.toNat 0==0 with
  |true =>
   have hf:aX r e=none:=by rw[aX,uJ,hs,hk]; simp only[cond_false]; rw[show((2:Int)==1)=false from rfl,show((2:Int)==2)=true from rfl,h6]; rfl
   refine⟨zE,?_,fun y hy=>by rw[hf] at hy; cases hy⟩
   rw[hf]
   refine au.of Bd.iC (by simp) rfl rfl ?_
   conv=>whnf
   refine ah.others hp hc hl hs ?_
   conv=>whnf
   repeat(refine VC.mk (by first|exact id|(intro h; rw[h]; rfl)|(intro h; (repeat' apply And.intro)<;>first|exact h|omega|(simp only[Rw.qN]; omega)|(simp only[Rw.rng]; omega))) ?_; conv=>whnf)
   refine Fork.mk (fun _=>?_) (fun q=>absurd (q.symm.trans (h6)) Bool.false_ne_true)
   conv=>whnf
   exact aA.noneE
  |false =>
   have hf:aX r e=some ⟨BF r e,dW (dW (aO (aO e.counts r.fr) r.gU) r.Bl 1) r.to 1⟩:=by rw[aX,uJ,hs,hk]; simp only[cond_false]; rw[show((2:Int)==1)=false from rfl,show((2:Int)==2)=true from rfl,h6]; rfl
   refine⟨_,?_,fun y hy=>by rw[hf] at hy; exact Option.some.inj hy⟩
   rw[hf]
   refine au.of Bd.iC (by simp) rfl rfl ?_
   conv=>whnf
   refine ah.others hp hc hl hs ?_
   conv=>whnf
   repeat(refine VC.mk (by first|exact id|(intro h; rw[h]; rfl)|(intro h; (repeat' apply And.intro)<;>first|exact h|omega|(simp only[Rw.qN]; omega)|(simp only[Rw.rng]; omega))) ?_; conv=>whnf)
   refine Fork.mk (fun q=>absurd (q.symm.trans (h6)).symm Bool.false_ne_true) (fun _=>?_)
   conv=>whnf
   repeat(refine VC.mk (by simp only[okI,Rw.rng] at *; omega) ?_; conv=>whnf)
   conv=>whnf
   repeat(refine VC.mk (by first|(simp only[Rw.rng,List.length_set,hl1]; omega)|(simp only[okI,aO,dW] at *; omega)) ?_; conv=>whnf)
   refine ah.result (c:=dW (dW (aO (aO e.counts r.fr) r.gU) r.Bl 1) r.to 1) rfl rfl ?_
   conv=>whnf
   exact aA.Vm rfl
theorem abO{x:Int}(h:0<=x):decide (x>0)= !(x==0):=by
 by_cases e:x=0
 ·subst e; rfl
 ·rw[beq_eq_false_iff_ne.2 e,decide_eq_true (by omega)]; rfl
theorem S.MC(r:Rule)(e:Elem)(hr:ru r)(hp:sN e.counts.length r)(hc:Dk e.counts)(hl:e.counts.length<=6)(hk:r.kind=1): ∃ x,au Tryz.prog 83 [.agg (SH r e)] (.dM [.dat (.elem x),.bool (aX r e).isSome])/\ ∀ y,aX r e=some y->x=y:=by
 obtain⟨d1,d2⟩:=hp.dst
 have hl1:(aO e.counts r.fr).length=e.counts.length:=by simp[aO]
 have hB:=hc.b.dec (by omega) r.fr
 have hB5:=hB.get (by omega) r.to.toNat
 have ha1:=hr.all; have hx1:=hr.ex
 cases hs:BD r e with
 |true =>
  have hf:aX r e=none:=by rw[aX,uJ,hs]; rfl
  refine⟨zE,?_,fun y hy=>by rw[hf] at hy; cases hy⟩
  rw[hf]
  refine au.of Bd.jy (by simp) rfl rfl ?_
  conv=>whnf
  refine ah.pure (S.Gm r e hp hs) rfl ?_
  conv=>whnf
  refine Fork.mk (fun _=>?_) (fun q=>absurd (q.symm.trans ((rfl:true=true))) Bool.false_ne_true)
  conv=>whnf
  exact aA.noneE
 |false =>
  have hpos: ∀ i,0<=(aO e.counts r.fr).getD i 0:=fun i=>XJ hc (by rw[uJ]; exact hs) i
  have Zk:aX r e=bif !(lY r (aO e.counts r.fr)) then none else some ⟨BF r e,dW (aO e.counts r.fr) r.to 1⟩:=by
   rw[aX,uJ,hs,hk]; rfl
  refine⟨bif rD r.all (aO e.counts r.fr) (aO e.counts r.fr).length then zE else⟨BF r e,dW (aO e.counts r.fr) r.to 1⟩,?_,fun y hy=>?_⟩
  rotate_left
  ·rw[Zk] at hy
   cases ha:lY r (aO e.counts r.fr) with
   |false=>rw[ha] at hy; cases hy
   |true =>
    rw[ha] at hy
    have hb:rD r.all (aO e.counts r.fr) (aO e.counts r.fr).length=false:=by
     unfold lY at ha; rw[Bool.and_eq_true] at ha; simpa using ha.1
    rw[hb]; exact Option.some.inj hy
  have hsome:(aX r e).isSome=lY r (aO e.counts r.fr):=by
   rw[Zk]; cases lY r (aO e.counts r.fr)<;>rfl
  rw[hsome]
  refine au.of Bd.jy (by simp) rfl rfl ?_
  conv=>whnf
  refine ah.others hp hc hl hs ?_
  conv=>whnf
  refine Fork.mk (fun q=>absurd (q.symm.trans ((rfl:false=false))).symm Bool.false_ne_true) (fun _=>?_)
  conv=>whnf
  conv=>whnf
  refine aU.same [1,2,4,22,23] (fun i:Nat=>[(24,.int i),(6,.bool (sS r.ex (aO e.counts r.fr) i))]) (fun i=>i<=(aO e.counts r.fr).length/\rD r.all (aO e.counts r.fr) i=false) (fun i=>(aO e.counts r.fr).length-i) 0 rfl (by decide) rfl (fun _=>rfl) ⟨by omega,by simp[rD]⟩ ⟨⟨_,rfl,rfl⟩,⟨_,rfl,by simp[sS]; rfl⟩,trivial⟩ ?_
  conv=>whnf
  refine⟨rfl,?_⟩
  rintro i ⟨hi,hb⟩
  conv=>whnf
  refine⟨fun h3=>?_,fun h3=>?_⟩
  ·have hi':i<(aO e.counts r.fr).length:=by simpa using h3
   have hbn:=Ae (al:=r.all) (c:=aO e.counts r.fr) (i:=i)
   have hfn:=Ad (ex:=r.ex) (c:=aO e.counts r.fr) (i:=i)
   have hg:=abO (hpos i)
   conv=>whnf
   repeat(refine VC.mk (by first|(simp only[Rw.rng,Int.toNat_natCast]; omega)|exact fun h=>h|exact fun h=>⟨h,h⟩) ?_; conv=>whnf)
   refine ah.nY (fun _=>S.slices_Contains_int r.all i false (by omega)) rfl ?_
   conv=>whnf
   repeat(refine VC.mk id ?_; conv=>whnf)
   refine⟨fun h4=>?_,fun h4=>?_⟩
   ·have h4':(decide (0<(aO e.counts r.fr).getD i 0)&&decide (0<(r.all.length:Int))&& !Qv r.all i)=true:=h4
    rw[Bool.and_assoc,Bool.and_eq_true] at h4'
    have hbl:=LX (al:=r.all) hi' (by have:=hg.symm.trans h4'.1; simpa using this) h4'.2
    rw[hbl,show lY r (aO e.counts r.fr)=false by rw[lY,hbl]; rfl]
    conv=>whnf
    exact aA.noneE
   ·have h4':(decide (0<(aO e.counts r.fr).getD i 0)&&decide (0<(r.all.length:Int))&& !Qv r.all i)=false:=h4
    have hb2:rD r.all (aO e.counts r.fr) (i+1)=false:=by
     rw[hbn,hb,Bool.false_or,<- hg,<- h4',Bool.and_assoc]
    conv=>whnf
    repeat(refine VC.mk (by first|exact id|exact fun h=>⟨h,h⟩) ?_; conv=>whnf)
    refine ah.nY (fun _=>S.slices_Contains_int r.ex i false (by omega)) rfl ?_
    conv=>whnf
    repeat(refine VC.mk (by first|(intro h; rw[h]; rfl)|(intro h; simp[h]; done)|(simp only[okI] at *; first|omega|(simp_all; done)|(simp_all; omega))) ?_; conv=>whnf)
    refine⟨i+1,⟨by omega,hb2⟩,by omega,⟨⟨_,rfl,rfl⟩,⟨_,rfl,?_⟩,trivial⟩,?_,rfl⟩
    ·rw[hfn,<- hg]
     rfl
    ·repeat' (first|exact trivial|exact⟨_,rfl,rfl⟩|constructor)
  ·have hi':i=(aO e.counts r.fr).length:=by have:(aO e.counts r.fr).length<=i:=(by simpa using h3); omega
   subst hi'
   rw[hb]
   have hal:lY r (aO e.counts r.fr)=sS r.ex (aO e.counts r.fr) (aO e.counts r.fr).length:=by rw[lY,hb]; rfl
   rw[hal]
   conv=>whnf
   repeat(refine VC.mk (by first|(simp only[Rw.rng,hl1]; omega)|(simp only[okI,aO,dW] at *; omega)) ?_; conv=>whnf)
   refine ah.result (c:=dW (aO e.counts r.fr) r.to 1) rfl rfl ?_
   conv=>whnf
   exact aA.Vm rfl
theorem S.EM(r:Rule)(e:Elem)(hp:sN e.counts.length r)(hc:Dk e.counts)(hl:e.counts.length<=6)(hk:r.kind=3): ∃ x,au Tryz.prog 85 [.agg (SH r e)] (.dM [.dat (.elem x),.bool (aX r e).isSome])/\ ∀ y,aX r e=some y->x=y:=by
 obtain⟨d1,d2⟩:=hp.dst
 obtain⟨rs1,rs2⟩:=hp.rsp hk
 have hl1:(aO e.counts r.fr).length=e.counts.length:=by simp[aO]
 have hB:=hc.b.dec (by omega) r.fr
 cases hs:BD r e with
 |true =>
  have hf:aX r e=none:=by rw[aX,uJ,hs]; rfl
  refine⟨zE,?_,fun y hy=>by rw[hf] at hy; cases hy⟩
  rw[hf]
  refine au.of Bd.gJ (by simp) rfl rfl ?_
  conv=>whnf
  refine ah.pure (S.Gm r e hp hs) rfl ?_
  conv=>whnf
  refine Fork.mk (fun _=>?_) (fun q=>absurd (q.symm.trans ((rfl:true=true))) Bool.false_ne_true)
  conv=>whnf
  exact aA.noneE
 |false =>
  have hf:aX r e=some ⟨BF r e,dW (kF r (aO e.counts r.fr) (aO e.counts r.fr).length) r.to 1⟩:=by rw[aX,uJ,hs,hk]; rfl
  refine⟨_,?_,fun y hy=>by rw[hf] at hy; exact Option.some.inj hy⟩
  rw[hf]
  refine au.of Bd.gJ (by simp) rfl rfl ?_
  conv=>whnf
  refine ah.others hp hc hl hs ?_
  conv=>whnf
  refine Fork.mk (fun q=>absurd (q.symm.trans ((rfl:false=false))).symm Bool.false_ne_true) (fun _=>?_)
  conv=>whnf
  conv=>whnf
  have hm:=yc (n:=(aO e.counts r.fr).length) (by have:=hp.src; omega)
  rw[hm]
  conv=>whnf
  refine .mk (by omega) ?_
  conv=>whnf
  refine aU.objs 60 [1,2,4,20,21] (fun i:Nat=>[(22,.int i),(6,.own 14)]) (fun i=>[(0,.box 126 21 (.agg (SH r e))),(1,.box 38 3 (.agg [.int 0,.row 0 true .nil])),(4,jK (aO e.counts r.fr)),(14,jK (kF r (aO e.counts r.fr) i))]) (fun i=>i<=(aO e.counts r.fr).length) (fun i=>(aO e.counts r.fr).length-i) 0 [0,1,4,14] rfl (by decide) (fun _=>rfl) (Nat.zero_le _) ?_ ?_ ?_
  ·exact⟨⟨_,rfl,.eq rfl⟩,⟨_,rfl,.eq rfl⟩,trivial⟩
  ·exact⟨⟨rfl,nofun,rfl,rfl,rfl,_,rfl,rfl,rfl,bG.of_eq rfl⟩,⟨rfl,nofun,rfl,rfl,rfl,_,rfl,rfl,rfl,bG.of_eq rfl⟩,⟨rfl,nofun,rfl,rfl,rfl,_,rfl,rfl,rfl,bG.of_eq rfl⟩,⟨rfl,nofun,rfl,rfl,rfl,_,rfl,rfl,rfl,bG.of_eq rfl⟩,trivial⟩
  conv=>whnf
  refine⟨⟨⟨_,rfl,.eq rfl⟩,⟨_,rfl,.eq rfl⟩,⟨_,rfl,.eq rfl⟩,⟨_,rfl,.eq rfl⟩,⟨_,rfl,.eq rfl⟩,trivial⟩,rfl,?_⟩
  rintro i hi
  have Dl:(i:Int)*1048577<=6*1048577:=Int.mul_le_mul_of_nonneg_right (by omega) (by omega)
  have hn0:0<=(i:Int)*1048577:=Int.mul_nonneg (by omega) (by omega)
  have hRB:=U3 hB (by omega) (r:=r) i
  have hRl:(kF r (aO e.counts r.fr) i).length=e.counts.length:=by rw[qK,hl1]
  conv=>whnf
  refine⟨fun g1=>?_,fun g1=>?_⟩
  ·have hi':i<(aO e.counts r.fr).length:=by simpa using g1
   have hir:i<r.response.length:=by omega
   obtain⟨q1,q2⟩:0<=r.response.getD i 0/\r.response.getD i 0<e.counts.length:=by
    rw[show r.response.getD i 0=r.response[i] by simp[hir]]; exact rs2 _ (List.getElem_mem hir)
   have hR1:=hRB.get hn0 (r.response.getD i 0).toNat
   have hR2:=hB.get (by omega) i
   conv=>whnf
   repeat(refine VC.mk (by first|(first|(simp only[Rw.rng,qK]; omega)|(simp only[okI,aO,dW,Int.toNat_natCast] at *; omega))|(simp only[Rw.rng] at *; first|omega|(simp_all; done)|(simp_all; omega))) ?_; conv=>whnf)
   refine⟨i+1,[0,1,4,14],by omega,by omega,⟨⟨_,rfl,.eq rfl⟩,⟨_,rfl,.eq rfl⟩,trivial⟩,⟨⟨_,rfl,.eq rfl⟩,⟨_,rfl,.eq rfl⟩,⟨_,rfl,.eq rfl⟩,⟨_,rfl,.eq rfl⟩,⟨_,rfl,.eq rfl⟩,trivial⟩,⟨rfl,nofun,rfl,rfl,rfl,_,rfl,rfl,rfl,bG.of_eq rfl⟩,⟨rfl,nofun,rfl,rfl,rfl,_,rfl,rfl,rfl,bG.of_eq rfl⟩,⟨rfl,nofun,rfl,rfl,rfl,_,rfl,rfl,rfl,bG.of_eq rfl⟩,⟨rfl,nofun,rfl,rfl,rfl,_,rfl,rfl,rfl,bG.of_eq ?_⟩,trivial⟩
   rw[vP]; rfl
  have hi':i=(aO e.counts r.fr).length:=by have:(aO e.counts r.fr).length<=i:=(by simpa using g1); omega
  subst hi'
  have hR1:=hRB.get hn0 r.to.toNat
  conv=>whnf
  repeat(refine VC.mk (by first|(simp only[Rw.rng,qK]; omega)|(simp only[okI,aO,dW,Int.toNat_natCast] at *; omega)) ?_; conv=>whnf)
  refine ah.result (c:=dW (kF r (aO e.counts r.fr) (aO e.counts r.fr).length) r.to 1) rfl rfl ?_
  conv=>whnf
  exact aA.Vm rfl
def Dx(k:Int):FuncId:=bif k==1 then 83 else bif k==2 then 84 else 85
theorem S.kJ(k:Int):au Tryz.prog 62 [.int k] (.fn (Dx k) []):=by
 refine au.of Bd.kJ (by simp) rfl rfl ?_
 conv=>whnf
 refine⟨fun h1=>?_,fun h1=>?_⟩
 ·conv=>whnf
  refine aA.eqv ?_
  rw[Dx,show(k==1)=true from h1]; rfl
 ·conv=>whnf
  refine⟨fun h2=>?_,fun h2=>?_⟩
  ·conv=>whnf
   refine aA.eqv ?_
   rw[Dx,show(k==1)=false from h1,show(k==2)=true from h2]; rfl
  ·conv=>whnf
   refine aA.eqv ?_
   rw[Dx,show(k==1)=false from h1,show(k==2)=false from h2]; rfl
theorem S.apply(r:Rule)(e:Elem)(hr:ru r)(hp:sN e.counts.length r)(hc:Dk e.counts)(hl:e.counts.length<=6)(hk:r.kind=1\/r.kind=2\/r.kind=3): ∃ x,au Tryz.prog (Dx r.kind) [.agg (SH r e)] (.dM [.dat (.elem x),.bool (aX r e).isSome])/\ ∀ y,aX r e=some y->x=y:=by
 rcases hk with h|h|h
 ·rw[show Dx r.kind=83 by rw[Dx,h]; rfl]; exact S.MC r e hr hp hc hl h
 ·rw[show Dx r.kind=84 by rw[Dx,h]; rfl]; exact S.OQ r e hp hc hl h
 ·rw[show Dx r.kind=85 by rw[Dx,h]; rfl]; exact S.EM r e hp hc hl h
def Dy(l:List Bool):Int:=bif decide (l.findIdx (fun b=> !b)<l.length) then(l.findIdx (fun b=> !b):Nat) else -1
theorem J5{l:List Bool}{i:Nat}(h:(l.take i).all id=true)(hi:i<=l.length):l.findIdx (fun b=> !b)=i+(l.drop i).findIdx (fun b=> !b):=by
 induction i generalizing l with
 |zero=>simp
 |succ i ih =>
  cases l with
  |nil=>simp at hi
  |cons b l =>
   simp only[List.take_succ_cons,List.all_cons,id,Bool.and_eq_true] at h
   rw[List.findIdx_cons,h.1,List.drop_succ_cons]
   simp only[Bool.not_true,cond_false]
   rw[ih h.2 (by simpa using hi)]; omega
theorem S.Gn(l:List Bool)(f:Bool)(hl:l.length<2^30):au Tryz.prog 33 [.row 0 f (.bools l),.bool false] (.int (Dy l)):=by
 refine au.of Bd.kK (by simp) rfl rfl ?_
 conv=>whnf
 refine aU.same [0,1,6,7] (fun i:Nat=>[(8,.int i)]) (fun i=>i<=l.length/\(l.take i).all id=true) (fun i=>l.length-i) 0 rfl (by decide) rfl (fun _=>rfl) ⟨by omega,by simp⟩ ⟨⟨_,rfl,rfl⟩,trivial⟩ ?_
 conv=>whnf
 refine⟨rfl,?_⟩
 rintro i ⟨hi,hall⟩
 have hfd:=J5 hall hi
 conv=>whnf
 refine⟨fun h3=>?_,fun h3=>?_⟩
 ·have hi':i<l.length:=by simpa using h3
  rw[cO false hi',List.findIdx_cons] at hfd
  conv=>whnf
  refine .mk (by simp only[Rw.rng] at *; first|omega|(simp_all; done)|(simp_all; omega)) ?_
  conv=>whnf
  refine⟨fun h4=>?_,fun h4=>?_⟩
  ·have h4':l.getD i false=false:=by
    have h5:(false==l.getD i false)=true:=h4
    cases hb:l.getD i false with
    |false=>rfl
    |true=>rw[hb] at h5; cases h5
   conv=>whnf
   refine aA.int ?_
   rw[h4'] at hfd
   have Z9:l.findIdx (fun b=> !b)=i:=hfd
   rw[Dy,Z9,decide_eq_true hi']; rfl
  ·have h4':l.getD i false=true:=by
    have h5:(false==l.getD i false)=false:=h4
    cases hb:l.getD i false with
    |true=>rfl
    |false=>rw[hb] at h5; cases h5
   conv=>whnf
   refine .mk (by simp only[okI] at *; first|omega|(simp_all; done)|(simp_all; omega)) ?_
   conv=>whnf
   refine⟨i+1,⟨by omega,?_⟩,by omega,⟨⟨_,rfl,rfl⟩,trivial⟩,?_,rfl⟩
   ·rw[nZ (d:=false) hi' hall]; exact h4'
   ·repeat' (first|exact trivial|exact⟨_,rfl,rfl⟩|constructor)
 ·have hi':l.length<=i:=by simpa using h3
  rw[List.drop_eq_nil_of_le hi'] at hfd
  have Z9:l.findIdx (fun b=> !b)=i:=hfd
  conv=>whnf
  refine aA.int ?_
  rw[Dy,Z9,decide_eq_false (by omega)]; rfl
theorem S.jV(l:List Bool)(n:Nat)(f g:Bool)(hl:l.length<2^30)(hn:l.length<=n):au Tryz.prog 46 [.row 0 f (.bools l),.row 0 g (.bools (List.replicate n false))] (.bool (l.all id)):=by
 refine au.of Bd.jV (by simp) rfl rfl ?_
 conv=>whnf
 refine aU.same [1,7,8] (fun i:Nat=>[(9,.int i)]) (fun i=>i<=l.length/\(l.take i).all id=true) (fun i=>l.length-i) 0 rfl (by decide) rfl (fun _=>rfl) ⟨by omega,by simp⟩ ⟨⟨_,rfl,rfl⟩,trivial⟩ ?_
 conv=>whnf
 refine⟨rfl,?_⟩
 rintro i ⟨hi,hall⟩
 conv=>whnf
 refine⟨fun h3=>?_,fun h3=>?_⟩
 ·have hi':i<l.length:=by simpa using h3
  have hd:(List.replicate n false).getD i false=false:=by simp[List.getD_eq_getElem?_getD,show i<n by omega]
  conv=>whnf
  repeat(refine VC.mk (by first|(first|(intro _; simp only[Rw.rng,List.length_replicate]; omega)|(simp only[Rw.rng,List.length_replicate]; omega))|exact fun h=>h|(simp only[Rw.rng] at *; first|omega|(simp_all; done)|(simp_all; omega))) ?_; conv=>whnf)
  refine⟨fun h4=>?_,fun h4=>?_⟩
  ·have h4':l.getD i false=false:=by
    have h5:(!(l.getD i false)&& !((List.replicate n false).getD i false))=true:=h4
    rw[hd] at h5; simpa using h5
   conv=>whnf
   exact aA.bool (pO (p:=id) (d:=false) hi' h4')
  ·have h4':l.getD i false=true:=by
    have h5:(!(l.getD i false)&& !((List.replicate n false).getD i false))=false:=h4
    rw[hd] at h5; simpa using h5
   conv=>whnf
   refine .mk (by simp only[okI] at *; first|omega|(simp_all; done)|(simp_all; omega)) ?_
   conv=>whnf
   refine⟨i+1,⟨by omega,?_⟩,by omega,⟨⟨_,rfl,rfl⟩,trivial⟩,?_,rfl⟩
   ·rw[nZ (d:=false) hi' hall]; exact h4'
   ·repeat' (first|exact trivial|exact⟨_,rfl,rfl⟩|constructor)
 ·have hi':l.length<=i:=by simpa using h3
  rw[List.take_of_length_le hi'] at hall
  conv=>whnf
  exact aA.bool hall
theorem wO(l:List Clause):T.dh (l.map kT)=true:=by
 rw[fJ]; intro t ht; obtain⟨x,_,rfl⟩:=List.mem_map.1 ht; rfl
abbrev UW(l:List Clause):OV:=.row 36 4 (.clauses l) []
theorem Zi{h:Hz}{j:Nat}{l:List Clause}{Z:Nat->Prop}(hz:Z j)(q:h.get j=some (UW l)):T.sub Z h.aj (V.row 4 false (.clauses l)).aH (V.own j).aH:=by
 show T.sub Z h.aj (.sl 4 false (l.map kT)) (.own j)
 simp only[T.sub]
 refine⟨trivial,hz,wO l,by decide,36,?_⟩
 have:=aJ q; simpa [OV.aG,Rw.aS,V.aS] using this
theorem aA.abP{h:Hz}{j:Nat}{l:List Clause}(q:h.get j=some (UW l)):aA (.row 4 false (.clauses l)) (.own j) h:=⟨Zi trivial q⟩
theorem S.gZ(l a:List Clause)(f g:Bool)(hl:l.length<2^20)(ha:a.length<2^20):au Tryz.prog 23 [.row 4 f (.clauses l),.row 4 g (.clauses a)] (.row 4 false (.clauses (l++a))):=by
 refine au.of Bd.gZ (by simp) rfl rfl ?_
 conv=>whnf
 refine .mk (by simp only[Rw.qN]; omega) ?_
 conv=>whnf
 rw[show decide ((l.length:Int)=l.length)=true from decide_eq_true rfl]
 conv=>whnf
 have ht:(l.take (l.length:Int).toNat)=l:=List.take_length
 have hcap:oQ 72 (Rw.take (l.length:Int).toNat (Rw.clauses l)).len (og (Rw.clauses a) []):=by
  show((l.take (l.length:Int).toNat).length+(a.length+0))*72<=140737488355328/\(l.take (l.length:Int).toNat).length+(a.length+0)<=1152921504606846976
  rw[ht]; omega
 by_cases ha0:a=[]
 ·subst ha0
  refine OT.both hcap ?_ ⟨rfl,?_⟩
  ·conv=>whnf
   refine aA.abP ?_
   show some (UW (l.take (l.length:Int).toNat++[]))=_
   rw[ht]
  ·conv=>whnf
   refine aA.row ?_
   show Rw.clauses (l++[])=Rw.clauses (l.take (l.length:Int).toNat)
   rw[ht,List.append_nil]
 ·refine OT.one ⟨.inr ?_,hcap⟩ ?_
  ·have:=List.length_pos_iff.2 ha0
   show 0<a.length+0; omega
  ·conv=>whnf
   refine aA.abP ?_
   show some (UW (l.take (l.length:Int).toNat++a))=_
   rw[ht]
def EW(b:Int)(c:List Int):Prop:= ∀ x∈c,0<=x/\x<=b
theorem EW.g{b:Int}{c:List Int}(h:EW b c)(hb:0<=b)(i:Nat):0<=c.getD i 0/\c.getD i 0<=b:=by
 by_cases hi:i<c.length
 ·rw[show c.getD i 0=c[i] by simp[hi]]; exact h _ (List.getElem_mem hi)
 ·rw[show c.getD i 0=0 by simp[List.getD_eq_getElem?_getD,List.getElem?_eq_none (by omega:c.length<=i)]]; omega
theorem EW.add{b k d i:Int}{c:List Int}(h:EW b c)(hb:0<=b)(hd:0<=d/\d<=k):EW (b+k) (dW c i d):=by
 intro x hx
 have hg:=h.g hb i.toNat
 rcases List.mem_or_eq_of_mem_set hx with hx|rfl
 ·have:=h x hx; omega
 ·omega
theorem EW.dec{b i:Int}{c:List Int}(h:EW b c)(hb:0<=b)(h0:(c.getD i.toNat 0==0)=false):EW b (aO c i):=by
 intro x hx
 have hg:=h.g hb i.toNat
 have:=beq_eq_false_iff_ne.1 h0
 rcases List.mem_or_eq_of_mem_set hx with hx|rfl
 ·exact h x hx
 ·omega
theorem EW.resp{b:Int}{c:List Int}{r:Rule}(h:EW b c)(hb:0<=b): ∀ i:Nat,EW (i*b) (kF r c i):=by
 intro i
 induction i with
 |zero=>intro x hx; have:=List.eq_of_mem_replicate hx; subst this; simp
 |succ i ih =>
  rw[vP]
  have h0:0<=(i:Int)*b:=Int.mul_nonneg (by omega) hb
  have:=ih.add h0 (h.g hb i) (i:=r.response.getD i 0)
  have e:((i+1:Nat):Int)*b=i*b+b:=by rw[Int.natCast_succ,Int.add_mul,Int.one_mul]
  rw[e]; exact this
theorem EW.mono{b k:Int}{c:List Int}(h:EW b c)(hk:b<=k):EW k c:=fun x hx=>by have:=h x hx; omega
theorem XU{r:Rule}{e x:Elem}(hc:EW 8 e.counts)(hl:e.counts.length<=6)(h:aX r e=some x):Dk x.counts:=by
 have lift: ∀ {c:List Int} {v:Int},EW 100 c->some (⟨v,dW c r.to 1⟩:Elem)=some x->Dk x.counts:=by
  intro c v hc h; cases h
  exact(hc.add (k:=1) (by omega) ⟨by omega,by omega⟩).mono (by omega)
 unfold aX at h
 cases hs:(decide (0<=r.read)&&e.value !=r.read||e.counts.getD r.fr.toNat 0==0) with
 |true=>rw[hs] at h; cases h
 |false =>
  rw[hs] at h
  rw[Bool.or_eq_false_iff] at hs
  have h1:EW 8 (aO e.counts r.fr):=hc.dec (by omega) hs.2
  simp only[cond_false] at h
  rcases eP h with h|h
  ·rcases eP h with h|h
   ·cases h
   ·exact lift (h1.mono (by omega)) h
  ·cases hp:(aO e.counts r.fr).getD r.gU.toNat 0==0 with
   |true =>
    rw[hp] at h
    rcases eP h with h|h
    ·cases h
    ·rcases eP h with h|h
     ·refine lift ((h1.resp (by omega) (r:=r) (aO e.counts r.fr).length).mono ?_) h
      rw[jG]
      have:(e.counts.length:Int)*8<=6*8:=Int.mul_le_mul_of_nonneg_right (by omega) (by omega)
      omega
     ·exact lift (h1.mono (by omega)) h
   |false =>
    rw[hp] at h
    rcases eP h with h|h
    ·exact lift (((h1.dec (by omega) hp).add (k:=1) (by omega) ⟨by omega,by omega⟩).mono (by omega)) h
    ·rcases eP h with h|h
     ·refine lift ((h1.resp (by omega) (r:=r) (aO e.counts r.fr).length).mono ?_) h
      rw[jG]
      have:(e.counts.length:Int)*8<=6*8:=Int.mul_le_mul_of_nonneg_right (by omega) (by omega)
      omega
     ·exact lift (h1.mono (by omega)) h
theorem Vo{r:Rule}{e x:Elem}(h:aX r e=some x):x.value=BF r e:=by
 have lift: ∀ {c:List Int},some (⟨bif decide (r.write>=0) then r.write else e.value,c⟩:Elem)=some x->x.value=BF r e:=by
  intro c h; cases h; rfl
 unfold aX at h
 rcases eP h with h|h
 ·cases h
 rcases eP h with h|h
 ·rcases eP h with h|h
  ·cases h
  ·exact lift h
 rcases eP h with h|h
 ·rcases eP h with h|h
  ·cases h
  ·exact lift h
 rcases eP h with h|h
 ·exact lift h
 ·exact lift h
theorem MF: ∀ {l:List Int},Dw l=true->l.Pairwise (· < ·):=by
 intro l
 induction l with
 |nil=>intro _; exact List.Pairwise.nil
 |cons x r ih =>
  intro h
  cases r with
  |nil=>exact List.pairwise_singleton _ _
  |cons y r =>
   simp only[Dw,Bool.and_eq_true,decide_eq_true_eq] at h
   have h2:=ih h.2
   refine List.pairwise_cons.2 ⟨fun z hz=>?_,h2⟩
   rcases List.mem_cons.1 hz with rfl|hz
   ·exact h.1
   ·have:=(List.pairwise_cons.1 h2).1 z hz; omega
theorem OU{l:List Int}{n:Nat}(h:iP l n=0):En n l:=by
 refine⟨y5 h,MF ?_⟩
 unfold iP at h
 cases ha:l.any fun i=>yg i n with
 |true=>rw[ha] at h; cases h
 |false =>
  rw[ha] at h
  cases hi:Dw l with
  |true=>rfl
  |false=>rw[hi] at h; cases h
theorem QC{p:aW}{k:Clause}(h:xP p k=0):zD p.states.length p.values.length k:=by
 unfold xP at h
 obtain⟨h1,h⟩:=bz (fun _=>by decide) h
 obtain⟨h2,h⟩:=bz nz h
 obtain⟨h3,h4⟩:=bz nz h
 refine⟨by have:=of_decide_eq_false h1; omega,fun s hs=>?_,OU (by simpa using h3),OU h4⟩
 have:=je (by simpa using h2) (tu p.states.length s) (List.mem_map.2 ⟨s,hs,rfl⟩)
 unfold tu at this
 obtain⟨g1,g2⟩:=bz nz this
 refine⟨OU (by simpa using g1),fun e=>?_⟩
 subst e; exact absurd g2 (by decide)
structure jW(n vals:Nat)(l:List Clause):Prop where
 cl: ∀ k∈l,zD n vals k
 len:l.length<=1000
theorem Aj{p:aW}{l:List Clause}(h:mW p l=0):jW p.states.length p.values.length l/\l.length<=160:=by
 unfold mW at h
 obtain⟨h1,h⟩:=bz (fun _=>by decide) h
 have h1':l.length<=160:=by have:=of_decide_eq_false h1; omega
 exact⟨⟨fun k hk=>QC (je h _ (List.mem_map.2 ⟨k,hk,rfl⟩)),by omega⟩,h1'⟩
theorem zD.small{n vals:Nat}{k:Clause}(h:zD n vals k)(hn:n<=6)(hv:vals<=3):qY k:=by
 have h1:=h.two
 have h2:=h.values.len
 have h3:=h.some.len
 refine⟨by omega,fun i=>?_,by omega,by omega⟩
 by_cases hi:i<k.each.length
 ·have:=(h.each _ (getM (d:=[]) hi)).1.len; omega
 ·rw[show k.each.getD i []=[] by simp[List.getD_eq_getElem?_getD,List.getElem?_eq_none (by omega:k.each.length<=i)]]; decide
theorem jW.small{n vals:Nat}{l:List Clause}(h:jW n vals l)(hn:n<=6)(hv:vals<=3):SmallK l:=by
 have:=h.len
 refine⟨by omega,fun i=>?_⟩
 by_cases hi:i<l.length
 ·exact(h.cl _ (getM hi)).small hn hv
 ·rw[show l.getD i default=default by simp[List.getD_eq_getElem?_getD,List.getElem?_eq_none (by omega:l.length<=i)]]
  exact⟨by decide,fun i=>by show(([]:List (List Int)).getD i []).length<2^30; rw[List.getD_nil]; decide,by decide,by decide⟩
theorem jW.tab{n vals:Nat}{l:List Clause}{e:Elem}(h:jW n vals l)(hl:e.counts.length=n)(hc:Dk e.counts)(hn0:0<n)(Dl:n<=6)(hv:0<=e.value/\e.value<=1048576):Ir l e :=
 ⟨⟨vals,by rw[hl]; exact h.cl⟩,hc,⟨by omega,by omega⟩,hv⟩
theorem uH.nn{b n vals:Nat}{e:Elem}(h:uH b n vals e)(hb:b<=9):EW 8 e.counts:=fun x hx=>by have:=h.rng x hx; omega
theorem uH.Dk{b n vals:Nat}{e:Elem}(h:uH b n vals e)(hb:b<=9):Dk e.counts:=fun x hx=>by have:=h.rng x hx; omega
theorem jW.at{n vs vals:Nat}{l:List Clause}{b:Nat}{e:Elem}(h:jW n vs l)(he:uH b n vals e)(hb:b<=9)(hv:vals<=3)(hn0:0<n)(Dl:n<=6):Ir l e :=
 h.tab he.len (he.Dk hb) hn0 Dl ⟨he.val.1,by have:=he.val.2; omega⟩
theorem jW.app{n vals:Nat}{l a:List Clause}(h:jW n vals l)(g:jW n vals a)(hs:l.length+a.length<=1000):jW n vals (l++a) :=
 ⟨fun k hk=>(List.mem_append.1 hk).elim (h.cl k) (g.cl k),by rw[List.length_append]; exact hs⟩
end Go.Proofs.YtiakcepnlcpanaaGreatDoor
