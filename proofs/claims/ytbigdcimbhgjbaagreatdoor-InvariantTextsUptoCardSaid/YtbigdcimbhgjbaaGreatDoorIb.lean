/-
 A part of the proof. No condition.
-/
import Derived.Test.YtbigdcimbhgjbaaGreatDoorIa
namespace Go.Proofs.YtbigdcimbhgjbaaGreatDoor
open Go.Ab Go.Proofs
set_option maxRecDepth 100000
theorem S.P7(l:List Int)(f:Bool)(h0:0<l.length)(hl:l.length<2^30)(n:Nat):aP Tryz.prog 89 (V.aX [.row 0 f (.ints l)]) (Hz.aj []) n (fun t hp=>t= .own n/\hp=Hz.aj [(n,some (jV l))]):=by
 refine rY.of (nx:=0) (h0:=[]) Bd.jI (by simp) ⟨_,_,rfl,rfl⟩ rfl rfl ?_
 conv=>whnf
 refine VR.mk (fun hz=>?_) ?_
 ·exact absurd (show l.length=0 from hz) (by omega)
 ·conv=>whnf
  refine Fork.mk (fun q=>absurd (q.symm.trans ((rfl:false=false))).symm Bool.false_ne_true) (fun _=>?_)
  conv=>whnf
  refine .mk (by simp only[kQ,nO,Rw.len]; omega) ?_
  conv=>whnf
  repeat(refine VC.mk (by simp only[kQ,nO,Rw.len]; omega) ?_; conv=>whnf)
  exact kN.one (c:=n) (o:=jV l) (t:=.own n) rfl rfl rfl nofun (.inr rfl) rfl (.eq rfl) ⟨rfl,rfl⟩
theorem S.xY(l:List Int)(f:Bool)(h0:0<l.length)(hl:l.length<2^30):wF Tryz.prog 89 (V.aX [.row 0 f (.ints l)]) (fun n=>.own n) (some ⟨3,0,(Rw.ints l).aX⟩):=by
 refine⟨V.gJ [.row 0 f (.ints l)] rfl,fun _=>rfl,(fun ob h=>by cases h; rw[gY]; intro t ht; obtain⟨x,_,rfl⟩:=List.mem_map.1 ht; rfl),(fun ob h=>by cases h; exact fun e=>absurd e (by decide:(0:Nat)≠eU)),fun n=>(S.P7 l f h0 hl n).mono ?_⟩
 rintro t hp ⟨rfl,rfl⟩
 refine⟨rfl,?_⟩
 rw[aY]; simp[gu,OV.aF,V.aX]; rfl
abbrev hF(c:List Int):Hz:=[(1,some (.box 24 0 (.own 0))),(0,some (jV c))]
theorem kN.ofF{c:List Int}{h:Hz}{n:Nat}{v:V}{post:T->Hp->Prop}(q0:h.get 0=some (jV c))(q1:h.get 1=some (.box 24 0 (.own 0)))(hv:v.free=true)(hp:post v.aI (hF c).aj):kN (hF c) n post v h:=by
 refine kN.Rj (h2:=hF c) (u:=v) (fun _=>False) ⟨iZ (Z:=fun _=>False) q1 (fun q=>q),iZ (Z:=fun _=>False) q0 (fun q=>q),trivial⟩ ?_ hv (aB _) hp
 intro i o ho
 have hG:=pV (show wZ 2 (hF c)=true from rfl) i o.aF (aH ho)
 refine⟨by rw[aH ho]; rfl,T.ay (fun i hi=>?_) _ hG.2.1,hG.2.2⟩
 match i,hi with
 |0,_=>rfl
 |1,_=>rfl
 |k+2,hk=>exact absurd hk (by omega)
theorem S.YU(c:List Int)(x:Int)(hx:0<=x/\x<c.length)(hc:c.length<2^30)(n:Nat):aP Tryz.prog 134 (V.aX [.int x,.ptr 1 0 0]) (hF c).aj n (fun t hp=>t= .bool (decide (c.getD x.toNat 0>0))/\hp=(hF c).aj):=by
 refine rY.of (nx:=2) Bd.pW (by simp) ⟨_,_,rfl,rfl⟩ rfl rfl ?_
 conv=>whnf
 repeat(refine VC.mk (by simp only[Rw.rng]; omega) ?_; conv=>whnf)
 exact kN.ofF rfl rfl rfl ⟨rfl,rfl⟩
def KL(c:List Int):List Int->Nat->Int
 |[],_=> -1
 |x::r,i=>bif decide (c.getD x.toNat 0>0) then(i:Int) else KL c r (i+1)
theorem YV{c l:List Int}:decide (0<=KL c l 0)=l.any fun x=>decide (c.getD x.toNat 0>0):=by
 have: ∀ {l:List Int} {i:Nat},0<=KL c l i↔(l.any fun x=>decide (c.getD x.toNat 0>0))=true:=by
  intro l
  induction l with
  |nil=>intro i; simp[KL]
  |cons x r ih =>
   intro i
   rw[List.any_cons,Bool.or_eq_true,<- ih (i:=i+1)]
   show(0:Int)<=(bif decide (c.getD x.toNat 0>0) then(i:Int) else KL c r (i+1))↔_
   generalize decide (c.getD x.toNat 0>0)=b
   cases b<;>simp
 rw[Bool.eq_iff_iff,decide_eq_true_eq]; exact this
theorem S.P8(c l:List Int)(f:Bool)(hl:l.length<2^30)(hp:sK c.length l)(hc:c.length<2^30)(n:Nat):aP Tryz.prog 137 (V.aX [.row 0 f (.ints l),.fn 134 [.ptr 1 0 0]]) (hF c).aj n (fun t hp=>t= .int (KL c l 0)/\hp=(hF c).aj):=by
 refine rY.of (nx:=2) Bd.jX (by simp) ⟨_,_,rfl,rfl⟩ rfl rfl ?_
 conv=>whnf
 refine aQ.same [0,1,6,7] (fun i:Nat=>[(8,.int i)]) (fun i=>i<=l.length/\KL c l 0=KL c (l.drop i) i) (fun i=>l.length-i) 0 rfl (by decide) rfl (fun _=>rfl) ⟨by omega,by simp⟩ ⟨⟨_,rfl,rfl⟩,trivial⟩ ?_
 conv=>whnf
 refine⟨rfl,?_⟩
 rintro i ⟨hi,hall⟩
 conv=>whnf
 refine⟨fun h3=>?_,fun h3=>?_⟩
 ·have hi':i<l.length:=by simpa using h3
  rw[aZ 0 hi'] at hall
  simp only[KL] at hall
  conv=>whnf
  refine .mk (by simp only[Rw.rng] at *; first|omega|(simp_all; done)|(simp_all; omega)) ?_
  conv=>whnf
  refine ah.heap (S.YU c (l.getD i 0) (hp _ (getM hi')) hc _) ?_
  rintro t hp ⟨rfl,rfl⟩
  refine⟨.bool _,hF c,rfl,rfl,?_⟩
  conv=>whnf
  refine⟨fun h4=>?_,fun h4=>?_⟩
  ·conv=>whnf
   rw[h4] at hall
   exact kN.ofF rfl rfl rfl ⟨by rw[hall]; rfl,rfl⟩
  ·conv=>whnf
   refine .mk (by simp only[okI] at *; first|omega|(simp_all; done)|(simp_all; omega)) ?_
   conv=>whnf
   rw[h4] at hall
   refine⟨i+1,⟨by omega,hall⟩,by omega,⟨⟨_,rfl,rfl⟩,trivial⟩,?_,rfl⟩
   repeat' (first|exact trivial|exact⟨_,rfl,rfl⟩|constructor)
 ·conv=>whnf
  have hi':l.length<=i:=by simpa using h3
  rw[List.drop_eq_nil_of_le hi'] at hall
  exact kN.ofF rfl rfl rfl ⟨by rw[hall]; rfl,rfl⟩
theorem S.I9(c l:List Int)(f:Bool)(hl:l.length<2^30)(hp:sK c.length l)(hc:c.length<2^30)(n:Nat):aP Tryz.prog 133 (V.aX [.row 0 f (.ints l),.fn 134 [.ptr 1 0 0]]) (hF c).aj n (fun t hp=>t= .bool (uJ [] l c)/\hp=(hF c).aj):=by
 refine rY.of (nx:=2) Bd.iU (by simp) ⟨_,_,rfl,rfl⟩ rfl rfl ?_
 conv=>whnf
 refine ah.heap (S.P8 c l f hl hp hc _) ?_
 rintro t hp ⟨rfl,rfl⟩
 refine⟨.int _,hF c,rfl,rfl,?_⟩
 conv=>whnf
 exact kN.ofF rfl rfl rfl ⟨by rw[show uJ [] l c=_ from YV.symm]; rfl,rfl⟩
theorem TM{c:List Int}{x:Int}(hx:0<=x/\x<c.length):((iR c x).set x.toNat ((iR c x).getD x.toNat 0+1))=c:=by
 have hlt:x.toNat<c.length:=by omega
 have e:(iR c x).getD x.toNat 0=c.getD x.toNat 0-1:=by
  have:=CU (c:=c) (b:=x) hx hx.1
  simpa using this
 rw[e,Int.sub_add_cancel]
 unfold iR
 rw[List.set_set]
 refine List.ext_getElem (by simp) fun i h1 h2=>?_
 rw[List.getElem_set]
 split
 ·rename_i e; subst e; simp[hlt]
 ·rfl
theorem S.kR(l:List Int)(g:Bool)(hl:l.length<2^30): ∀ (each:List (List Int)) (c:List Int) (f:Bool),each.length<2^30->c.length<2^30->Fq c->sK c.length l->(∀ s∈each,sK c.length s/\s.length<2^30)->(each.length:Int)<=2->aP Tryz.prog 121 (V.aX [.row 0 f (.jT each),.row 0 g (.ints l),.own 0]) (Hz.aj [(0,some (jV c))]) 1 (fun t hp=>t= .bool (uJ each l c)/\hp=Hz.aj [(0,some (jV c))]):=by
 intro each
 induction each with
 |nil =>
  intro c f he hc hb hp hs h2
  refine rY.of (nx:=1) (h0:=[(0,some (jV c))]) Bd.kR (by simp) ⟨_,_,rfl,rfl⟩ rfl rfl ?_
  conv=>whnf
  refine Fork.mk (fun _=>?_) (fun q=>absurd (q.symm.trans ((rfl:true=true))) Bool.false_ne_true)
  conv=>whnf
  refine ah.heap (S.I9 c l g hl hp hc _) ?_
  rintro t hp' ⟨rfl,rfl⟩
  refine⟨.bool _,hF c,rfl,rfl,?_⟩
  conv=>whnf
  exact kN.same (nx:=1) rfl ⟨rfl,trivial⟩ rfl rfl ⟨rfl,rfl⟩
 |cons s each ih =>
  intro c f he hc hb hp hs h2
  refine rY.of (nx:=1) (h0:=[(0,some (jV c))]) Bd.kR (by simp) ⟨_,_,rfl,rfl⟩ rfl rfl ?_
  conv=>whnf
  refine Fork.mk (fun q=>absurd (q.symm.trans ((rfl:false=false))).symm Bool.false_ne_true) (fun _=>?_)
  conv=>whnf
  refine .mk (by simp only[Rw.rng] at *; first|omega|(simp_all; done)|(simp_all; omega)) ?_
  conv=>whnf
  conv=>whnf
  obtain⟨hs1,hs2⟩:=hs s (by simp)
  refine aQ.AL 2 [0,1,5,18,19] (fun i:Nat=>[(20,.int i)]) (fun _=>[(1,.box 24 0 (.own 0)),(0,jV c)]) (fun i=>i<=s.length/\(s.take i).all (fun x=>c.getD x.toNat 0==0||uJ each l (iR c x))=true) (fun i=>s.length-i) 0 [1,0] rfl (by decide) (fun _=>rfl) ⟨by omega,by simp⟩ ?_ ?_ ?_
  ·exact(sR rfl)
  ·exact⟨vM rfl rfl rfl ⟨rfl,rfl⟩ (dD.of_eq rfl),iG rfl rfl,trivial⟩
  conv=>whnf
  refine⟨(sR rfl),rfl,?_⟩
  rintro i ⟨hi,hall⟩
  conv=>whnf
  refine⟨fun h3=>?_,fun h3=>?_⟩
  ·have hi':i<s.length:=by simpa using h3
   obtain⟨p1,p2⟩:=hs1 _ (getM (d:=0) hi')
   have hg:=hb.g (s.getD i 0).toNat
   have hnext:=tY (d:=0) hi' hall
   have acA:=fun h=>uN (p:=fun x=>c.getD x.toNat 0==0||uJ each l (iR c x)) (d:=0) hi' h
   conv=>whnf
   repeat(refine VC.mk (by simp only[Rw.rng] at *; first|omega|(simp_all; done)|(simp_all; omega)) ?_; conv=>whnf)
   refine⟨fun h4=>?_,fun h4=>?_⟩
   ·have h4':(c.getD (s.getD i 0).toNat 0==0)=true:=h4
    conv=>whnf
    refine .mk (by simp only[okI] at *; first|omega|(simp_all; done)|(simp_all; omega)) ?_
    conv=>whnf
    refine⟨i+1,[1,0],⟨by omega,?_⟩,by omega,(sR rfl),(sR rfl),vM rfl rfl rfl ⟨rfl,rfl⟩ (dD.of_eq rfl),iG rfl rfl,trivial⟩
    rw[hnext,h4']; rfl
   have h4':(c.getD (s.getD i 0).toNat 0==0)=false:=h4
   have hnz:c.getD (s.getD i 0).toNat 0≠0:=beq_eq_false_iff_ne.1 h4'
   conv=>whnf
   repeat(refine VC.mk (by first|(first|(simp only[Rw.rng,Int.toNat_natCast]; omega)|(simp only[okI,Int.toNat_natCast]; omega)|(simp only[Rw.oK,List.length_cons]; omega))|(simp only[okI,Rw.rng] at *; first|omega|(simp_all; done)|(simp_all; omega))) ?_; conv=>whnf)
   refine ah.GX (i:=0) (ts:=[.row 0 f (.jT each),.row 0 g (.ints l),.own 0]) (ih (iR c (s.getD i 0)) f (by simp only[List.length_cons] at he; omega) (by simp only[iR,List.length_set]; exact hc) ?_ (by simp only[iR,List.length_set]; exact hp) (fun t ht=>by simp only[iR,List.length_set]; exact hs t (List.mem_cons_of_mem _ ht)) (by simp only[List.length_cons] at h2; omega)) (by rfl) (by rfl) (by rfl) (by rfl) (by rfl) (by rfl) ?_
   ·intro x hx
    have:=List.mem_or_eq_of_mem_set hx
    rcases this with h|rfl
    ·exact hb x h
    ·omega
   rintro t hp' ⟨rfl,rfl⟩
   refine .inl ⟨.bool _,jV (iR c (s.getD i 0)),rfl,rfl,rfl,?_⟩
   have htg:(iR c (s.getD i 0)).getD (s.getD i 0).toNat 0=c.getD (s.getD i 0).toNat 0-1:=by
    have:=CU (c:=c) (b:=s.getD i 0) ⟨p1,p2⟩ p1
    simpa using this
   have hbk:=TM (c:=c) ⟨p1,p2⟩
   have hr2:Rw.rng ((s.getD i 0).toNat:Int) (.ints (iR c (s.getD i 0))):=⟨by omega,by simp only[iR,List.length_set]; omega⟩
   conv=>whnf
   repeat(refine VC.mk (by first|exact hr2|(exact⟨p1,by simp only[iR,List.length_set]; exact p2⟩)|(show okI ((iR c (s.getD i 0)).getD (s.getD i 0).toNat 0+1); rw[htg]; simp only[okI]; omega)) ?_; conv=>whnf)
   refine⟨fun h5=>?_,fun h5=>?_⟩
   ·have h5':uJ each l (iR c (s.getD i 0))=false:=by simpa using h5
    conv=>whnf
    refine kN.same (nx:=1) rfl ⟨congrArg (fun l=>some (jV l)) hbk,trivial⟩ rfl rfl ⟨?_,rfl⟩
    rw[show uJ (s::each) l c=false from acA (by rw[h4',h5']; rfl)]; rfl
   ·have h5':uJ each l (iR c (s.getD i 0))=true:=by simpa using h5
    conv=>whnf
    refine .mk (by simp only[okI,Rw.rng] at *; first|omega|(simp_all; done)|(simp_all; omega)) ?_
    conv=>whnf
    refine⟨i+1,[1,0],⟨by omega,?_⟩,by omega,(sR rfl),(sR rfl),vM rfl rfl rfl ⟨rfl,rfl⟩ (dD.of_eq rfl),okF rfl (fun _=>rfl) rfl rfl rfl ⟨rfl,rfl⟩ ?_,trivial⟩
    ·rw[hnext,h5',Bool.or_true]
    ·exact congrArg (fun l=>(jV l).aF.l) hbk.symm
  ·have hi':s.length<=i:=by simpa using h3
   rw[List.take_of_length_le hi'] at hall
   conv=>whnf
   exact kN.same (nx:=1) rfl ⟨rfl,trivial⟩ rfl rfl ⟨by rw[show uJ (s::each) l c=true from hall]; rfl,rfl⟩
theorem ah.aaR{P:Program}{f:FuncId}{args:List V}{h:Hz}{n ty k:Nat}{r:Rw}{K:V->Hz->Prop}{KW:Nat->V->Hz->Prop}(H:wF P f (V.aX args) (fun n=>.own n) (some ⟨ty,k,r.aX⟩))(hn:h.get n=none)(hK:KW 0 (.own n) ((n,some (.row ty k r []))::h)):ah P true none f args h n K KW :=
 ⟨.inr (.inr ⟨rfl,rfl,hn,(wF.frame H _ _).mono (by rintro t hp ⟨rfl,rfl⟩; exact⟨.own n,_,rfl,by rw[aY]; simp[gu,OV.aF,V.aX],hK⟩)⟩)⟩
theorem S.lT(k:Clause)(e:Elem)(h:acy k e)(h0:0<e.counts.length)(hk:k.values.length<2^30):ak Tryz.prog 90 [.dat (.clause k),.dat (.elem e)] (.bool (holdsB k e)):=by
 obtain⟨⟨vals,hcl⟩,hok,hln⟩:=h
 have hS:=hcl.some.len
 have h2:=hcl.two
 refine ak.of Bd.lT (by simp) rfl rfl ?_
 conv=>whnf
 repeat(refine VC.mk (by first|exact id|exact fun h=>⟨h,h⟩) ?_; conv=>whnf)
 refine ah.iD (fun _=>S.slices_Contains_int k.values e.value false (by omega)) rfl ?_
 conv=>whnf
 repeat(refine VC.mk id ?_; conv=>whnf)
 refine⟨fun h1=>?_,fun h1=>?_⟩
 ·conv=>whnf
  exact au.bool (by rw[holdsB,show VT k e.value=true from h1]; rfl)
 have hfree:VT k e.value=false:=h1
 conv=>whnf
 refine ah.aaR (r:=.ints e.counts) (S.xY e.counts false h0 (by omega)) rfl ?_
 conv=>whnf
 refine ah.GX (ts:=[.row 0 false (.jT k.each),.row 0 false (.ints k.some),.own 0]) (S.kR k.some false (by omega) k.each e.counts false (by omega) (by omega) hok hcl.some.place (fun s hs=>⟨(hcl.each s hs).1.place,by have:=(hcl.each s hs).1.len; omega⟩) (by omega)) (by rfl) (by rfl) (by rfl) (by rfl) (by rfl) (by rfl) ?_
 rintro t hp' ⟨rfl,rfl⟩
 refine .inl ⟨.bool _,jV e.counts,rfl,rfl,rfl,?_⟩
 conv=>whnf
 exact au.bool (by rw[holdsB,hfree]; rfl)
theorem TN{α:Type}{P Q:List α}{x z:α}{k:Nat}(h:k=P.length):(P++x::Q).set k z=P++z::Q:=by
 subst h; simp
theorem V5{α:Type}{P Q:List α}{x d:α}{k:Nat}(h:k=P.length):(P++x::Q).getD k d=x:=by
 subst h; simp
theorem JF(l:List Int):T.qN (Rw.ints l).aX=true:=by
 show T.qN (l.map T.int)=true
 induction l with
 |nil=>rfl
 |cons s r ih=>simp only[List.map_cons,T.qN,ih]; rfl
set_option maxHeartbeats 2000000 in
theorem S.fQ(p:aS)(n vals m:Nat)(_hp:dK p)(hn:p.states.length=n)(hn0:0<n)(KN:n<=6)(hvs:max 1 p.values.length=vals)(rZ:vals<=3)(hm8:m<=8) :
  ak Tryz.prog 57 [.dat (.eu p),.int m] (.row 3 false (.elems (jW (m+1) n vals))):=by
 have hb0:0<m+1:=by omega
 have h46:(m+1)^n<=531441:=zW (by omega) KN
 refine ak.of Bd.fQ (by simp) rfl rfl ?_
 conv=>whnf
 refine aQ.nil 5 66 3 (by rfl) rfl rfl rfl ?_
 refine aQ.objs 2 [1,2,12] (fun v:Nat=>[(13,.int v),(5,.own 1)]) (fun v=>[(0,.box 27 11 (.dat (.eu p))),(1,qZ (jW (m+1) n v))]) (fun v=>v<=vals) (fun v=>vals-v) 0 [0,8] rfl (by decide) (fun _=>rfl) (Nat.zero_le _) ?_ ?_ ?_
 ·exact(sR rfl)
 ·exact⟨rQ rfl rfl,rQ rfl rfl,trivial⟩
 conv=>whnf
 refine⟨(sR rfl),rfl,?_⟩
 rintro v hv
 have hrl:(jW (m+1) n v).length=v*((m+1)^n-1):=wY
 have hr2:v*((m+1)^n-1)<=3*531441:=Nat.mul_le_mul (by omega) (by omega)
 conv=>whnf
 refine⟨fun h3=>?_,fun h3=>?_⟩
 ·have hv':v<vals:=by
   have:(v:Int)<max 1 (p.values.length:Int):=of_decide_eq_true h3
   omega
  conv=>whnf
  have hm:=CP (n:=p.states.length) (by omega)
  rw[hm]
  conv=>whnf
  refine .mk (by omega) ?_
  conv=>whnf
  refine aQ.aam 3 [1,2,6,12,13] (fun u:Nat=>[(5,.own 1),(7,.own 2)]) (fun u=>[(0,.box 27 11 (.dat (.eu p))),(1,qZ (jW (m+1) n v++wL (m+1) n v u)),(2,jV (kZ (m+1) n u))]) (fun u=>u<(m+1)^n) (fun u=>(m+1)^n-u) 0 [0,1,8] [(0,some (.box 27 11 (.dat (.eu p)))),(1,some (qZ (jW (m+1) n v))),(8,some (jV (List.replicate p.states.length 0)))] rfl (by decide) (fun _=>rfl) (Nat.pow_pos hb0) ?_ ?_ ?_ ?_
  ·exact(sR rfl)
  ·exact⟨fun _=>False,iZ (Z:=fun _=>False) rfl (fun q=>q),iZ (Z:=fun _=>False) rfl (fun q=>q),iZ (Z:=fun _=>False) rfl (fun q=>q),trivial⟩
  ·exact⟨iG rfl rfl,okF rfl nofun rfl rfl rfl ⟨rfl,rfl⟩ (by simp[wL]),okF rfl nofun rfl rfl rfl ⟨rfl,rfl⟩ (by rw[Jv hb0,hn]),trivial⟩
  conv=>whnf
  refine⟨(sR rfl),rfl,?_⟩
  rintro u hu
  have hdl:(kZ (m+1) n u).length=n:=fU
  conv=>whnf
  refine .mk (by first|(simp only[okI,fU]; omega)|omega) ?_
  conv=>whnf
  refine aQ.objs 3 [1,2,6,12,13] (fun k:Nat=>[(8,.int ((n:Int)-1-k)),(5,.own 1),(7,.own 2)]) (fun k=>[(0,.box 27 11 (.dat (.eu p))),(1,qZ (jW (m+1) n v++wL (m+1) n v u)),(2,jV (sW (m+1) n u k))]) (fun k=>k<=n/\u+1=(u / (m+1)^k+1)*(m+1)^k) (fun k=>n-k) 0 [0,1,2] rfl (by decide) (fun _=>rfl) ⟨Nat.zero_le _,by simp⟩ ?_ ?_ ?_
  ·refine⟨⟨_,rfl,.eq ?_⟩,⟨_,rfl,.eq rfl⟩,⟨_,rfl,.eq rfl⟩,trivial⟩
   show T.int ((n:Int)-1-((0:Nat):Int))=T.int (((kZ (m+1) n u).length:Int)-1)
   rw[fU]; exact congrArg T.int (by omega)
  ·refine⟨rQ rfl rfl,rQ rfl rfl,⟨rfl,nofun,rfl,rfl,rfl,_,rfl,rfl,rfl,dD.of_eq ?_⟩,trivial⟩
   rw[GH]
  conv=>whnf
  refine⟨(sR rfl),rfl,?_⟩
  rintro k ⟨hk,hvk⟩
  have hbl:=Jw (b:=m+1) (v:=u) hk
  have hcell:k<n->(sW (m+1) n u k).getD (n-1-k) 0=((u / (m+1)^k % (m+1):Nat):Int):=fun hkn=>by
   rw[oQ hkn]; exact V5 (by rw[fU]; omega)
  have hti:((n:Int)-1-k).toNat=n-1-k:=by omega
  conv=>whnf
  repeat(refine VC.mk (by first|exact id|exact fun h=>⟨h,h⟩|(intro h; (repeat' apply And.intro)<;>first|exact h|omega|(simp only[Rw.oK]; omega)|(simp only[Rw.rng]; omega))|(simp only[Rw.rng] at *; first|omega|(simp_all; done)|(simp_all; omega))) ?_; conv=>whnf)
  refine⟨fun h6=>?_,fun h6=>?_⟩
  ·rw[Bool.and_eq_true] at h6
   have hkn:k<n:=by have:=of_decide_eq_true h6.1; omega
   have h3:u / (m+1)^k % (m+1)+1=m+1:=by
    have:=beq_iff_eq.1 h6.2
    rw[hti,hcell hkn] at this; omega
   conv=>whnf
   repeat(refine VC.mk (by first|(simp only[okI]; omega)|(simp only[Rw.rng,hbl]; omega)) ?_; conv=>whnf)
   refine⟨k+1,[0,1,2],⟨by omega,GK hb0 h3 hvk⟩,by omega,⟨⟨_,rfl,.eq ?_⟩,⟨_,rfl,.eq rfl⟩,⟨_,rfl,.eq rfl⟩,trivial⟩,(sR rfl),rQ rfl rfl,rQ rfl rfl,⟨rfl,nofun,rfl,rfl,rfl,_,rfl,rfl,rfl,dD.of_eq ?_⟩,trivial⟩
   ·show T.int ((n:Int)-1-((k+1:Nat):Int))=T.int ((n:Int)-1-(k:Int)-1)
    exact congrArg T.int (by omega)
   ·rw[hti,GI hkn,oQ hkn,TN (by rw[fU]; omega)]
  conv=>whnf
  refine⟨fun h7=>?_,fun h7=>?_⟩
  ·have hkn:k=n:=by have:=of_decide_eq_true h7; omega
   subst hkn
   have hlast:=Nc hu hvk
   have hu':u=(m+1)^k-1:=by omega
   rw[hu',<- Eb]
   conv=>whnf
   refine .mk (by first|(simp only[okI]; omega)|omega) ?_
   conv=>whnf
   refine⟨v+1,[0,1],by omega,by omega,(sR rfl),(sR rfl),rQ rfl rfl,rQ rfl rfl,trivial⟩
  ·have hkn:k<n:=by have:=of_decide_eq_false h7; omega
   have h3:u / (m+1)^k % (m+1)+1≠m+1:=by
    rw[Bool.and_eq_false_iff] at h6
    rcases h6 with h6|h6
    ·have:=of_decide_eq_false h6; omega
    ·intro e
     have h6':((sW (m+1) n u k).getD ((n:Int)-1-k).toNat 0==(m:Int))=false:=h6
     rw[hti,hcell hkn] at h6'
     exact beq_eq_false_iff_ne.1 h6' (by omega)
   have hlt4:u / (m+1)^k % (m+1)<m+1:=Nat.mod_lt _ hb0
   have hc0:=hcell hkn
   have huv:(jW (m+1) n v++wL (m+1) n v u).length<=4*531441:=by rw[List.length_append,GL]; omega
   have hinc:=Jy hb0 hkn h3 hvk
   have hset:(sW (m+1) n u k).set (n-1-k) (((u / (m+1)^k % (m+1):Nat):Int)+1)=kZ (m+1) n (u+1):=by
    rw[<- hinc,oQ hkn,TN (by rw[fU]; omega)]
   conv=>whnf
   repeat(refine VC.mk (by first|(simp only[okI,hti,hc0]; omega)|(simp only[Rw.rng,hbl]; omega)) ?_; conv=>whnf)
   rw[hti,hc0,hset]
   refine ah.KO (r:=.ints (kZ (m+1) n (u+1))) (S.xY (kZ (m+1) n (u+1)) false (by rw[fU]; omega) (by rw[fU]; omega)) (And.intro (Jq trivial rfl) trivial) (JF _) ?_
   conv=>whnf
   refine .mk (by first|(show((jW (m+1) n v++wL (m+1) n v u).length+(0+1))*32<=140737488355328/\(jW (m+1) n v++wL (m+1) n v u).length+(0+1)<=1152921504606846976; omega)|(simp only[kQ,nO,Rw.len,List.length_cons,List.length_nil,fU]; omega)) ?_
   conv=>whnf
   refine⟨[(0,some (.box 27 11 (.dat (.eu p)))),(28,some (qZ ((jW (m+1) n v++wL (m+1) n v u)++[⟨(v:Int),kZ (m+1) n (u+1)⟩]))),(2,some (jV (kZ (m+1) n (u+1))))],u+1,[0,28,2],⟨fun i=>i=25,iZ (Z:=fun i=>i=25) (i:=0) rfl (by decide),Nk (Z:=fun i=>i=25) (i:=28) (j:=25) rfl (by decide) rfl rfl,iZ (Z:=fun i=>i=25) (i:=2) rfl (by decide),trivial⟩,Rz hb0 hkn hu h3 hvk,by omega,(sR rfl),(sR rfl),iG rfl rfl,okF rfl nofun rfl rfl rfl ⟨rfl,rfl⟩ ?_,iG rfl rfl,trivial⟩
   rw[Jz,<- List.append_assoc]
 ·have hv':v=vals:=by
   have: ¬ (v:Int)<max 1 (p.values.length:Int):=of_decide_eq_false h3
   omega
  rw[hv']
  conv=>whnf
  exact au.adH rfl
set_option maxHeartbeats 2000000 in
theorem S.TP(z:Nat)(p:aS)(n vals m:Nat)(_hp:dK p)(hn:p.states.length=n)(hn0:0<n)(KN:n<=6)(hvs:max 1 p.values.length=vals)(rZ:vals<=3)(hm8:m<=8) :
  aP Tryz.prog 57 (V.aX [.dat (.eu p),.int m]) (Hz.aj []) z (fun t hp=>t= .own z/\hp=Hz.aj [(z,some (qZ (jW (m+1) n vals)))]):=by
 have hb0:0<m+1:=by omega
 have h46:(m+1)^n<=531441:=zW (by omega) KN
 refine rY.of (nx:=0) (h0:=[]) Bd.fQ (by simp) ⟨_,_,rfl,rfl⟩ rfl rfl ?_
 conv=>whnf
 refine aQ.nil 5 66 3 (by rfl) rfl rfl rfl ?_
 refine aQ.objs 2 [1,2,12] (fun v:Nat=>[(13,.int v),(5,.own 1)]) (fun v=>[(0,.box 27 11 (.dat (.eu p))),(1,qZ (jW (m+1) n v))]) (fun v=>v<=vals) (fun v=>vals-v) 0 [0,8] rfl (by decide) (fun _=>rfl) (Nat.zero_le _) ?_ ?_ ?_
 ·exact(sR rfl)
 ·exact⟨rQ rfl rfl,rQ rfl rfl,trivial⟩
 conv=>whnf
 refine⟨(sR rfl),rfl,?_⟩
 rintro v hv
 have hrl:(jW (m+1) n v).length=v*((m+1)^n-1):=wY
 have hr2:v*((m+1)^n-1)<=3*531441:=Nat.mul_le_mul (by omega) (by omega)
 conv=>whnf
 refine⟨fun h3=>?_,fun h3=>?_⟩
 ·have hv':v<vals:=by
   have:(v:Int)<max 1 (p.values.length:Int):=of_decide_eq_true h3
   omega
  conv=>whnf
  have hm:=CP (n:=p.states.length) (by omega)
  rw[hm]
  conv=>whnf
  refine .mk (by omega) ?_
  conv=>whnf
  refine aQ.aam 3 [1,2,6,12,13] (fun u:Nat=>[(5,.own 1),(7,.own 2)]) (fun u=>[(0,.box 27 11 (.dat (.eu p))),(1,qZ (jW (m+1) n v++wL (m+1) n v u)),(2,jV (kZ (m+1) n u))]) (fun u=>u<(m+1)^n) (fun u=>(m+1)^n-u) 0 [0,1,8] [(0,some (.box 27 11 (.dat (.eu p)))),(1,some (qZ (jW (m+1) n v))),(8,some (jV (List.replicate p.states.length 0)))] rfl (by decide) (fun _=>rfl) (Nat.pow_pos hb0) ?_ ?_ ?_ ?_
  ·exact(sR rfl)
  ·exact⟨fun _=>False,iZ (Z:=fun _=>False) rfl (fun q=>q),iZ (Z:=fun _=>False) rfl (fun q=>q),iZ (Z:=fun _=>False) rfl (fun q=>q),trivial⟩
  ·exact⟨iG rfl rfl,okF rfl nofun rfl rfl rfl ⟨rfl,rfl⟩ (by simp[wL]),okF rfl nofun rfl rfl rfl ⟨rfl,rfl⟩ (by rw[Jv hb0,hn]),trivial⟩
  conv=>whnf
  refine⟨(sR rfl),rfl,?_⟩
  rintro u hu
  have hdl:(kZ (m+1) n u).length=n:=fU
  conv=>whnf
  refine .mk (by first|(simp only[okI,fU]; omega)|omega) ?_
  conv=>whnf
  refine aQ.objs 3 [1,2,6,12,13] (fun k:Nat=>[(8,.int ((n:Int)-1-k)),(5,.own 1),(7,.own 2)]) (fun k=>[(0,.box 27 11 (.dat (.eu p))),(1,qZ (jW (m+1) n v++wL (m+1) n v u)),(2,jV (sW (m+1) n u k))]) (fun k=>k<=n/\u+1=(u / (m+1)^k+1)*(m+1)^k) (fun k=>n-k) 0 [0,1,2] rfl (by decide) (fun _=>rfl) ⟨Nat.zero_le _,by simp⟩ ?_ ?_ ?_
  ·refine⟨⟨_,rfl,.eq ?_⟩,⟨_,rfl,.eq rfl⟩,⟨_,rfl,.eq rfl⟩,trivial⟩
   show T.int ((n:Int)-1-((0:Nat):Int))=T.int (((kZ (m+1) n u).length:Int)-1)
   rw[fU]; exact congrArg T.int (by omega)
  ·refine⟨rQ rfl rfl,rQ rfl rfl,⟨rfl,nofun,rfl,rfl,rfl,_,rfl,rfl,rfl,dD.of_eq ?_⟩,trivial⟩
   rw[GH]
  conv=>whnf
  refine⟨(sR rfl),rfl,?_⟩
  rintro k ⟨hk,hvk⟩
  have hbl:=Jw (b:=m+1) (v:=u) hk
  have hcell:k<n->(sW (m+1) n u k).getD (n-1-k) 0=((u / (m+1)^k % (m+1):Nat):Int):=fun hkn=>by
   rw[oQ hkn]; exact V5 (by rw[fU]; omega)
  have hti:((n:Int)-1-k).toNat=n-1-k:=by omega
  conv=>whnf
  repeat(refine VC.mk (by first|exact id|exact fun h=>⟨h,h⟩|(intro h; (repeat' apply And.intro)<;>first|exact h|omega|(simp only[Rw.oK]; omega)|(simp only[Rw.rng]; omega))|(simp only[Rw.rng] at *; first|omega|(simp_all; done)|(simp_all; omega))) ?_; conv=>whnf)
  refine⟨fun h6=>?_,fun h6=>?_⟩
  ·rw[Bool.and_eq_true] at h6
   have hkn:k<n:=by have:=of_decide_eq_true h6.1; omega
   have h3:u / (m+1)^k % (m+1)+1=m+1:=by
    have:=beq_iff_eq.1 h6.2
    rw[hti,hcell hkn] at this; omega
   conv=>whnf
   repeat(refine VC.mk (by first|(simp only[okI]; omega)|(simp only[Rw.rng,hbl]; omega)) ?_; conv=>whnf)
   refine⟨k+1,[0,1,2],⟨by omega,GK hb0 h3 hvk⟩,by omega,⟨⟨_,rfl,.eq ?_⟩,⟨_,rfl,.eq rfl⟩,⟨_,rfl,.eq rfl⟩,trivial⟩,(sR rfl),rQ rfl rfl,rQ rfl rfl,⟨rfl,nofun,rfl,rfl,rfl,_,rfl,rfl,rfl,dD.of_eq ?_⟩,trivial⟩
   ·show T.int ((n:Int)-1-((k+1:Nat):Int))=T.int ((n:Int)-1-(k:Int)-1)
    exact congrArg T.int (by omega)
   ·rw[hti,GI hkn,oQ hkn,TN (by rw[fU]; omega)]
  conv=>whnf
  refine⟨fun h7=>?_,fun h7=>?_⟩
  ·have hkn:k=n:=by have:=of_decide_eq_true h7; omega
   subst hkn
   have hlast:=Nc hu hvk
   have hu':u=(m+1)^k-1:=by omega
   rw[hu',<- Eb]
   conv=>whnf
   refine .mk (by first|(simp only[okI]; omega)|omega) ?_
   conv=>whnf
   refine⟨v+1,[0,1],by omega,by omega,(sR rfl),(sR rfl),rQ rfl rfl,rQ rfl rfl,trivial⟩
  ·have hkn:k<n:=by have:=of_decide_eq_false h7; omega
   have h3:u / (m+1)^k % (m+1)+1≠m+1:=by
    rw[Bool.and_eq_false_iff] at h6
    rcases h6 with h6|h6
    ·have:=of_decide_eq_false h6; omega
    ·intro e
     have h6':((sW (m+1) n u k).getD ((n:Int)-1-k).toNat 0==(m:Int))=false:=h6
     rw[hti,hcell hkn] at h6'
     exact beq_eq_false_iff_ne.1 h6' (by omega)
   have hlt4:u / (m+1)^k % (m+1)<m+1:=Nat.mod_lt _ hb0
   have hc0:=hcell hkn
   have huv:(jW (m+1) n v++wL (m+1) n v u).length<=4*531441:=by rw[List.length_append,GL]; omega
   have hinc:=Jy hb0 hkn h3 hvk
   have hset:(sW (m+1) n u k).set (n-1-k) (((u / (m+1)^k % (m+1):Nat):Int)+1)=kZ (m+1) n (u+1):=by
    rw[<- hinc,oQ hkn,TN (by rw[fU]; omega)]
   conv=>whnf
   repeat(refine VC.mk (by first|(simp only[okI,hti,hc0]; omega)|(simp only[Rw.rng,hbl]; omega)) ?_; conv=>whnf)
   rw[hti,hc0,hset]
   refine ah.KO (r:=.ints (kZ (m+1) n (u+1))) (S.xY (kZ (m+1) n (u+1)) false (by rw[fU]; omega) (by rw[fU]; omega)) (And.intro (Jq trivial rfl) trivial) (JF _) ?_
   conv=>whnf
   refine .mk (by first|(show((jW (m+1) n v++wL (m+1) n v u).length+(0+1))*32<=140737488355328/\(jW (m+1) n v++wL (m+1) n v u).length+(0+1)<=1152921504606846976; omega)|(simp only[kQ,nO,Rw.len,List.length_cons,List.length_nil,fU]; omega)) ?_
   conv=>whnf
   refine⟨[(0,some (.box 27 11 (.dat (.eu p)))),(28,some (qZ ((jW (m+1) n v++wL (m+1) n v u)++[⟨(v:Int),kZ (m+1) n (u+1)⟩]))),(2,some (jV (kZ (m+1) n (u+1))))],u+1,[0,28,2],⟨fun i=>i=25,iZ (Z:=fun i=>i=25) (i:=0) rfl (by decide),Nk (Z:=fun i=>i=25) (i:=28) (j:=25) rfl (by decide) rfl rfl,iZ (Z:=fun i=>i=25) (i:=2) rfl (by decide),trivial⟩,Rz hb0 hkn hu h3 hvk,by omega,(sR rfl),(sR rfl),iG rfl rfl,okF rfl nofun rfl rfl rfl ⟨rfl,rfl⟩ ?_,iG rfl rfl,trivial⟩
   rw[Jz,<- List.append_assoc]
 ·have hv':v=vals:=by
   have: ¬ (v:Int)<max 1 (p.values.length:Int):=of_decide_eq_false h3
   omega
  rw[hv']
  conv=>whnf
  exact kN.one (c:=z) (j:=1) (o:=qZ (jW (m+1) n vals)) (t:=.own z) rfl rfl rfl nofun (.inr rfl) rfl (.eq rfl) ⟨rfl,rfl⟩
theorem S.TQ(p:aS)(n vals m:Nat)(hp:dK p)(hn:p.states.length=n)(hn0:0<n)(KN:n<=6)(hvs:max 1 p.values.length=vals)(rZ:vals<=3)(hm8:m<=8) :
  wF Tryz.prog 57 (V.aX [.dat (.eu p),.int m]) (fun n=>.own n) (some ⟨66,3,(Rw.elems (jW (m+1) n vals)).aX⟩):=by
 refine⟨V.gJ [.dat (.eu p),.int m] rfl,fun _=>rfl,(fun ob h=>by cases h; exact Bo _),(fun ob h=>by cases h; exact fun e=>absurd e (by decide:(3:Nat)≠eU)),fun z=>(S.TP z p n vals m hp hn hn0 KN hvs rZ hm8).mono ?_⟩
 rintro t hp ⟨rfl,rfl⟩
 refine⟨rfl,?_⟩
 rw[aY]; simp[gu,OV.aF,V.aX]; rfl
abbrev rowB(l:List Bool):OV:=.row 4 0 (.bools l) []
abbrev Fv(l:List Clause)(f:Bool)(m:Nat):OV:=.box 111 4 (.agg [.row 4 f (.clauses l),.int (dw l),.own m])
abbrev Ed(es:List (Int×List Bool)):OV:=.map 109 es []
theorem S.jA(l:List Clause)(f:Bool)(hl:SmallK l):kF Tryz.prog 55 (V.aX [.row 4 f (.clauses l)]) (Hz.aj []) 0 1 (fun t hp=>t= .ptr 0 0 0/\hp=Hz.aj [(0,some (Fv l f 1)),(1,some (Ed []))]):=by
 refine aaS.of Bd.jA (by simp) rfl rfl rfl ?_
 conv=>whnf
 refine ah.pure (S.mV l f hl) rfl ?_
 conv=>whnf
 exact⟨⟨_,_,_,rfl,by decide,rfl,rfl,rfl⟩⟩
theorem RF{h:Hz}{j:Nat}{Z:Nat->Prop}{l:List Bool}(hz:Z j)(q:h.get j=some (rowB l)):T.sub Z h.aj (V.row 0 false (.bools l)).aI (V.own j).aI:=by
 show T.sub Z h.aj (.sl 0 false (l.map T.bool)) (.own j)
 simp only[T.sub]
 refine⟨trivial,hz,?_,by decide,4,?_⟩
 ·rw[gY]; intro t ht; obtain⟨x,_,rfl⟩:=List.mem_map.1 ht; rfl
 ·have:=aH q; simpa [OV.aF,Rw.aX,V.aX] using this
theorem YW{Z:Nat->Prop}{h:Hz}{i j ty:Nat}{es:List (Int×List Bool)}{k:Int}{row:List Bool}(q:h.get i=some (.map ty es [(k,.own j)]))(hi: ¬ Z i)(hz:Z j)(qj:h.get j=some (rowB row)) :
  ∃ o',h.get i=some o'/\ ¬ Z i/\o'.aF.ty=(OV.map ty (es++[(k,row)]) []).aF.ty/\o'.aF.k=(OV.map ty (es++[(k,row)]) []).aF.k/\T.dJ Z h.aj (OV.map ty (es++[(k,row)]) []).aF.l o'.aF.l/\(OV.map ty (es++[(k,row)]) []).aF.l.map T.kd=o'.aF.l.map T.kd/\(OV.map ty (es++[(k,row)]) []).aF.l.map iC=o'.aF.l.map iC:=by
 have e1:(OV.map ty (es++[(k,row)]) []).aF.l=es.map Fz++[Fz (k,row)]:=by simp[OV.aF]
 have e2:(OV.map ty es [(k,.own j)]).aF.l=es.map Fz++[V6 (k,.own j)]:=by simp[OV.aF]
 refine⟨_,q,hi,rfl,rfl,?_,?_,?_⟩
 ·rw[e1,e2]
  refine yX (cO _) ⟨?_,trivial⟩
  have:=RF hz qj
  simp only[V.aI] at this
  show T.sub Z h.aj (.fH [.int k,.sl 0 false (row.map T.bool)]) (.fH [.int k,.own j])
  simp only[T.sub,T.dJ]
  simp only[T.sub] at this
  exact⟨trivial,this,trivial⟩
 ·rw[e1,e2,List.map_append,List.map_append]; rfl
 ·rw[e1,e2,List.map_append,List.map_append]; rfl
def CW(r:Int)(c:List Int)(i:Nat):List Int:=wK r (c.take i)++List.replicate (c.length-i) 0
theorem JG{r:Int}{c:List Int}{i:Nat}(hi:i<c.length):(CW r c i).set i (min (c.getD i 0) r)=CW r c (i+1):=by
 have e:c.length-i=(c.length-(i+1))+1:=by omega
 unfold CW
 rw[e,List.replicate_succ,TN (by simp[wK]; omega),List.take_add_one,wK,wK,List.map_append,List.append_assoc]
 simp[hi]
theorem Nl{r:Int}{c:List Int}{i:Nat}(hi:i<=c.length):(CW r c i).length=c.length:=by
 simp[CW,wK]; omega
theorem V7{r:Int}{c:List Int}:CW r c c.length=wK r c:=by simp[CW]
theorem V8{r:Int}{c:List Int}{i:Nat}(hi:i<c.length):(CW r c (i+1)).getD i 0=min (c.getD i 0) r:=by
 rw[<- JG hi]
 have:i<(CW r c i).length:=by rw[Nl (by omega)]; exact hi
 simp[List.getD_eq_getElem?_getD,this]
theorem TR{r v:Int}{c:List Int}{i:Nat}(hi:i<c.length):yV r v (c.take (i+1))=yV r v (c.take i)*(r+1)+min (c.getD i 0) r:=by
 unfold yV
 rw[List.take_add_one,List.foldl_append]; simp[hi]
theorem aaT{r v:Int}{c:List Int}(hr:0<=r/\r<=3)(hv:0<=v/\v<=1048576)(hc: ∀ x∈c,0<=x)(hl:c.length<=6):0<=yV r v c/\yV r v c<=2^40:=by
 have: ∀ (c:List Int) (v:Int) (n:Nat),c.length<=n->(∀ x∈c,0<=x)->0<=v->0<=yV r v c/\yV r v c<=(v+1)*4^n:=by
  intro c
  induction c with
  |nil =>
   intro v n _ _ hv
   refine⟨hv,?_⟩
   have:(0:Int)<4^n:=Int.pow_pos (by decide)
   have h2:(v+1)*1<=(v+1)*4^n:=Int.mul_le_mul_of_nonneg_left this (by omega)
   show v<=_; omega
  |cons x c ih =>
   intro v n hn hc hv
   obtain⟨m,rfl⟩: ∃ m,n=m+1:=⟨n-1,by simp only[List.length_cons] at hn; omega⟩
   have hx:=hc x (by simp)
   have h1:0<=v*(r+1):=Int.mul_nonneg hv (by omega)
   have h2:v*(r+1)<=v*4:=Int.mul_le_mul_of_nonneg_left (by omega) hv
   obtain⟨g1,g2⟩:=ih (v*(r+1)+min x r) m (by simp only[List.length_cons] at hn; omega) (fun y hy=>hc y (List.mem_cons_of_mem _ hy)) (by omega)
   refine⟨g1,Int.le_trans g2 ?_⟩
   have e:(v+1)*4^(m+1)=((v+1)*4)*4^m:=by rw[Int.pow_succ,Int.mul_assoc,Int.mul_comm (4^m) 4]
   rw[e]
   refine Int.mul_le_mul_of_nonneg_right (by omega) (Int.pow_nonneg (by decide))
 obtain⟨h1,h2⟩:=this c v 6 hl hc hv.1
 refine⟨h1,Int.le_trans h2 ?_⟩
 have:(v+1)*4^6<=1048577*4^6:=Int.mul_le_mul_of_nonneg_right (by omega) (by decide)
 exact Int.le_trans this (by decide)
abbrev hT(l:List Clause)(f:Bool)(es:List (Int×List Bool)):Hz:=[(0,some (Fv l f 1)),(1,some (Ed es))]
theorem kN.Aq{l:List Clause}{f:Bool}{es es':List (Int×List Bool)}{h:Hz}{n:Nat}{v u:V}{post:T->Hp->Prop}(Z:Nat->Prop)(F:Gi Z h (hT l f es'))(hu:u.free=true)(hv:T.sub Z h.aj u.aI v.aI)(hp:post u.aI (hT l f es').aj):kN (hT l f es) n post v h:=by
 refine kN.Rj (h2:=hT l f es') (u:=u) Z F ?_ hu hv hp
 intro i o ho
 have hG:=pV (show wZ 2 (hT l f es')=true from rfl) i o.aF (aH ho)
 refine⟨?_,T.ay (fun i hi=>?_) _ hG.2.1,hG.2.2⟩
 ·match i,hG.1 with
  |0,_=>rfl
  |1,_=>rfl
  |k+2,hk=>exact absurd hk (by omega)
 ·match i,hi with
  |0,_=>rfl
  |1,_=>rfl
  |k+2,hk=>exact absurd hk (by omega)
structure Ja(l:List Clause)(e:Elem):Prop where
 cl: ∃ vals,∀ k∈l,Ak e.counts.length vals k
 ok:Fq e.counts
 len:0<e.counts.length/\e.counts.length<=6
 val:0<=e.value/\e.value<=1048576
theorem Ja.three{l:List Clause}{e:Elem}(h:Ja l e):dw l<=3:=by
 obtain⟨vals,hc⟩:=h.cl
 exact xW fun k hk=>(hc k hk).two
theorem Ja.low{l:List Clause}{e:Elem}(h:Ja l e){i:Nat}(hi:i<l.length):acy (l.getD i default) (Am (dw l) e):=by
 obtain⟨vals,hc⟩:=h.cl
 have hr:=zV (l:=l)
 refine⟨⟨vals,?_⟩,fun x hx=>?_,?_⟩
 ·have:(Am (dw l) e).counts.length=e.counts.length:=by simp[Am,wK]
  rw[this]; exact hc _ (getM hi)
 ·obtain⟨y,hy,rfl⟩:=List.mem_map.1 hx
  have:=h.ok y hy; omega
 ·simp[Am,wK]; exact h.len.2
theorem Ja.row{l:List Clause}{e:Elem}(h:Ja l e):lN l (Am (dw l) e)=lN l e:=by
 obtain⟨vals,hc⟩:=h.cl
 exact YS hc ⟨rfl,fun x hx=>(h.ok x hx).1⟩
theorem TS{l:List Clause}{e:Elem}{i:Nat}(hi:i<l.length):lN (l.take (i+1)) e=lN (l.take i) e++[holdsB (l.getD i default) e]:=by
 unfold lN
 rw[List.take_add_one,List.map_append]; simp[hi]
set_option maxHeartbeats 1000000 in
theorem S.TT(l:List Clause)(f:Bool)(es:List (Int×List Bool))(e:Elem)(hl:SmallK l)(ht:Ja l e)(hg:mM e.counts.length l es):aP Tryz.prog 59 (V.aX [.ptr 0 0 0,.dat (.elem e)]) (Hz.aj (hT l f es)) 2 (fun t hp=> ∃ es',mM e.counts.length l es'/\t=(V.row 0 false (.bools (lN l e))).aI/\hp=Hz.aj (hT l f es')):=by
 have hr0:=zV (l:=l)
 have hr3:=ht.three
 obtain⟨hn0,KN⟩:=ht.len
 obtain⟨hv0,hv1⟩:=ht.val
 refine rY.of (nx:=2) (h0:=hT l f es) Bd.mW (by simp) ⟨_,_,es,hg,rfl,rfl⟩ rfl rfl ?_
 conv=>whnf
 have hm:=CP (n:=e.counts.length) hn0
 rw[hm]
 conv=>whnf
 refine .mk (by omega) ?_
 conv=>whnf
 refine aQ.AL 100 [0,3,5,23,24] (fun i:Nat=>[(25,.int i),(6,.int (yV (dw l) e.value (e.counts.take i)))]) (fun i=>[(0,Fv l f 1),(1,Ed es),(2,.box 66 3 (.dat (.elem e))),(9,jV (CW (dw l) e.counts i)),(11,.box 66 3 (.agg [.int e.value,.own 9]))]) (fun i=>i<=e.counts.length) (fun i=>e.counts.length-i) 0 [0,1,2,9,11] rfl (by decide) (fun _=>rfl) (Nat.zero_le _) ?_ ?_ ?_
 ·exact(sR rfl)
 ·exact⟨vM rfl rfl rfl ⟨rfl,rfl⟩ (dD.of_eq rfl),iG rfl rfl,iG rfl rfl,okF rfl nofun rfl rfl rfl ⟨rfl,rfl⟩ (by simp[CW,wK]),vM rfl rfl rfl ⟨rfl,rfl⟩ (dD.of_eq rfl),trivial⟩
 conv=>whnf
 refine⟨(sR rfl),rfl,?_⟩
 rintro i hi
 have hll:=Nl (r:=dw l) hi
 have hkb:=aaT (r:=dw l) (c:=e.counts.take i) ⟨hr0,hr3⟩ ht.val (fun x hx=>(ht.ok x (List.mem_of_mem_take hx)).1) (by rw[List.length_take]; omega)
 conv=>whnf
 refine⟨fun h3=>?_,fun h3=>?_⟩
 ·have hi':i<e.counts.length:=by simpa using h3
  have hset:=JG (r:=dw l) hi'
  have hget:=V8 (r:=dw l) hi'
  have hkn:=TR (r:=dw l) (v:=e.value) hi'
  have hge:=ht.ok.get hi'
  have hm1:0<=yV (dw l) e.value (e.counts.take i)*(dw l+1):=Int.mul_nonneg hkb.1 (by omega)
  have hm2:yV (dw l) e.value (e.counts.take i)*(dw l+1)<=yV (dw l) e.value (e.counts.take i)*4:=Int.mul_le_mul_of_nonneg_left (by omega) hkb.1
  conv=>whnf
  repeat(refine VC.mk (by first|(first|(simp only[Rw.rng,Int.toNat_natCast,List.length_set,hll]; omega)|(simp only[okI,Int.toNat_natCast]; omega))|(simp only[okI] at *; first|omega|(simp_all; done)|(simp_all; omega))) ?_; conv=>whnf)
  refine⟨i+1,[0,1,2,9,11],by omega,by omega,⟨⟨_,rfl,.eq rfl⟩,⟨_,rfl,.eq ?_⟩,trivial⟩,(sR rfl),vM rfl rfl rfl ⟨rfl,rfl⟩ (dD.of_eq rfl),iG rfl rfl,iG rfl rfl,okF rfl nofun rfl rfl rfl ⟨rfl,rfl⟩ ?_,vM rfl rfl rfl ⟨rfl,rfl⟩ (dD.of_eq rfl),trivial⟩
  ·show T.int _=T.int (yV (dw l) e.value (e.counts.take i)*(dw l+1)+((CW (dw l) e.counts i).set i (min (e.counts.getD i 0) (dw l))).getD i 0)
   rw[hset,hget,hkn]
  ·show(jV (CW (dw l) e.counts (i+1))).aF.l=(jV ((CW (dw l) e.counts i).set i (min (e.counts.getD i 0) (dw l)))).aF.l
   rw[hset]
 have hi':i=e.counts.length:=by have:e.counts.length<=i:=(by simpa using h3); omega
 subst hi'
 rw[V7,List.take_length]
 have hkey:yV (dw l) e.value e.counts=keyE (dw l) e:=rfl
 rw[hkey]
 have hel:TG e.counts.length e:=⟨rfl,fun x hx=>(ht.ok x hx).1⟩
 conv=>whnf
 refine aaU.mk (fun row hrow=>?_) (fun hnone=>?_)
 ·obtain rfl:=hg e hel row hrow
  conv=>whnf
  refine Fork.mk (fun q=>absurd (q.symm.trans ((rfl:false=false))).symm Bool.false_ne_true) (fun _=>?_)
  conv=>whnf
  conv=>whnf
  exact kN.Aq (es':=es) (u:=.row 0 false (.bools (lN l e))) (fun _=>False) ⟨iZ (Z:=fun _=>False) rfl (fun q=>q),iZ (Z:=fun _=>False) rfl (fun q=>q),trivial⟩ rfl (aB _) ⟨es,hg,rfl,rfl⟩
 conv=>whnf
 refine Fork.mk (fun _=>?_) (fun q=>absurd (q.symm.trans ((rfl:true=true))) Bool.false_ne_true)
 conv=>whnf
 conv=>whnf
 have hk1:=hl.len
 refine aQ.nil 9 4 0 (by rfl) rfl rfl rfl ?_
 refine aQ.AL 200 [0,5,6,68,69] (fun i:Nat=>[(70,.int i),(9,.own 12)]) (fun i=>[(0,Fv l f 1),(1,Ed es),(2,.box 66 3 (.dat (.elem e))),(9,jV (wK (dw l) e.counts)),(11,.box 66 3 (.agg [.int e.value,.own 9])),(12,rowB (lN (l.take i) (Am (dw l) e)))]) (fun i=>i<=l.length) (fun i=>l.length-i) 0 [0,1,2,9,11,120] rfl (by decide) (fun _=>rfl) (Nat.zero_le _) ?_ ?_ ?_
 ·exact(sR rfl)
 ·exact⟨vM rfl rfl rfl ⟨rfl,rfl⟩ (dD.of_eq rfl),iG rfl rfl,iG rfl rfl,iG rfl rfl,vM rfl rfl rfl ⟨rfl,rfl⟩ (dD.of_eq rfl),iG rfl rfl,trivial⟩
 conv=>whnf
 refine⟨(sR rfl),rfl,?_⟩
 rintro i hi
 have hrl:(lN (l.take i) (Am (dw l) e)).length=i:=by rw[tJ,List.length_take]; omega
 conv=>whnf
 refine⟨fun h4=>?_,fun h4=>?_⟩
 ·have hi2:i<l.length:=by simpa using h4
  have hfit:=ht.low hi2
  have hrn:=TS (e:=Am (dw l) e) hi2
  have hv:=(hl.cl i).values
  conv=>whnf
  refine .mk (by first|(simp only[Rw.rng]; omega)|(simp only[okI,Int.toNat_natCast]; omega)) ?_
  conv=>whnf
  refine ah.lend (S.lT (l.getD i default) (Am (dw l) e) hfit (by simp[Am,wK]; exact hn0) hv) ⟨aB _,acz trivial rfl,trivial⟩ rfl rfl ?_
  conv=>whnf
  repeat(refine VC.mk (by first|(first|(simp only[kQ,nO,Rw.len,List.length_cons,List.length_nil,hrl]; omega)|(show((lN (l.take i) (Am (dw l) e)).length+(0+1))*1<=140737488355328/\(lN (l.take i) (Am (dw l) e)).length+(0+1)<=1152921504606846976; omega))|(simp only[okI] at *; first|omega|(simp_all; done)|(simp_all; omega))) ?_; conv=>whnf)
  refine⟨i+1,[0,1,2,9,11,210],by omega,by omega,(sR rfl),(sR rfl),vM rfl rfl rfl ⟨rfl,rfl⟩ (dD.of_eq rfl),iG rfl rfl,iG rfl rfl,iG rfl rfl,vM rfl rfl rfl ⟨rfl,rfl⟩ (dD.of_eq rfl),okF rfl nofun rfl rfl rfl ⟨rfl,rfl⟩ ?_,trivial⟩
  rw[hrn]
 ·have hi3:i=l.length:=by have:l.length<=i:=(by simpa using h4); omega
  subst hi3
  rw[List.take_length,ht.row]
  conv=>whnf
  refine .mk (by omega) ?_
  conv=>whnf
  exact kN.Aq (es':=es++[(keyE (dw l) e,lN l e)]) (u:=.row 0 false (.bools (lN l e))) (fun i=>i=12) ⟨iZ (Z:=fun i=>i=12) rfl (by decide),YW (Z:=fun i=>i=12) (j:=12) rfl (by decide) rfl rfl,trivial⟩ rfl (RF rfl rfl) ⟨_,ht.cl.elim fun _ hc=>hg.add hc hel,rfl,rfl⟩
abbrev TU(r:Rule)(e:Elem):List V:=Dat.cells (.rule r)++Dat.cells (.elem e)
def CX(r:Rule)(e:Elem):Bool:=e.counts.getD r.fr.toNat 0==0||(decide (0<=r.read)&&r.read !=e.value)
theorem vT{r:Rule}{e:Elem}:(decide (0<=r.read)&&e.value !=r.read||e.counts.getD r.fr.toNat 0==0)=CX r e:=by
 unfold CX
 rw[Bool.or_comm]
 congr 2
 rw[bne,bne,Bool.beq_comm]
theorem S.GY(r:Rule)(e:Elem)(hp:xQ e.counts.length r)(h:CX r e=true):ak Tryz.prog 119 [.agg (TU r e)] (.fH [.row 0 true (.ints []),.bool false]):=by
 obtain⟨f1,f2⟩:=hp.src
 refine ak.of Bd.jg (by simp) rfl rfl ?_
 conv=>whnf
 repeat(refine VC.mk (by first|exact id|exact fun h=>⟨h,h⟩|(intro h; rw[h]; rfl)|(intro h; simp_all; done)|(simp only[Rw.rng] at *; omega)) ?_; conv=>whnf)
 refine Fork.mk (fun _=>?_) (fun q=>absurd (q.symm.trans (h)) Bool.false_ne_true)
 conv=>whnf
 exact au.eqv rfl
theorem S.P9(r:Rule)(e:Elem)(hp:xQ e.counts.length r)(hc:Fq e.counts)(hl:e.counts.length<=6)(h:CX r e=false)(n:Nat):aP Tryz.prog 119 (V.aX [.agg (TU r e)]) (Hz.aj []) n (fun t hp=>t= .fH [.own n,.bool true]/\hp=Hz.aj [(n,some (jV (bJ e.counts r.fr)))]):=by
 obtain⟨f1,f2⟩:=hp.src
 have hfr:=hc.get (i:=r.fr.toNat) (by omega)
 refine rY.of (nx:=0) (h0:=[]) Bd.jg (by simp) ⟨_,_,rfl,rfl⟩ rfl rfl ?_
 conv=>whnf
 repeat(refine VC.mk (by first|exact id|exact fun h=>⟨h,h⟩|(intro h; rw[h]; rfl)|(intro h; simp_all; done)|(simp only[Rw.rng] at *; omega)) ?_; conv=>whnf)
 refine Fork.mk (fun q=>absurd (q.symm.trans (h)).symm Bool.false_ne_true) (fun _=>?_)
 conv=>whnf
 conv=>whnf
 refine ah.mkRow (r:=.ints e.counts) (S.xY e.counts false (by omega) (by omega)) ?_
 conv=>whnf
 repeat(refine VC.mk (by first|(simp only[Rw.rng]; omega)|(simp only[okI]; omega)) ?_; conv=>whnf)
 exact kN.one (c:=n) (j:=30) (o:=jV (bJ e.counts r.fr)) (t:=.fH [.own n,.bool true]) rfl rfl rfl nofun (.inr rfl) ⟨rfl,trivial,trivial⟩ (.eq rfl) ⟨rfl,rfl⟩
theorem S.TV(r:Rule)(e:Elem)(hp:xQ e.counts.length r)(hc:Fq e.counts)(hl:e.counts.length<=6)(h:CX r e=false):wF Tryz.prog 119 (V.aX [.agg (TU r e)]) (fun n=>.fH [.own n,.bool true]) (some ⟨3,0,(Rw.ints (bJ e.counts r.fr)).aX⟩):=by
 refine⟨V.gJ [.agg (TU r e)] rfl,fun _=>⟨rfl,trivial,trivial⟩,(fun ob h=>by cases h; rw[gY]; intro t ht; obtain⟨x,_,rfl⟩:=List.mem_map.1 ht; rfl),(fun ob h=>by cases h; exact fun e=>absurd e (by decide:(0:Nat)≠eU)),fun n=>(S.P9 r e hp hc hl h n).mono ?_⟩
 rintro t hp ⟨rfl,rfl⟩
 refine⟨rfl,?_⟩
 rw[aY]; simp[gu,OV.aF,V.aX]; rfl
theorem ah.others{r:Rule}{e:Elem}{h:Hz}{n:Nat}{K:V->Hz->Prop}{KW:Nat->V->Hz->Prop}(hp:xQ e.counts.length r)(hc:Fq e.counts)(hl:e.counts.length<=6)(hs:CX r e=false)(hK:K (.fH [.own n,.bool true]) ((n,some (jV (bJ e.counts r.fr)))::h)):ah Tryz.prog false none 119 [.agg (TU r e)] h n K KW :=
 ah.heap (wF.frame (S.TV r e hp hc hl hs) _ _) (by rintro t hp ⟨rfl,rfl⟩; exact⟨.fH [.own n,.bool true],_,rfl,by rw[aY]; simp[gu,OV.aF,V.aX],hK⟩)
def CY(r:Rule)(e:Elem):Int:=bif decide (r.write>=0) then r.write else e.value
theorem S.KP(r:Rule)(e:Elem)(c:List Int):aP Tryz.prog 120 (V.aX [.agg (TU r e),.own 0]) (Hz.aj [(0,some (jV c))]) 1 (fun t hp=>t= .agg [.int (CY r e),.own 0]/\hp=Hz.aj [(0,some (jV c))]):=by
 refine rY.of (nx:=1) (h0:=[(0,some (jV c))]) Bd.lF (by simp) ⟨_,_,rfl,rfl⟩ rfl rfl ?_
 conv=>whnf
 refine⟨fun h1=>?_,fun h1=>?_⟩
 ·conv=>whnf
  refine kN.one (c:=0) (j:=0) (o:=jV c) (t:=.agg [.int (CY r e),.own 0]) rfl rfl rfl (fun _=>rfl) (.inl rfl) ⟨trivial,rfl,trivial⟩ ?_ ⟨rfl,rfl⟩
  rw[CY,show decide (r.write>=0)=true from h1]; exact .eq rfl
 ·conv=>whnf
  refine kN.one (c:=0) (j:=0) (o:=jV c) (t:=.agg [.int (CY r e),.own 0]) rfl rfl rfl (fun _=>rfl) (.inl rfl) ⟨trivial,rfl,trivial⟩ ?_ ⟨rfl,rfl⟩
  rw[CY,show decide (r.write>=0)=false from h1]; exact .eq rfl
def zE:Elem:=⟨0,[]⟩
theorem au.noneE{h:Hz}:au (.fH [.dat (.elem zE),.bool false]) (.fH [.agg [.int 0,.row 0 true .nil],.bool false]) h:=⟨by
 show T.sub _ _ (.fH [.agg [.int 0,.sl 0 false []],.bool false]) (.fH [.agg [.int 0,.sl 0 true []],.bool false])
 simp[T.sub,T.dJ]⟩
theorem au.V9{h:Hz}{j:Nat}{v:Int}{l:List Int}{b:Bool}(q:h.get j=some (jV l)):au (.fH [.dat (.elem ⟨v,l⟩),.bool b]) (.fH [.agg [.int v,.own j],.bool b]) h:=⟨by
 have:=Jq (Z:=fun _=>True) trivial q
 show T.sub _ h.aj (.fH [.agg [.int v,.sl 0 false (l.map T.int)],.bool b]) (.fH [.agg [.int v,.own j],.bool b])
 replace this:T.sub (fun _=>True) h.aj (.sl 0 false (l.map T.int)) (.own j):=this
 simp only[T.sub] at this
 simp only[T.sub,T.dJ]
 exact⟨⟨trivial,this,trivial⟩,trivial,trivial⟩⟩
theorem ah.result{r:Rule}{e:Elem}{c:List Int}{h:Hz}{i n:Nat}{K:V->Hz->Prop}{KW:Nat->V->Hz->Prop}(hi:h.get i=some (jV c))(hn:h.get n=none)(hK:K (.agg [.int (CY r e),.own i]) ((i,some (jV c))::h)):ah Tryz.prog false none 120 [.agg (TU r e),.own i] h n K KW:=by
 refine ah.GX (ts:=[.agg (TU r e),.own 0]) (S.KP r e c) rfl rfl rfl rfl hi hn ?_
 rintro t hp ⟨rfl,rfl⟩
 exact .inl ⟨.agg [.int (CY r e),.own i],jV c,rfl,rfl,rfl,hK⟩
theorem S.Qa(r:Rule)(e:Elem)(hp:xQ e.counts.length r)(hc:Fq e.counts)(hl:e.counts.length<=6)(hk:r.kind=2): ∃ x,ak Tryz.prog 87 [.agg (TU r e)] (.fH [.dat (.elem x),.bool (dL r e).isSome])/\ ∀ y,dL r e=some y->x=y:=by
 obtain⟨d1,d2⟩:=hp.dst
 obtain⟨p1,p2⟩:=hp.adC
 obtain⟨q1,q2⟩:=hp.adD
 have hl1:(bJ e.counts r.fr).length=e.counts.length:=by simp[bJ]
 have hB:=hc.b.dec (by omega) r.fr
 have hB1:=hB.get (by omega) r.jk.toNat
 have hB2:=hB.dec (by omega) r.jk
 have hB3:=hB2.get (by omega) r.CO.toNat
 have hB4:=hB2.add (by omega) r.CO 1 (k:=1) ⟨by omega,by omega⟩
 have hB5:=hB4.get (by omega) r.to.toNat
 cases hs:CX r e with
 |true =>
  have hf:dL r e=none:=by rw[dL,vT,hs]; rfl
  refine⟨zE,?_,fun y hy=>by rw[hf] at hy; cases hy⟩
  rw[hf]
  refine ak.of Bd.iH (by simp) rfl rfl ?_
  conv=>whnf
  refine ah.pure (S.GY r e hp hs) rfl ?_
  conv=>whnf
  repeat(refine VC.mk (by first|exact id|(intro h; rw[h]; rfl)|(intro h; simp_all; done)) ?_; conv=>whnf)
  refine Fork.mk (fun _=>?_) (fun q=>absurd (q.symm.trans ((rfl:true=true))) Bool.false_ne_true)
  conv=>whnf
  exact au.noneE
 |false =>
  cases h6:(bJ e.counts r.fr).getD r.jk.toNat 0==0 with
  |true =>
   have hf:dL r e=none:=by rw[dL,vT,hs,hk]; simp only[cond_false]; rw[show((2:Int)==1)=false from rfl,show((2:Int)==2)=true from rfl,h6]; rfl
   refine⟨zE,?_,fun y hy=>by rw[hf] at hy; cases hy⟩
   rw[hf]
   refine ak.of Bd.iH (by simp) rfl rfl ?_
   conv=>whnf
   refine ah.others hp hc hl hs ?_
   conv=>whnf
   repeat(refine VC.mk (by first|exact id|(intro h; rw[h]; rfl)|(intro h; (repeat' apply And.intro)<;>first|exact h|omega|(simp only[Rw.oK]; omega)|(simp only[Rw.rng]; omega))) ?_; conv=>whnf)
   refine Fork.mk (fun _=>?_) (fun q=>absurd (q.symm.trans (h6)) Bool.false_ne_true)
   conv=>whnf
   exact au.noneE
  |false =>
   have hf:dL r e=some ⟨CY r e,lq (lq (bJ (bJ e.counts r.fr) r.jk) r.CO 1) r.to 1⟩:=by rw[dL,vT,hs,hk]; simp only[cond_false]; rw[show((2:Int)==1)=false from rfl,show((2:Int)==2)=true from rfl,h6]; rfl
   refine⟨_,?_,fun y hy=>by rw[hf] at hy; exact Option.some.inj hy⟩
   rw[hf]
   refine ak.of Bd.iH (by simp) rfl rfl ?_
   conv=>whnf
   refine ah.others hp hc hl hs ?_
   conv=>whnf
   repeat(refine VC.mk (by first|exact id|(intro h; rw[h]; rfl)|(intro h; (repeat' apply And.intro)<;>first|exact h|omega|(simp only[Rw.oK]; omega)|(simp only[Rw.rng]; omega))) ?_; conv=>whnf)
   refine Fork.mk (fun q=>absurd (q.symm.trans (h6)).symm Bool.false_ne_true) (fun _=>?_)
   conv=>whnf
   repeat(refine VC.mk (by simp only[okI,Rw.rng] at *; omega) ?_; conv=>whnf)
   conv=>whnf
   repeat(refine VC.mk (by first|(simp only[Rw.rng,List.length_set,hl1]; omega)|(simp only[okI,bJ,lq] at *; omega)) ?_; conv=>whnf)
   refine ah.result (c:=lq (lq (bJ (bJ e.counts r.fr) r.jk) r.CO 1) r.to 1) rfl rfl ?_
   conv=>whnf
   exact au.V9 rfl
theorem acB{x:Int}(h:0<=x):decide (x>0)= !(x==0):=by
 by_cases e:x=0
 ·subst e; rfl
 ·rw[beq_eq_false_iff_ne.2 e,decide_eq_true (by omega)]; rfl
theorem S.Np(r:Rule)(e:Elem)(hr:wG r)(hp:xQ e.counts.length r)(hc:Fq e.counts)(hl:e.counts.length<=6)(hk:r.kind=1): ∃ x,ak Tryz.prog 86 [.agg (TU r e)] (.fH [.dat (.elem x),.bool (dL r e).isSome])/\ ∀ y,dL r e=some y->x=y:=by
 obtain⟨d1,d2⟩:=hp.dst
 have hl1:(bJ e.counts r.fr).length=e.counts.length:=by simp[bJ]
 have hB:=hc.b.dec (by omega) r.fr
 have hB5:=hB.get (by omega) r.to.toNat
 have ha1:=hr.all; have hx1:=hr.ex
 cases hs:CX r e with
 |true =>
  have hf:dL r e=none:=by rw[dL,vT,hs]; rfl
  refine⟨zE,?_,fun y hy=>by rw[hf] at hy; cases hy⟩
  rw[hf]
  refine ak.of Bd.jK (by simp) rfl rfl ?_
  conv=>whnf
  refine ah.pure (S.GY r e hp hs) rfl ?_
  conv=>whnf
  refine Fork.mk (fun _=>?_) (fun q=>absurd (q.symm.trans ((rfl:true=true))) Bool.false_ne_true)
  conv=>whnf
  exact au.noneE
 |false =>
  have hpos: ∀ i,0<=(bJ e.counts r.fr).getD i 0:=fun i=>YP hc (by rw[vT]; exact hs) i
  have aan:dL r e=bif !(wJ r (bJ e.counts r.fr)) then none else some ⟨CY r e,lq (bJ e.counts r.fr) r.to 1⟩:=by
   rw[dL,vT,hs,hk]; rfl
  refine⟨bif wI r.all (bJ e.counts r.fr) (bJ e.counts r.fr).length then zE else⟨CY r e,lq (bJ e.counts r.fr) r.to 1⟩,?_,fun y hy=>?_⟩
  rotate_left
  ·rw[aan] at hy
   cases ha:wJ r (bJ e.counts r.fr) with
   |false=>rw[ha] at hy; cases hy
   |true =>
    rw[ha] at hy
    have hb:wI r.all (bJ e.counts r.fr) (bJ e.counts r.fr).length=false:=by
     unfold wJ at ha; rw[Bool.and_eq_true] at ha; simpa using ha.1
    rw[hb]; exact Option.some.inj hy
  have hsome:(dL r e).isSome=wJ r (bJ e.counts r.fr):=by
   rw[aan]; cases wJ r (bJ e.counts r.fr)<;>rfl
  rw[hsome]
  refine ak.of Bd.jK (by simp) rfl rfl ?_
  conv=>whnf
  refine ah.others hp hc hl hs ?_
  conv=>whnf
  refine Fork.mk (fun q=>absurd (q.symm.trans ((rfl:false=false))).symm Bool.false_ne_true) (fun _=>?_)
  conv=>whnf
  conv=>whnf
  refine aQ.same [1,2,4,22,23] (fun i:Nat=>[(24,.int i),(6,.bool (Bf r.ex (bJ e.counts r.fr) i))]) (fun i=>i<=(bJ e.counts r.fr).length/\wI r.all (bJ e.counts r.fr) i=false) (fun i=>(bJ e.counts r.fr).length-i) 0 rfl (by decide) rfl (fun _=>rfl) ⟨by omega,by simp[wI]⟩ ⟨⟨_,rfl,rfl⟩,⟨_,rfl,by simp[Bf]; rfl⟩,trivial⟩ ?_
  conv=>whnf
  refine⟨rfl,?_⟩
  rintro i ⟨hi,hb⟩
  conv=>whnf
  refine⟨fun h3=>?_,fun h3=>?_⟩
  ·have hi':i<(bJ e.counts r.fr).length:=by simpa using h3
   have hbn:=PO (al:=r.all) (c:=bJ e.counts r.fr) (i:=i)
   have hfn:=PN (ex:=r.ex) (c:=bJ e.counts r.fr) (i:=i)
   have hg:=acB (hpos i)
   conv=>whnf
   repeat(refine VC.mk (by first|(simp only[Rw.rng,Int.toNat_natCast]; omega)|exact fun h=>h|exact fun h=>⟨h,h⟩) ?_; conv=>whnf)
   refine ah.iD (fun _=>S.slices_Contains_int r.all i false (by omega)) rfl ?_
   conv=>whnf
   repeat(refine VC.mk id ?_; conv=>whnf)
   refine⟨fun h4=>?_,fun h4=>?_⟩
   ·have h4':(decide (0<(bJ e.counts r.fr).getD i 0)&&decide (0<(r.all.length:Int))&& !Ru r.all i)=true:=h4
    rw[Bool.and_assoc,Bool.and_eq_true] at h4'
    have hbl:=VP (al:=r.all) hi' (by have:=hg.symm.trans h4'.1; simpa using this) h4'.2
    rw[hbl,show wJ r (bJ e.counts r.fr)=false by rw[wJ,hbl]; rfl]
    conv=>whnf
    exact au.noneE
   ·have h4':(decide (0<(bJ e.counts r.fr).getD i 0)&&decide (0<(r.all.length:Int))&& !Ru r.all i)=false:=h4
    have hb2:wI r.all (bJ e.counts r.fr) (i+1)=false:=by
     rw[hbn,hb,Bool.false_or,<- hg,<- h4',Bool.and_assoc]
    conv=>whnf
    repeat(refine VC.mk (by first|exact id|exact fun h=>⟨h,h⟩) ?_; conv=>whnf)
    refine ah.iD (fun _=>S.slices_Contains_int r.ex i false (by omega)) rfl ?_
    conv=>whnf
    repeat(refine VC.mk (by first|(intro h; rw[h]; rfl)|(intro h; simp[h]; done)|(simp only[okI] at *; first|omega|(simp_all; done)|(simp_all; omega))) ?_; conv=>whnf)
    refine⟨i+1,⟨by omega,hb2⟩,by omega,⟨⟨_,rfl,rfl⟩,⟨_,rfl,?_⟩,trivial⟩,?_,rfl⟩
    ·rw[hfn,<- hg]
     rfl
    ·repeat' (first|exact trivial|exact⟨_,rfl,rfl⟩|constructor)
  ·have hi':i=(bJ e.counts r.fr).length:=by have:(bJ e.counts r.fr).length<=i:=(by simpa using h3); omega
   subst hi'
   rw[hb]
   have hal:wJ r (bJ e.counts r.fr)=Bf r.ex (bJ e.counts r.fr) (bJ e.counts r.fr).length:=by rw[wJ,hb]; rfl
   rw[hal]
   conv=>whnf
   repeat(refine VC.mk (by first|(simp only[Rw.rng,hl1]; omega)|(simp only[okI,bJ,lq] at *; omega)) ?_; conv=>whnf)
   refine ah.result (c:=lq (bJ e.counts r.fr) r.to 1) rfl rfl ?_
   conv=>whnf
   exact au.V9 rfl
theorem S.FB(r:Rule)(e:Elem)(hp:xQ e.counts.length r)(hc:Fq e.counts)(hl:e.counts.length<=6)(hk:r.kind=3): ∃ x,ak Tryz.prog 88 [.agg (TU r e)] (.fH [.dat (.elem x),.bool (dL r e).isSome])/\ ∀ y,dL r e=some y->x=y:=by
 obtain⟨d1,d2⟩:=hp.dst
 obtain⟨rs1,rs2⟩:=hp.rsp hk
 have hl1:(bJ e.counts r.fr).length=e.counts.length:=by simp[bJ]
 have hB:=hc.b.dec (by omega) r.fr
 cases hs:CX r e with
 |true =>
  have hf:dL r e=none:=by rw[dL,vT,hs]; rfl
  refine⟨zE,?_,fun y hy=>by rw[hf] at hy; cases hy⟩
  rw[hf]
  refine ak.of Bd.gU (by simp) rfl rfl ?_
  conv=>whnf
  refine ah.pure (S.GY r e hp hs) rfl ?_
  conv=>whnf
  refine Fork.mk (fun _=>?_) (fun q=>absurd (q.symm.trans ((rfl:true=true))) Bool.false_ne_true)
  conv=>whnf
  exact au.noneE
 |false =>
  have hf:dL r e=some ⟨CY r e,lq (wS r (bJ e.counts r.fr) (bJ e.counts r.fr).length) r.to 1⟩:=by rw[dL,vT,hs,hk]; rfl
  refine⟨_,?_,fun y hy=>by rw[hf] at hy; exact Option.some.inj hy⟩
  rw[hf]
  refine ak.of Bd.gU (by simp) rfl rfl ?_
  conv=>whnf
  refine ah.others hp hc hl hs ?_
  conv=>whnf
  refine Fork.mk (fun q=>absurd (q.symm.trans ((rfl:false=false))).symm Bool.false_ne_true) (fun _=>?_)
  conv=>whnf
  conv=>whnf
  have hm:=CP (n:=(bJ e.counts r.fr).length) (by have:=hp.src; omega)
  rw[hm]
  conv=>whnf
  refine .mk (by omega) ?_
  conv=>whnf
  refine aQ.objs 60 [1,2,4,20,21] (fun i:Nat=>[(22,.int i),(6,.own 14)]) (fun i=>[(0,.box 117 21 (.agg (TU r e))),(1,.box 66 3 (.agg [.int 0,.row 0 true .nil])),(4,jV (bJ e.counts r.fr)),(14,jV (wS r (bJ e.counts r.fr) i))]) (fun i=>i<=(bJ e.counts r.fr).length) (fun i=>(bJ e.counts r.fr).length-i) 0 [0,1,4,14] rfl (by decide) (fun _=>rfl) (Nat.zero_le _) ?_ ?_ ?_
  ·exact(sR rfl)
  ·exact⟨rQ rfl rfl,rQ rfl rfl,rQ rfl rfl,rQ rfl rfl,trivial⟩
  conv=>whnf
  refine⟨(sR rfl),rfl,?_⟩
  rintro i hi
  have KN:(i:Int)*1048577<=6*1048577:=Int.mul_le_mul_of_nonneg_right (by omega) (by omega)
  have hn0:0<=(i:Int)*1048577:=Int.mul_nonneg (by omega) (by omega)
  have hRB:=aaN hB (by omega) (r:=r) i
  have hRl:(wS r (bJ e.counts r.fr) i).length=e.counts.length:=by rw[CQ,hl1]
  conv=>whnf
  refine⟨fun g1=>?_,fun g1=>?_⟩
  ·have hi':i<(bJ e.counts r.fr).length:=by simpa using g1
   have hir:i<r.response.length:=by omega
   obtain⟨q1,q2⟩:0<=r.response.getD i 0/\r.response.getD i 0<e.counts.length:=by
    rw[show r.response.getD i 0=r.response[i] by simp[hir]]; exact rs2 _ (List.getElem_mem hir)
   have hR1:=hRB.get hn0 (r.response.getD i 0).toNat
   have hR2:=hB.get (by omega) i
   conv=>whnf
   repeat(refine VC.mk (by first|(first|(simp only[Rw.rng,CQ]; omega)|(simp only[okI,bJ,lq,Int.toNat_natCast] at *; omega))|(simp only[Rw.rng] at *; first|omega|(simp_all; done)|(simp_all; omega))) ?_; conv=>whnf)
   refine⟨i+1,[0,1,4,14],by omega,by omega,(sR rfl),(sR rfl),rQ rfl rfl,rQ rfl rfl,rQ rfl rfl,⟨rfl,nofun,rfl,rfl,rfl,_,rfl,rfl,rfl,dD.of_eq ?_⟩,trivial⟩
   rw[zS]; rfl
  have hi':i=(bJ e.counts r.fr).length:=by have:(bJ e.counts r.fr).length<=i:=(by simpa using g1); omega
  subst hi'
  have hR1:=hRB.get hn0 r.to.toNat
  conv=>whnf
  repeat(refine VC.mk (by first|(simp only[Rw.rng,CQ]; omega)|(simp only[okI,bJ,lq,Int.toNat_natCast] at *; omega)) ?_; conv=>whnf)
  refine ah.result (c:=lq (wS r (bJ e.counts r.fr) (bJ e.counts r.fr).length) r.to 1) rfl rfl ?_
  conv=>whnf
  exact au.V9 rfl
def Ee(k:Int):FuncId:=bif k==1 then 86 else bif k==2 then 87 else 88
theorem S.kS(k:Int):ak Tryz.prog 56 [.int k] (.fn (Ee k) []):=by
 refine ak.of Bd.kS (by simp) rfl rfl ?_
 conv=>whnf
 refine⟨fun h1=>?_,fun h1=>?_⟩
 ·conv=>whnf
  refine au.eqv ?_
  rw[Ee,show(k==1)=true from h1]; rfl
 ·conv=>whnf
  refine⟨fun h2=>?_,fun h2=>?_⟩
  ·conv=>whnf
   refine au.eqv ?_
   rw[Ee,show(k==1)=false from h1,show(k==2)=true from h2]; rfl
  ·conv=>whnf
   refine au.eqv ?_
   rw[Ee,show(k==1)=false from h1,show(k==2)=false from h2]; rfl
theorem S.apply(r:Rule)(e:Elem)(hr:wG r)(hp:xQ e.counts.length r)(hc:Fq e.counts)(hl:e.counts.length<=6)(hk:r.kind=1\/r.kind=2\/r.kind=3): ∃ x,ak Tryz.prog (Ee r.kind) [.agg (TU r e)] (.fH [.dat (.elem x),.bool (dL r e).isSome])/\ ∀ y,dL r e=some y->x=y:=by
 rcases hk with h|h|h
 ·rw[show Ee r.kind=86 by rw[Ee,h]; rfl]; exact S.Np r e hr hp hc hl h
 ·rw[show Ee r.kind=87 by rw[Ee,h]; rfl]; exact S.Qa r e hp hc hl h
 ·rw[show Ee r.kind=88 by rw[Ee,h]; rfl]; exact S.FB r e hp hc hl h
def Ef(l:List Bool):Int:=bif decide (l.findIdx (fun b=> !b)<l.length) then(l.findIdx (fun b=> !b):Nat) else -1
theorem KQ{l:List Bool}{i:Nat}(h:(l.take i).all id=true)(hi:i<=l.length):l.findIdx (fun b=> !b)=i+(l.drop i).findIdx (fun b=> !b):=by
 induction i generalizing l with
 |zero=>simp
 |succ i ih =>
  cases l with
  |nil=>simp at hi
  |cons b l =>
   simp only[List.take_succ_cons,List.all_cons,id,Bool.and_eq_true] at h
   rw[List.findIdx_cons,h.1,List.drop_succ_cons]
   simp only[Bool.not_true,cond_false]
   rw[ih h.2 (by simpa using hi)]; omega
theorem S.GZ(l:List Bool)(f:Bool)(hl:l.length<2^30):ak Tryz.prog 60 [.row 0 f (.bools l),.bool false] (.int (Ef l)):=by
 refine ak.of Bd.kT (by simp) rfl rfl ?_
 conv=>whnf
 refine aQ.same [0,1,6,7] (fun i:Nat=>[(8,.int i)]) (fun i=>i<=l.length/\(l.take i).all id=true) (fun i=>l.length-i) 0 rfl (by decide) rfl (fun _=>rfl) ⟨by omega,by simp⟩ ⟨⟨_,rfl,rfl⟩,trivial⟩ ?_
 conv=>whnf
 refine⟨rfl,?_⟩
 rintro i ⟨hi,hall⟩
 have hfd:=KQ hall hi
 conv=>whnf
 refine⟨fun h3=>?_,fun h3=>?_⟩
 ·have hi':i<l.length:=by simpa using h3
  rw[aZ false hi',List.findIdx_cons] at hfd
  conv=>whnf
  refine .mk (by simp only[Rw.rng] at *; first|omega|(simp_all; done)|(simp_all; omega)) ?_
  conv=>whnf
  refine⟨fun h4=>?_,fun h4=>?_⟩
  ·have h4':l.getD i false=false:=by
    have h5:(false==l.getD i false)=true:=h4
    cases hb:l.getD i false with
    |false=>rfl
    |true=>rw[hb] at h5; cases h5
   conv=>whnf
   refine au.int ?_
   rw[h4'] at hfd
   have aaV:l.findIdx (fun b=> !b)=i:=hfd
   rw[Ef,aaV,decide_eq_true hi']; rfl
  ·have h4':l.getD i false=true:=by
    have h5:(false==l.getD i false)=false:=h4
    cases hb:l.getD i false with
    |true=>rfl
    |false=>rw[hb] at h5; cases h5
   conv=>whnf
   refine .mk (by simp only[okI] at *; first|omega|(simp_all; done)|(simp_all; omega)) ?_
   conv=>whnf
   refine⟨i+1,⟨by omega,?_⟩,by omega,⟨⟨_,rfl,rfl⟩,trivial⟩,?_,rfl⟩
   ·rw[tY (d:=false) hi' hall]; exact h4'
   ·repeat' (first|exact trivial|exact⟨_,rfl,rfl⟩|constructor)
 ·have hi':l.length<=i:=by simpa using h3
  rw[List.drop_eq_nil_of_le hi'] at hfd
  have aaV:l.findIdx (fun b=> !b)=i:=hfd
  conv=>whnf
  refine au.int ?_
  rw[Ef,aaV,decide_eq_false (by omega)]; rfl
theorem S.lW(l:List Bool)(n:Nat)(f g:Bool)(hl:l.length<2^30)(hn:l.length<=n):ak Tryz.prog 58 [.row 0 f (.bools l),.row 0 g (.bools (List.replicate n false))] (.bool (l.all id)):=by
 refine ak.of Bd.lW (by simp) rfl rfl ?_
 conv=>whnf
 refine aQ.same [1,7,8] (fun i:Nat=>[(9,.int i)]) (fun i=>i<=l.length/\(l.take i).all id=true) (fun i=>l.length-i) 0 rfl (by decide) rfl (fun _=>rfl) ⟨by omega,by simp⟩ ⟨⟨_,rfl,rfl⟩,trivial⟩ ?_
 conv=>whnf
 refine⟨rfl,?_⟩
 rintro i ⟨hi,hall⟩
 conv=>whnf
 refine⟨fun h3=>?_,fun h3=>?_⟩
 ·have hi':i<l.length:=by simpa using h3
  have hd:(List.replicate n false).getD i false=false:=by simp[List.getD_eq_getElem?_getD,show i<n by omega]
  conv=>whnf
  repeat(refine VC.mk (by first|(first|(intro _; simp only[Rw.rng,List.length_replicate]; omega)|(simp only[Rw.rng,List.length_replicate]; omega))|exact fun h=>h|(simp only[Rw.rng] at *; first|omega|(simp_all; done)|(simp_all; omega))) ?_; conv=>whnf)
  refine⟨fun h4=>?_,fun h4=>?_⟩
  ·have h4':l.getD i false=false:=by
    have h5:(!(l.getD i false)&& !((List.replicate n false).getD i false))=true:=h4
    rw[hd] at h5; simpa using h5
   conv=>whnf
   exact au.bool (uN (p:=id) (d:=false) hi' h4')
  ·have h4':l.getD i false=true:=by
    have h5:(!(l.getD i false)&& !((List.replicate n false).getD i false))=false:=h4
    rw[hd] at h5; simpa using h5
   conv=>whnf
   refine .mk (by simp only[okI] at *; first|omega|(simp_all; done)|(simp_all; omega)) ?_
   conv=>whnf
   refine⟨i+1,⟨by omega,?_⟩,by omega,⟨⟨_,rfl,rfl⟩,trivial⟩,?_,rfl⟩
   ·rw[tY (d:=false) hi' hall]; exact h4'
   ·repeat' (first|exact trivial|exact⟨_,rfl,rfl⟩|constructor)
 ·have hi':l.length<=i:=by simpa using h3
  rw[List.take_of_length_le hi'] at hall
  conv=>whnf
  exact au.bool hall
theorem KR(l:List Clause):T.bZ (l.map tu)=true:=by
 rw[gY]; intro t ht; obtain⟨x,_,rfl⟩:=List.mem_map.1 ht; rfl
abbrev VF(l:List Clause):OV:=.row 30 4 (.clauses l) []
theorem aak{h:Hz}{j:Nat}{l:List Clause}{Z:Nat->Prop}(hz:Z j)(q:h.get j=some (VF l)):T.sub Z h.aj (V.row 4 false (.clauses l)).aI (V.own j).aI:=by
 show T.sub Z h.aj (.sl 4 false (l.map tu)) (.own j)
 simp only[T.sub]
 refine⟨trivial,hz,KR l,by decide,30,?_⟩
 have:=aH q; simpa [OV.aF,Rw.aX,V.aX] using this
theorem au.acC{h:Hz}{j:Nat}{l:List Clause}(q:h.get j=some (VF l)):au (.row 4 false (.clauses l)) (.own j) h:=⟨aak trivial q⟩
theorem S.jq(l a:List Clause)(f g:Bool)(hl:l.length<2^20)(ha:a.length<2^20):ak Tryz.prog 44 [.row 4 f (.clauses l),.row 4 g (.clauses a)] (.row 4 false (.clauses (l++a))):=by
 refine ak.of Bd.jq (by simp) rfl rfl ?_
 conv=>whnf
 refine .mk (by simp only[Rw.oK]; omega) ?_
 conv=>whnf
 rw[show decide ((l.length:Int)=l.length)=true from decide_eq_true rfl]
 conv=>whnf
 have ht:(l.take (l.length:Int).toNat)=l:=List.take_length
 have hcap:kQ 72 (Rw.take (l.length:Int).toNat (Rw.clauses l)).len (nO (Rw.clauses a) []):=by
  show((l.take (l.length:Int).toNat).length+(a.length+0))*72<=140737488355328/\(l.take (l.length:Int).toNat).length+(a.length+0)<=1152921504606846976
  rw[ht]; omega
 by_cases ha0:a=[]
 ·subst ha0
  refine Qb.both hcap ?_ ⟨rfl,?_⟩
  ·conv=>whnf
   refine au.acC ?_
   show some (VF (l.take (l.length:Int).toNat++[]))=_
   rw[ht]
  ·conv=>whnf
   refine au.row ?_
   show Rw.clauses (l++[])=Rw.clauses (l.take (l.length:Int).toNat)
   rw[ht,List.append_nil]
 ·refine Qb.one ⟨.inr ?_,hcap⟩ ?_
  ·have:=List.length_pos_iff.2 ha0
   show 0<a.length+0; omega
  ·conv=>whnf
   refine au.acC ?_
   show some (VF (l.take (l.length:Int).toNat++a))=_
   rw[ht]
def JH(b:Int)(c:List Int):Prop:= ∀ x∈c,0<=x/\x<=b
theorem JH.g{b:Int}{c:List Int}(h:JH b c)(hb:0<=b)(i:Nat):0<=c.getD i 0/\c.getD i 0<=b:=by
 by_cases hi:i<c.length
 ·rw[show c.getD i 0=c[i] by simp[hi]]; exact h _ (List.getElem_mem hi)
 ·rw[show c.getD i 0=0 by simp[List.getD_eq_getElem?_getD,List.getElem?_eq_none (by omega:c.length<=i)]]; omega
theorem JH.add{b k d i:Int}{c:List Int}(h:JH b c)(hb:0<=b)(hd:0<=d/\d<=k):JH (b+k) (lq c i d):=by
 intro x hx
 have hg:=h.g hb i.toNat
 rcases List.mem_or_eq_of_mem_set hx with hx|rfl
 ·have:=h x hx; omega
 ·omega
theorem JH.dec{b i:Int}{c:List Int}(h:JH b c)(hb:0<=b)(h0:(c.getD i.toNat 0==0)=false):JH b (bJ c i):=by
 intro x hx
 have hg:=h.g hb i.toNat
 have:=beq_eq_false_iff_ne.1 h0
 rcases List.mem_or_eq_of_mem_set hx with hx|rfl
 ·exact h x hx
 ·omega
theorem JH.resp{b:Int}{c:List Int}{r:Rule}(h:JH b c)(hb:0<=b): ∀ i:Nat,JH (i*b) (wS r c i):=by
 intro i
 induction i with
 |zero=>intro x hx; have:=List.eq_of_mem_replicate hx; subst this; simp
 |succ i ih =>
  rw[zS]
  have h0:0<=(i:Int)*b:=Int.mul_nonneg (by omega) hb
  have:=ih.add h0 (h.g hb i) (i:=r.response.getD i 0)
  have e:((i+1:Nat):Int)*b=i*b+b:=by rw[Int.natCast_succ,Int.add_mul,Int.one_mul]
  rw[e]; exact this
theorem JH.mono{b k:Int}{c:List Int}(h:JH b c)(hk:b<=k):JH k c:=fun x hx=>by have:=h x hx; omega
theorem YX{r:Rule}{e x:Elem}(hc:JH 8 e.counts)(hl:e.counts.length<=6)(h:dL r e=some x):Fq x.counts:=by
 have lift: ∀ {c:List Int} {v:Int},JH 100 c->some (⟨v,lq c r.to 1⟩:Elem)=some x->Fq x.counts:=by
  intro c v hc h; cases h
  exact(hc.add (k:=1) (by omega) ⟨by omega,by omega⟩).mono (by omega)
 unfold dL at h
 cases hs:(decide (0<=r.read)&&e.value !=r.read||e.counts.getD r.fr.toNat 0==0) with
 |true=>rw[hs] at h; cases h
 |false =>
  rw[hs] at h
  rw[Bool.or_eq_false_iff] at hs
  have h1:JH 8 (bJ e.counts r.fr):=hc.dec (by omega) hs.2
  simp only[cond_false] at h
  rcases gW h with h|h
  ·rcases gW h with h|h
   ·cases h
   ·exact lift (h1.mono (by omega)) h
  ·cases hp:(bJ e.counts r.fr).getD r.jk.toNat 0==0 with
   |true =>
    rw[hp] at h
    rcases gW h with h|h
    ·cases h
    ·rcases gW h with h|h
     ·refine lift ((h1.resp (by omega) (r:=r) (bJ e.counts r.fr).length).mono ?_) h
      rw[qV]
      have:(e.counts.length:Int)*8<=6*8:=Int.mul_le_mul_of_nonneg_right (by omega) (by omega)
      omega
     ·exact lift (h1.mono (by omega)) h
   |false =>
    rw[hp] at h
    rcases gW h with h|h
    ·exact lift (((h1.dec (by omega) hp).add (k:=1) (by omega) ⟨by omega,by omega⟩).mono (by omega)) h
    ·rcases gW h with h|h
     ·refine lift ((h1.resp (by omega) (r:=r) (bJ e.counts r.fr).length).mono ?_) h
      rw[qV]
      have:(e.counts.length:Int)*8<=6*8:=Int.mul_le_mul_of_nonneg_right (by omega) (by omega)
      omega
     ·exact lift (h1.mono (by omega)) h
theorem Wh{r:Rule}{e x:Elem}(h:dL r e=some x):x.value=CY r e:=by
 have lift: ∀ {c:List Int},some (⟨bif decide (r.write>=0) then r.write else e.value,c⟩:Elem)=some x->x.value=CY r e:=by
  intro c h; cases h; rfl
 unfold dL at h
 rcases gW h with h|h
 ·cases h
 rcases gW h with h|h
 ·rcases gW h with h|h
  ·cases h
  ·exact lift h
 rcases gW h with h|h
 ·rcases gW h with h|h
  ·cases h
  ·exact lift h
 rcases gW h with h|h
 ·exact lift h
 ·exact lift h
theorem Nq: ∀ {l:List Int},wM l=true->l.Pairwise (· < ·):=by
 intro l
 induction l with
 |nil=>intro _; exact List.Pairwise.nil
 |cons x r ih =>
  intro h
  cases r with
  |nil=>exact List.pairwise_singleton _ _
  |cons y r =>
   simp only[wM,Bool.and_eq_true,decide_eq_true_eq] at h
   have h2:=ih h.2
   refine List.pairwise_cons.2 ⟨fun z hz=>?_,h2⟩
   rcases List.mem_cons.1 hz with rfl|hz
   ·exact h.1
   ·have:=(List.pairwise_cons.1 h2).1 z hz; omega
theorem Qc{l:List Int}{n:Nat}(h:dX l n=0):uK n l:=by
 refine⟨zT h,Nq ?_⟩
 unfold dX at h
 cases ha:l.any fun i=>oI i n with
 |true=>rw[ha] at h; cases h
 |false =>
  rw[ha] at h
  cases hi:wM l with
  |true=>rfl
  |false=>rw[hi] at h; cases h
theorem MZ{p:aS}{k:Clause}(h:nT p k=0):Ak p.states.length p.values.length k:=by
 unfold nT at h
 obtain⟨h1,h⟩:=bz (fun _=>by decide) h
 obtain⟨h2,h⟩:=bz nz h
 obtain⟨h3,h4⟩:=bz nz h
 refine⟨by have:=of_decide_eq_false h1; omega,fun s hs=>?_,Qc (by simpa using h3),Qc h4⟩
 have:=jw (by simpa using h2) (nP p.states.length s) (List.mem_map.2 ⟨s,hs,rfl⟩)
 unfold nP at this
 obtain⟨g1,g2⟩:=bz nz this
 refine⟨Qc (by simpa using g1),fun e=>?_⟩
 subst e; exact absurd g2 (by decide)
structure lZ(n vals:Nat)(l:List Clause):Prop where
 cl: ∀ k∈l,Ak n vals k
 len:l.length<=1000
theorem G5{p:aS}{l:List Clause}(h:qW p l=0):lZ p.states.length p.values.length l/\l.length<=160:=by
 unfold qW at h
 obtain⟨h1,h⟩:=bz (fun _=>by decide) h
 have h1':l.length<=160:=by have:=of_decide_eq_false h1; omega
 exact⟨⟨fun k hk=>MZ (jw h _ (List.mem_map.2 ⟨k,hk,rfl⟩)),by omega⟩,h1'⟩
theorem Ak.small{n vals:Nat}{k:Clause}(h:Ak n vals k)(hn:n<=6)(hv:vals<=3):nS k:=by
 have h1:=h.two
 have h2:=h.values.len
 have h3:=h.some.len
 refine⟨by omega,fun i=>?_,by omega,by omega⟩
 by_cases hi:i<k.each.length
 ·have:=(h.each _ (getM (d:=[]) hi)).1.len; omega
 ·rw[show k.each.getD i []=[] by simp[List.getD_eq_getElem?_getD,List.getElem?_eq_none (by omega:k.each.length<=i)]]; decide
theorem lZ.small{n vals:Nat}{l:List Clause}(h:lZ n vals l)(hn:n<=6)(hv:vals<=3):SmallK l:=by
 have:=h.len
 refine⟨by omega,fun i=>?_⟩
 by_cases hi:i<l.length
 ·exact(h.cl _ (getM hi)).small hn hv
 ·rw[show l.getD i default=default by simp[List.getD_eq_getElem?_getD,List.getElem?_eq_none (by omega:l.length<=i)]]
  exact⟨by decide,fun i=>by show(([]:List (List Int)).getD i []).length<2^30; rw[List.getD_nil]; decide,by decide,by decide⟩
theorem lZ.tab{n vals:Nat}{l:List Clause}{e:Elem}(h:lZ n vals l)(hl:e.counts.length=n)(hc:Fq e.counts)(hn0:0<n)(KN:n<=6)(hv:0<=e.value/\e.value<=1048576):Ja l e :=
 ⟨⟨vals,by rw[hl]; exact h.cl⟩,hc,⟨by omega,by omega⟩,hv⟩
theorem GN.nn{b n vals:Nat}{e:Elem}(h:GN b n vals e)(hb:b<=9):JH 8 e.counts:=fun x hx=>by have:=h.rng x hx; omega
theorem GN.Fq{b n vals:Nat}{e:Elem}(h:GN b n vals e)(hb:b<=9):Fq e.counts:=fun x hx=>by have:=h.rng x hx; omega
theorem lZ.at{n vs vals:Nat}{l:List Clause}{b:Nat}{e:Elem}(h:lZ n vs l)(he:GN b n vals e)(hb:b<=9)(hv:vals<=3)(hn0:0<n)(KN:n<=6):Ja l e :=
 h.tab he.len (he.Fq hb) hn0 KN ⟨he.val.1,by have:=he.val.2; omega⟩
theorem lZ.app{n vals:Nat}{l a:List Clause}(h:lZ n vals l)(g:lZ n vals a)(hs:l.length+a.length<=1000):lZ n vals (l++a) :=
 ⟨fun k hk=>(List.mem_append.1 hk).elim (h.cl k) (g.cl k),by rw[List.length_append]; exact hs⟩
end Go.Proofs.YtbigdcimbhgjbaaGreatDoor
