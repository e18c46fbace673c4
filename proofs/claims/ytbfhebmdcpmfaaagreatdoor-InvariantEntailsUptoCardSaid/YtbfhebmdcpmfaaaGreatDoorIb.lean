/-
 A part of the proof. No condition.
-/
import Derived.Test.YtbfhebmdcpmfaaaGreatDoorIa
namespace Go.Proofs.YtbfhebmdcpmfaaaGreatDoor
open Go.Ab Go.Proofs
set_option maxRecDepth 100000
theorem S.OA(l:List Int)(f:Bool)(h0:0<l.length)(hl:l.length<2^30)(n:Nat):aK Tryz.prog 62 (V.aT [.row 0 f (.ints l)]) (Hz.aj []) n (fun t hp=>t= .own n/\hp=Hz.aj [(n,some (jR l))]):=by
 refine oV.of (nx:=0) (h0:=[]) Bd.jv (by simp) ⟨_,_,rfl,rfl⟩ rfl rfl ?_
 conv=>whnf
 refine UE.mk (fun hz=>?_) ?_
 ·exact absurd (show l.length=0 from hz) (by omega)
 ·conv=>whnf
  refine Fork.mk (fun q=>absurd (q.symm.trans ((rfl:false=false))).symm Bool.false_ne_true) (fun _=>?_)
  conv=>whnf
  refine .mk (by simp only[mW,lS,Rw.len]; omega) ?_
  conv=>whnf
  repeat(refine VC.mk (by simp only[mW,lS,Rw.len]; omega) ?_; conv=>whnf)
  exact iC.one (c:=n) (o:=jR l) (t:=.own n) rfl rfl rfl nofun (.inr rfl) rfl (.eq rfl) ⟨rfl,rfl⟩
theorem S.wV(l:List Int)(f:Bool)(h0:0<l.length)(hl:l.length<2^30):uy Tryz.prog 62 (V.aT [.row 0 f (.ints l)]) (fun n=>.own n) (some ⟨3,0,(Rw.ints l).aT⟩):=by
 refine⟨V.gV [.row 0 f (.ints l)] rfl,fun _=>rfl,(fun ob h=>by cases h; rw[gU]; intro t ht; obtain⟨x,_,rfl⟩:=List.mem_map.1 ht; rfl),(fun ob h=>by cases h; exact fun e=>absurd e (by decide:(0:Nat)≠fC)),fun n=>(S.OA l f h0 hl n).mono ?_⟩
 rintro t hp ⟨rfl,rfl⟩
 refine⟨rfl,?_⟩
 rw[bF]; simp[mZ,OV.aF,V.aT]; rfl
abbrev hF(c:List Int):Hz:=[(1,some (.box 24 0 (.own 0))),(0,some (jR c))]
theorem iC.ofF{c:List Int}{h:Hz}{n:Nat}{v:V}{post:T->Hp->Prop}(q0:h.get 0=some (jR c))(q1:h.get 1=some (.box 24 0 (.own 0)))(hv:v.free=true)(hp:post v.aG (hF c).aj):iC (hF c) n post v h:=by
 refine iC.NY (h2:=hF c) (u:=v) (fun _=>False) ⟨bn (Z:=fun _=>False) q1 (fun q=>q),bn (Z:=fun _=>False) q0 (fun q=>q),trivial⟩ ?_ hv (aC _) hp
 intro i o ho
 have hG:=ku (show qU 2 (hF c)=true from rfl) i o.aF (aH ho)
 refine⟨by rw[aH ho]; rfl,T.ay (fun i hi=>?_) _ hG.2.1,hG.2.2⟩
 match i,hi with
 |0,_=>rfl
 |1,_=>rfl
 |k+2,hk=>exact absurd hk (by omega)
theorem S.Xw(c:List Int)(x:Int)(hx:0<=x/\x<c.length)(hc:c.length<2^30)(n:Nat):aK Tryz.prog 129 (V.aT [.int x,.ptr 1 0 0]) (hF c).aj n (fun t hp=>t= .bool (decide (c.getD x.toNat 0>0))/\hp=(hF c).aj):=by
 refine oV.of (nx:=2) Bd.oW (by simp) ⟨_,_,rfl,rfl⟩ rfl rfl ?_
 conv=>whnf
 repeat(refine VC.mk (by simp only[Rw.rng]; omega) ?_; conv=>whnf)
 exact iC.ofF rfl rfl rfl ⟨rfl,rfl⟩
def JL(c:List Int):List Int->Nat->Int
 |[],_=> -1
 |x::r,i=>bif decide (c.getD x.toNat 0>0) then(i:Int) else JL c r (i+1)
theorem Xx{c l:List Int}:decide (0<=JL c l 0)=l.any fun x=>decide (c.getD x.toNat 0>0):=by
 have: ∀ {l:List Int} {i:Nat},0<=JL c l i↔(l.any fun x=>decide (c.getD x.toNat 0>0))=true:=by
  intro l
  induction l with
  |nil=>intro i; simp[JL]
  |cons x r ih =>
   intro i
   rw[List.any_cons,Bool.or_eq_true,<- ih (i:=i+1)]
   show(0:Int)<=(bif decide (c.getD x.toNat 0>0) then(i:Int) else JL c r (i+1))↔_
   generalize decide (c.getD x.toNat 0>0)=b
   cases b<;>simp
 rw[Bool.eq_iff_iff,decide_eq_true_eq]; exact this
theorem S.OB(c l:List Int)(f:Bool)(hl:l.length<2^30)(hp:pW c.length l)(hc:c.length<2^30)(n:Nat):aK Tryz.prog 137 (V.aT [.row 0 f (.ints l),.fn 129 [.ptr 1 0 0]]) (hF c).aj n (fun t hp=>t= .int (JL c l 0)/\hp=(hF c).aj):=by
 refine oV.of (nx:=2) Bd.jF (by simp) ⟨_,_,rfl,rfl⟩ rfl rfl ?_
 conv=>whnf
 refine aP.same [0,1,6,7] (fun i:Nat=>[(8,.int i)]) (fun i=>i<=l.length/\JL c l 0=JL c (l.drop i) i) (fun i=>l.length-i) 0 rfl (by decide) rfl (fun _=>rfl) ⟨by omega,by simp⟩ ⟨⟨_,rfl,rfl⟩,trivial⟩ ?_
 conv=>whnf
 refine⟨rfl,?_⟩
 rintro i ⟨hi,hall⟩
 conv=>whnf
 refine⟨fun h3=>?_,fun h3=>?_⟩
 ·have hi':i<l.length:=by simpa using h3
  rw[bC 0 hi'] at hall
  simp only[JL] at hall
  conv=>whnf
  refine .mk (by simp only[Rw.rng] at *; first|omega|(simp_all; done)|(simp_all; omega)) ?_
  conv=>whnf
  refine ah.heap (S.Xw c (l.getD i 0) (hp _ (getM hi')) hc _) ?_
  rintro t hp ⟨rfl,rfl⟩
  refine⟨.bool _,hF c,rfl,rfl,?_⟩
  conv=>whnf
  refine⟨fun h4=>?_,fun h4=>?_⟩
  ·conv=>whnf
   rw[h4] at hall
   exact iC.ofF rfl rfl rfl ⟨by rw[hall]; rfl,rfl⟩
  ·conv=>whnf
   refine .mk (by simp only[okI] at *; first|omega|(simp_all; done)|(simp_all; omega)) ?_
   conv=>whnf
   rw[h4] at hall
   refine⟨i+1,⟨by omega,hall⟩,by omega,⟨⟨_,rfl,rfl⟩,trivial⟩,?_,rfl⟩
   repeat' (first|exact trivial|exact⟨_,rfl,rfl⟩|constructor)
 ·conv=>whnf
  have hi':l.length<=i:=by simpa using h3
  rw[List.drop_eq_nil_of_le hi'] at hall
  exact iC.ofF rfl rfl rfl ⟨by rw[hall]; rfl,rfl⟩
theorem S.H9(c l:List Int)(f:Bool)(hl:l.length<2^30)(hp:pW c.length l)(hc:c.length<2^30)(n:Nat):aK Tryz.prog 128 (V.aT [.row 0 f (.ints l),.fn 129 [.ptr 1 0 0]]) (hF c).aj n (fun t hp=>t= .bool (oL [] l c)/\hp=(hF c).aj):=by
 refine oV.of (nx:=2) Bd.iI (by simp) ⟨_,_,rfl,rfl⟩ rfl rfl ?_
 conv=>whnf
 refine ah.heap (S.OB c l f hl hp hc _) ?_
 rintro t hp ⟨rfl,rfl⟩
 refine⟨.int _,hF c,rfl,rfl,?_⟩
 conv=>whnf
 exact iC.ofF rfl rfl rfl ⟨by rw[show oL [] l c=_ from Xx.symm]; rfl,rfl⟩
theorem RG{c:List Int}{x:Int}(hx:0<=x/\x<c.length):((dL c x).set x.toNat ((dL c x).getD x.toNat 0+1))=c:=by
 have hlt:x.toNat<c.length:=by omega
 have e:(dL c x).getD x.toNat 0=c.getD x.toNat 0-1:=by
  have:=oM (c:=c) (b:=x) hx hx.1
  simpa using this
 rw[e,Int.sub_add_cancel]
 unfold dL
 rw[List.set_set]
 refine List.ext_getElem (by simp) fun i h1 h2=>?_
 rw[List.getElem_set]
 split
 ·rename_i e; subst e; simp[hlt]
 ·rfl
theorem S.kC(l:List Int)(g:Bool)(hl:l.length<2^30): ∀ (each:List (List Int)) (c:List Int) (f:Bool),each.length<2^30->c.length<2^30->Ag c->pW c.length l->(∀ s∈each,pW c.length s/\s.length<2^30)->(each.length:Int)<=2->aK Tryz.prog 104 (V.aT [.row 0 f (.kP each),.row 0 g (.ints l),.own 0]) (Hz.aj [(0,some (jR c))]) 1 (fun t hp=>t= .bool (oL each l c)/\hp=Hz.aj [(0,some (jR c))]):=by
 intro each
 induction each with
 |nil =>
  intro c f he hc hb hp hs h2
  refine oV.of (nx:=1) (h0:=[(0,some (jR c))]) Bd.kC (by simp) ⟨_,_,rfl,rfl⟩ rfl rfl ?_
  conv=>whnf
  refine Fork.mk (fun _=>?_) (fun q=>absurd (q.symm.trans ((rfl:true=true))) Bool.false_ne_true)
  conv=>whnf
  refine ah.heap (S.H9 c l g hl hp hc _) ?_
  rintro t hp' ⟨rfl,rfl⟩
  refine⟨.bool _,hF c,rfl,rfl,?_⟩
  conv=>whnf
  exact iC.same (nx:=1) rfl ⟨rfl,trivial⟩ rfl rfl ⟨rfl,rfl⟩
 |cons s each ih =>
  intro c f he hc hb hp hs h2
  refine oV.of (nx:=1) (h0:=[(0,some (jR c))]) Bd.kC (by simp) ⟨_,_,rfl,rfl⟩ rfl rfl ?_
  conv=>whnf
  refine Fork.mk (fun q=>absurd (q.symm.trans ((rfl:false=false))).symm Bool.false_ne_true) (fun _=>?_)
  conv=>whnf
  refine .mk (by simp only[Rw.rng] at *; first|omega|(simp_all; done)|(simp_all; omega)) ?_
  conv=>whnf
  conv=>whnf
  obtain⟨hs1,hs2⟩:=hs s (by simp)
  refine aP.Eo 2 [0,1,5,18,19] (fun i:Nat=>[(20,.int i)]) (fun _=>[(1,.box 24 0 (.own 0)),(0,jR c)]) (fun i=>i<=s.length/\(s.take i).all (fun x=>c.getD x.toNat 0==0||oL each l (dL c x))=true) (fun i=>s.length-i) 0 [1,0] rfl (by decide) (fun _=>rfl) ⟨by omega,by simp⟩ ?_ ?_ ?_
  ·exact⟨⟨_,rfl,.eq rfl⟩,trivial⟩
  ·exact⟨⟨rfl,nofun,rfl,rfl,_,rfl,rfl,rfl,bg.of_eq rfl⟩,okF rfl (fun _=>rfl) rfl rfl rfl ⟨rfl,rfl⟩ rfl,trivial⟩
  conv=>whnf
  refine⟨⟨⟨_,rfl,.eq rfl⟩,⟨_,rfl,.eq rfl⟩,⟨_,rfl,.eq rfl⟩,⟨_,rfl,.eq rfl⟩,⟨_,rfl,.eq rfl⟩,trivial⟩,rfl,?_⟩
  rintro i ⟨hi,hall⟩
  conv=>whnf
  refine⟨fun h3=>?_,fun h3=>?_⟩
  ·have hi':i<s.length:=by simpa using h3
   obtain⟨p1,p2⟩:=hs1 _ (getM (d:=0) hi')
   have hg:=hb.g (s.getD i 0).toNat
   have hnext:=mO (d:=0) hi' hall
   have Qi:=fun h=>lV (p:=fun x=>c.getD x.toNat 0==0||oL each l (dL c x)) (d:=0) hi' h
   conv=>whnf
   repeat(refine VC.mk (by simp only[Rw.rng] at *; first|omega|(simp_all; done)|(simp_all; omega)) ?_; conv=>whnf)
   refine⟨fun h4=>?_,fun h4=>?_⟩
   ·have h4':(c.getD (s.getD i 0).toNat 0==0)=true:=h4
    conv=>whnf
    refine .mk (by simp only[okI] at *; first|omega|(simp_all; done)|(simp_all; omega)) ?_
    conv=>whnf
    refine⟨i+1,[1,0],⟨by omega,?_⟩,by omega,⟨⟨_,rfl,.eq rfl⟩,trivial⟩,⟨⟨_,rfl,.eq rfl⟩,⟨_,rfl,.eq rfl⟩,⟨_,rfl,.eq rfl⟩,⟨_,rfl,.eq rfl⟩,⟨_,rfl,.eq rfl⟩,trivial⟩,⟨rfl,nofun,rfl,rfl,_,rfl,rfl,rfl,bg.of_eq rfl⟩,okF rfl (fun _=>rfl) rfl rfl rfl ⟨rfl,rfl⟩ rfl,trivial⟩
    rw[hnext,h4']; rfl
   have h4':(c.getD (s.getD i 0).toNat 0==0)=false:=h4
   have hnz:c.getD (s.getD i 0).toNat 0≠0:=beq_eq_false_iff_ne.1 h4'
   conv=>whnf
   repeat(refine VC.mk (by first|(first|(simp only[Rw.rng,Int.toNat_natCast]; omega)|(simp only[okI,Int.toNat_natCast]; omega)|(simp only[Rw.lT,List.length_cons]; omega))|(simp only[okI,Rw.rng] at *; first|omega|(simp_all; done)|(simp_all; omega))) ?_; conv=>whnf)
   refine ah.F7 (i:=0) (ts:=[.row 0 f (.kP each),.row 0 g (.ints l),.own 0]) (ih (dL c (s.getD i 0)) f (by simp only[List.length_cons] at he; omega) (by simp only[dL,List.length_set]; exact hc) ?_ (by simp only[dL,List.length_set]; exact hp) (fun t ht=>by simp only[dL,List.length_set]; exact hs t (List.mem_cons_of_mem _ ht)) (by simp only[List.length_cons] at h2; omega)) (by rfl) (by rfl) (by rfl) (by rfl) (by rfl) (by rfl) ?_
   ·intro x hx
    have:=List.mem_or_eq_of_mem_set hx
    rcases this with h|rfl
    ·exact hb x h
    ·omega
   rintro t hp' ⟨rfl,rfl⟩
   refine .inl ⟨.bool _,jR (dL c (s.getD i 0)),rfl,rfl,rfl,?_⟩
   have htg:(dL c (s.getD i 0)).getD (s.getD i 0).toNat 0=c.getD (s.getD i 0).toNat 0-1:=by
    have:=oM (c:=c) (b:=s.getD i 0) ⟨p1,p2⟩ p1
    simpa using this
   have hbk:=RG (c:=c) ⟨p1,p2⟩
   have hr2:Rw.rng ((s.getD i 0).toNat:Int) (.ints (dL c (s.getD i 0))):=⟨by omega,by simp only[dL,List.length_set]; omega⟩
   conv=>whnf
   repeat(refine VC.mk (by first|exact hr2|(exact⟨p1,by simp only[dL,List.length_set]; exact p2⟩)|(show okI ((dL c (s.getD i 0)).getD (s.getD i 0).toNat 0+1); rw[htg]; simp only[okI]; omega)) ?_; conv=>whnf)
   refine⟨fun h5=>?_,fun h5=>?_⟩
   ·have h5':oL each l (dL c (s.getD i 0))=false:=by simpa using h5
    conv=>whnf
    refine iC.same (nx:=1) rfl ⟨congrArg (fun l=>some (jR l)) hbk,trivial⟩ rfl rfl ⟨?_,rfl⟩
    rw[show oL (s::each) l c=false from Qi (by rw[h4',h5']; rfl)]; rfl
   ·have h5':oL each l (dL c (s.getD i 0))=true:=by simpa using h5
    conv=>whnf
    refine .mk (by simp only[okI,Rw.rng] at *; first|omega|(simp_all; done)|(simp_all; omega)) ?_
    conv=>whnf
    refine⟨i+1,[1,0],⟨by omega,?_⟩,by omega,⟨⟨_,rfl,.eq rfl⟩,trivial⟩,⟨⟨_,rfl,.eq rfl⟩,⟨_,rfl,.eq rfl⟩,⟨_,rfl,.eq rfl⟩,⟨_,rfl,.eq rfl⟩,⟨_,rfl,.eq rfl⟩,trivial⟩,⟨rfl,nofun,rfl,rfl,_,rfl,rfl,rfl,bg.of_eq rfl⟩,okF rfl (fun _=>rfl) rfl rfl rfl ⟨rfl,rfl⟩ ?_,trivial⟩
    ·rw[hnext,h5',Bool.or_true]
    ·exact congrArg (fun l=>(jR l).aF.l) hbk.symm
  ·have hi':s.length<=i:=by simpa using h3
   rw[List.take_of_length_le hi'] at hall
   conv=>whnf
   exact iC.same (nx:=1) rfl ⟨rfl,trivial⟩ rfl rfl ⟨by rw[show oL (s::each) l c=true from hall]; rfl,rfl⟩
theorem ah.Zx{P:Program}{f:FuncId}{args:List V}{h:Hz}{n ty k:Nat}{r:Rw}{K:V->Hz->Prop}{KW:Nat->V->Hz->Prop}(H:uy P f (V.aT args) (fun n=>.own n) (some ⟨ty,k,r.aT⟩))(hn:h.get n=none)(hK:KW 0 (.own n) ((n,some (.row ty k r []))::h)):ah P true none f args h n K KW :=
 ⟨.inr (.inr ⟨rfl,rfl,hn,(uy.frame H _ _).mono (by rintro t hp ⟨rfl,rfl⟩; exact⟨.own n,_,rfl,by rw[bF]; simp[mZ,OV.aF,V.aT],hK⟩)⟩)⟩
theorem S.lq(k:Clause)(e:Elem)(h:Rx k e)(h0:0<e.counts.length)(hk:k.values.length<2^30):ak Tryz.prog 72 [.dat (.clause k),.dat (.elem e)] (.bool (holdsB k e)):=by
 obtain⟨⟨vals,hcl⟩,hok,hln⟩:=h
 have hS:=hcl.some.len
 have h2:=hcl.two
 refine ak.of Bd.lq (by simp) rfl rfl ?_
 conv=>whnf
 repeat(refine VC.mk (by first|exact id|exact fun h=>⟨h,h⟩) ?_; conv=>whnf)
 refine ah.fJ (fun _=>S.slices_Contains_int k.values e.value false (by omega)) rfl ?_
 conv=>whnf
 repeat(refine VC.mk id ?_; conv=>whnf)
 refine⟨fun h1=>?_,fun h1=>?_⟩
 ·conv=>whnf
  exact au.bool (by rw[holdsB,show IK k e.value=true from h1]; rfl)
 have hfree:IK k e.value=false:=h1
 conv=>whnf
 refine ah.Zx (r:=.ints e.counts) (S.wV e.counts false h0 (by omega)) rfl ?_
 conv=>whnf
 refine ah.F7 (ts:=[.row 0 false (.kP k.each),.row 0 false (.ints k.some),.own 0]) (S.kC k.some false (by omega) k.each e.counts false (by omega) (by omega) hok hcl.some.place (fun s hs=>⟨(hcl.each s hs).1.place,by have:=(hcl.each s hs).1.len; omega⟩) (by omega)) (by rfl) (by rfl) (by rfl) (by rfl) (by rfl) (by rfl) ?_
 rintro t hp' ⟨rfl,rfl⟩
 refine .inl ⟨.bool _,jR e.counts,rfl,rfl,rfl,?_⟩
 conv=>whnf
 exact au.bool (by rw[holdsB,hfree]; rfl)
theorem RH{α:Type}{P Q:List α}{x z:α}{k:Nat}(h:k=P.length):(P++x::Q).set k z=P++z::Q:=by
 subst h; simp
theorem UZ{α:Type}{P Q:List α}{x d:α}{k:Nat}(h:k=P.length):(P++x::Q).getD k d=x:=by
 subst h; simp
theorem I5(l:List Int):T.pU (Rw.ints l).aT=true:=by
 show T.pU (l.map T.int)=true
 induction l with
 |nil=>rfl
 |cons s r ih=>simp only[List.map_cons,T.pU,ih]; rfl
set_option maxHeartbeats 2000000 in
theorem S.dY(p:aW)(n vals m:Nat)(_hp:dD p)(hn:p.states.length=n)(hn0:0<n)(zH:n<=6)(hvs:max 1 p.values.length=vals)(mY:vals<=3)(hm8:m<=8) :
  ak Tryz.prog 52 [.dat (.dJ p),.int m] (.row 3 false (.elems (fH (m+1) n vals))):=by
 have hb0:0<m+1:=by omega
 have h46:(m+1)^n<=531441:=oU (by omega) zH
 refine ak.of Bd.dY (by simp) rfl rfl ?_
 conv=>whnf
 refine aP.nil 5 55 3 (by rfl) rfl rfl rfl ?_
 refine aP.objs 2 [1,2,12] (fun v:Nat=>[(13,.int v),(5,.own 1)]) (fun v=>[(0,.box 27 11 (.dat (.dJ p))),(1,nG (fH (m+1) n v))]) (fun v=>v<=vals) (fun v=>vals-v) 0 [0,8] rfl (by decide) (fun _=>rfl) (Nat.zero_le _) ?_ ?_ ?_
 ·exact⟨⟨_,rfl,.eq rfl⟩,⟨_,rfl,.eq rfl⟩,trivial⟩
 ·exact⟨⟨rfl,nofun,rfl,rfl,rfl,_,rfl,rfl,rfl,bg.of_eq rfl⟩,⟨rfl,nofun,rfl,rfl,rfl,_,rfl,rfl,rfl,bg.of_eq rfl⟩,trivial⟩
 conv=>whnf
 refine⟨⟨⟨_,rfl,.eq rfl⟩,⟨_,rfl,.eq rfl⟩,⟨_,rfl,.eq rfl⟩,trivial⟩,rfl,?_⟩
 rintro v hv
 have hrl:(fH (m+1) n v).length=v*((m+1)^n-1):=oN
 have hr2:v*((m+1)^n-1)<=3*531441:=Nat.mul_le_mul (by omega) (by omega)
 conv=>whnf
 refine⟨fun h3=>?_,fun h3=>?_⟩
 ·have hv':v<vals:=by
   have:(v:Int)<max 1 (p.values.length:Int):=of_decide_eq_true h3
   omega
  conv=>whnf
  have hm:=yg (n:=p.states.length) (by omega)
  rw[hm]
  conv=>whnf
  refine .mk (by omega) ?_
  conv=>whnf
  refine aP.LH 3 [1,2,6,12,13] (fun u:Nat=>[(5,.own 1),(7,.own 2)]) (fun u=>[(0,.box 27 11 (.dat (.dJ p))),(1,nG (fH (m+1) n v++rW (m+1) n v u)),(2,jR (eH (m+1) n u))]) (fun u=>u<(m+1)^n) (fun u=>(m+1)^n-u) 0 [0,1,8] [(0,some (.box 27 11 (.dat (.dJ p)))),(1,some (nG (fH (m+1) n v))),(8,some (jR (List.replicate p.states.length 0)))] rfl (by decide) (fun _=>rfl) (Nat.pow_pos hb0) ?_ ?_ ?_ ?_
  ·exact⟨⟨_,rfl,.eq rfl⟩,⟨_,rfl,.eq rfl⟩,trivial⟩
  ·exact⟨fun _=>False,bn (Z:=fun _=>False) rfl (fun q=>q),bn (Z:=fun _=>False) rfl (fun q=>q),bn (Z:=fun _=>False) rfl (fun q=>q),trivial⟩
  ·exact⟨okF rfl nofun rfl rfl rfl ⟨rfl,rfl⟩ rfl,okF rfl nofun rfl rfl rfl ⟨rfl,rfl⟩ (by simp[rW]),okF rfl nofun rfl rfl rfl ⟨rfl,rfl⟩ (by rw[Dw hb0,hn]),trivial⟩
  conv=>whnf
  refine⟨⟨⟨_,rfl,.eq rfl⟩,⟨_,rfl,.eq rfl⟩,⟨_,rfl,.eq rfl⟩,⟨_,rfl,.eq rfl⟩,⟨_,rfl,.eq rfl⟩,trivial⟩,rfl,?_⟩
  rintro u hu
  have hdl:(eH (m+1) n u).length=n:=dU
  conv=>whnf
  refine .mk (by first|(simp only[okI,dU]; omega)|omega) ?_
  conv=>whnf
  refine aP.objs 3 [1,2,6,12,13] (fun k:Nat=>[(8,.int ((n:Int)-1-k)),(5,.own 1),(7,.own 2)]) (fun k=>[(0,.box 27 11 (.dat (.dJ p))),(1,nG (fH (m+1) n v++rW (m+1) n v u)),(2,jR (rP (m+1) n u k))]) (fun k=>k<=n/\u+1=(u / (m+1)^k+1)*(m+1)^k) (fun k=>n-k) 0 [0,1,2] rfl (by decide) (fun _=>rfl) ⟨Nat.zero_le _,by simp⟩ ?_ ?_ ?_
  ·refine⟨⟨_,rfl,.eq ?_⟩,⟨_,rfl,.eq rfl⟩,⟨_,rfl,.eq rfl⟩,trivial⟩
   show T.int ((n:Int)-1-((0:Nat):Int))=T.int (((eH (m+1) n u).length:Int)-1)
   rw[dU]; exact congrArg T.int (by omega)
  ·refine⟨⟨rfl,nofun,rfl,rfl,rfl,_,rfl,rfl,rfl,bg.of_eq rfl⟩,⟨rfl,nofun,rfl,rfl,rfl,_,rfl,rfl,rfl,bg.of_eq rfl⟩,⟨rfl,nofun,rfl,rfl,rfl,_,rfl,rfl,rfl,bg.of_eq ?_⟩,trivial⟩
   rw[FT]
  conv=>whnf
  refine⟨⟨⟨_,rfl,.eq rfl⟩,⟨_,rfl,.eq rfl⟩,⟨_,rfl,.eq rfl⟩,⟨_,rfl,.eq rfl⟩,⟨_,rfl,.eq rfl⟩,trivial⟩,rfl,?_⟩
  rintro k ⟨hk,hvk⟩
  have hbl:=IL (b:=m+1) (v:=u) hk
  have hcell:k<n->(rP (m+1) n u k).getD (n-1-k) 0=((u / (m+1)^k % (m+1):Nat):Int):=fun hkn=>by
   rw[nX hkn]; exact UZ (by rw[dU]; omega)
  have hti:((n:Int)-1-k).toNat=n-1-k:=by omega
  conv=>whnf
  repeat(refine VC.mk (by first|exact id|exact fun h=>⟨h,h⟩|(intro h; (repeat' apply And.intro)<;>first|exact h|omega|(simp only[Rw.lT]; omega)|(simp only[Rw.rng]; omega))|(simp only[Rw.rng] at *; first|omega|(simp_all; done)|(simp_all; omega))) ?_; conv=>whnf)
  refine⟨fun h6=>?_,fun h6=>?_⟩
  ·rw[Bool.and_eq_true] at h6
   have hkn:k<n:=by have:=of_decide_eq_true h6.1; omega
   have h3:u / (m+1)^k % (m+1)+1=m+1:=by
    have:=beq_iff_eq.1 h6.2
    rw[hti,hcell hkn] at this; omega
   conv=>whnf
   repeat(refine VC.mk (by first|(simp only[okI]; omega)|(simp only[Rw.rng,hbl]; omega)) ?_; conv=>whnf)
   refine⟨k+1,[0,1,2],⟨by omega,FV hb0 h3 hvk⟩,by omega,⟨⟨_,rfl,.eq ?_⟩,⟨_,rfl,.eq rfl⟩,⟨_,rfl,.eq rfl⟩,trivial⟩,⟨⟨_,rfl,.eq rfl⟩,⟨_,rfl,.eq rfl⟩,⟨_,rfl,.eq rfl⟩,⟨_,rfl,.eq rfl⟩,⟨_,rfl,.eq rfl⟩,trivial⟩,⟨rfl,nofun,rfl,rfl,rfl,_,rfl,rfl,rfl,bg.of_eq rfl⟩,⟨rfl,nofun,rfl,rfl,rfl,_,rfl,rfl,rfl,bg.of_eq rfl⟩,⟨rfl,nofun,rfl,rfl,rfl,_,rfl,rfl,rfl,bg.of_eq ?_⟩,trivial⟩
   ·show T.int ((n:Int)-1-((k+1:Nat):Int))=T.int ((n:Int)-1-(k:Int)-1)
    exact congrArg T.int (by omega)
   ·rw[hti,FU hkn,nX hkn,RH (by rw[dU]; omega)]
  conv=>whnf
  refine⟨fun h7=>?_,fun h7=>?_⟩
  ·have hkn:k=n:=by have:=of_decide_eq_true h7; omega
   subst hkn
   have hlast:=Lu hu hvk
   have hu':u=(m+1)^k-1:=by omega
   rw[hu',<- y7]
   conv=>whnf
   refine .mk (by first|(simp only[okI]; omega)|omega) ?_
   conv=>whnf
   refine⟨v+1,[0,1],by omega,by omega,⟨⟨_,rfl,.eq rfl⟩,⟨_,rfl,.eq rfl⟩,trivial⟩,⟨⟨_,rfl,.eq rfl⟩,⟨_,rfl,.eq rfl⟩,⟨_,rfl,.eq rfl⟩,trivial⟩,⟨rfl,nofun,rfl,rfl,rfl,_,rfl,rfl,rfl,bg.of_eq rfl⟩,⟨rfl,nofun,rfl,rfl,rfl,_,rfl,rfl,rfl,bg.of_eq rfl⟩,trivial⟩
  ·have hkn:k<n:=by have:=of_decide_eq_false h7; omega
   have h3:u / (m+1)^k % (m+1)+1≠m+1:=by
    rw[Bool.and_eq_false_iff] at h6
    rcases h6 with h6|h6
    ·have:=of_decide_eq_false h6; omega
    ·intro e
     have h6':((rP (m+1) n u k).getD ((n:Int)-1-k).toNat 0==(m:Int))=false:=h6
     rw[hti,hcell hkn] at h6'
     exact beq_eq_false_iff_ne.1 h6' (by omega)
   have hlt4:u / (m+1)^k % (m+1)<m+1:=Nat.mod_lt _ hb0
   have hc0:=hcell hkn
   have huv:(fH (m+1) n v++rW (m+1) n v u).length<=4*531441:=by rw[List.length_append,FW]; omega
   have hinc:=IQ hb0 hkn h3 hvk
   have hset:(rP (m+1) n u k).set (n-1-k) (((u / (m+1)^k % (m+1):Nat):Int)+1)=eH (m+1) n (u+1):=by
    rw[<- hinc,nX hkn,RH (by rw[dU]; omega)]
   conv=>whnf
   repeat(refine VC.mk (by first|(simp only[okI,hti,hc0]; omega)|(simp only[Rw.rng,hbl]; omega)) ?_; conv=>whnf)
   rw[hti,hc0,hset]
   refine ah.JM (r:=.ints (eH (m+1) n (u+1))) (S.wV (eH (m+1) n (u+1)) false (by rw[dU]; omega) (by rw[dU]; omega)) (And.intro (IC trivial rfl) trivial) (I5 _) ?_
   conv=>whnf
   refine .mk (by first|(show((fH (m+1) n v++rW (m+1) n v u).length+(0+1))*32<=140737488355328/\(fH (m+1) n v++rW (m+1) n v u).length+(0+1)<=1152921504606846976; omega)|(simp only[mW,lS,Rw.len,List.length_cons,List.length_nil,dU]; omega)) ?_
   conv=>whnf
   refine⟨[(0,some (.box 27 11 (.dat (.dJ p)))),(28,some (nG ((fH (m+1) n v++rW (m+1) n v u)++[⟨(v:Int),eH (m+1) n (u+1)⟩]))),(2,some (jR (eH (m+1) n (u+1))))],u+1,[0,28,2],⟨fun i=>i=25,bn (Z:=fun i=>i=25) (i:=0) rfl (by decide),F5 (Z:=fun i=>i=25) (i:=28) (j:=25) rfl (by decide) rfl rfl,bn (Z:=fun i=>i=25) (i:=2) rfl (by decide),trivial⟩,Qg hb0 hkn hu h3 hvk,by omega,⟨⟨_,rfl,.eq rfl⟩,⟨_,rfl,.eq rfl⟩,trivial⟩,⟨⟨_,rfl,.eq rfl⟩,⟨_,rfl,.eq rfl⟩,⟨_,rfl,.eq rfl⟩,⟨_,rfl,.eq rfl⟩,⟨_,rfl,.eq rfl⟩,trivial⟩,okF rfl nofun rfl rfl rfl ⟨rfl,rfl⟩ rfl,okF rfl nofun rfl rfl rfl ⟨rfl,rfl⟩ ?_,okF rfl nofun rfl rfl rfl ⟨rfl,rfl⟩ rfl,trivial⟩
   rw[IU,<- List.append_assoc]
 ·have hv':v=vals:=by
   have: ¬ (v:Int)<max 1 (p.values.length:Int):=of_decide_eq_false h3
   omega
  rw[hv']
  conv=>whnf
  exact au.abb rfl
set_option maxHeartbeats 2000000 in
theorem S.RI(z:Nat)(p:aW)(n vals m:Nat)(_hp:dD p)(hn:p.states.length=n)(hn0:0<n)(zH:n<=6)(hvs:max 1 p.values.length=vals)(mY:vals<=3)(hm8:m<=8) :
  aK Tryz.prog 52 (V.aT [.dat (.dJ p),.int m]) (Hz.aj []) z (fun t hp=>t= .own z/\hp=Hz.aj [(z,some (nG (fH (m+1) n vals)))]):=by
 have hb0:0<m+1:=by omega
 have h46:(m+1)^n<=531441:=oU (by omega) zH
 refine oV.of (nx:=0) (h0:=[]) Bd.dY (by simp) ⟨_,_,rfl,rfl⟩ rfl rfl ?_
 conv=>whnf
 refine aP.nil 5 55 3 (by rfl) rfl rfl rfl ?_
 refine aP.objs 2 [1,2,12] (fun v:Nat=>[(13,.int v),(5,.own 1)]) (fun v=>[(0,.box 27 11 (.dat (.dJ p))),(1,nG (fH (m+1) n v))]) (fun v=>v<=vals) (fun v=>vals-v) 0 [0,8] rfl (by decide) (fun _=>rfl) (Nat.zero_le _) ?_ ?_ ?_
 ·exact⟨⟨_,rfl,.eq rfl⟩,⟨_,rfl,.eq rfl⟩,trivial⟩
 ·exact⟨⟨rfl,nofun,rfl,rfl,rfl,_,rfl,rfl,rfl,bg.of_eq rfl⟩,⟨rfl,nofun,rfl,rfl,rfl,_,rfl,rfl,rfl,bg.of_eq rfl⟩,trivial⟩
 conv=>whnf
 refine⟨⟨⟨_,rfl,.eq rfl⟩,⟨_,rfl,.eq rfl⟩,⟨_,rfl,.eq rfl⟩,trivial⟩,rfl,?_⟩
 rintro v hv
 have hrl:(fH (m+1) n v).length=v*((m+1)^n-1):=oN
 have hr2:v*((m+1)^n-1)<=3*531441:=Nat.mul_le_mul (by omega) (by omega)
 conv=>whnf
 refine⟨fun h3=>?_,fun h3=>?_⟩
 ·have hv':v<vals:=by
   have:(v:Int)<max 1 (p.values.length:Int):=of_decide_eq_true h3
   omega
  conv=>whnf
  have hm:=yg (n:=p.states.length) (by omega)
  rw[hm]
  conv=>whnf
  refine .mk (by omega) ?_
  conv=>whnf
  refine aP.LH 3 [1,2,6,12,13] (fun u:Nat=>[(5,.own 1),(7,.own 2)]) (fun u=>[(0,.box 27 11 (.dat (.dJ p))),(1,nG (fH (m+1) n v++rW (m+1) n v u)),(2,jR (eH (m+1) n u))]) (fun u=>u<(m+1)^n) (fun u=>(m+1)^n-u) 0 [0,1,8] [(0,some (.box 27 11 (.dat (.dJ p)))),(1,some (nG (fH (m+1) n v))),(8,some (jR (List.replicate p.states.length 0)))] rfl (by decide) (fun _=>rfl) (Nat.pow_pos hb0) ?_ ?_ ?_ ?_
  ·exact⟨⟨_,rfl,.eq rfl⟩,⟨_,rfl,.eq rfl⟩,trivial⟩
  ·exact⟨fun _=>False,bn (Z:=fun _=>False) rfl (fun q=>q),bn (Z:=fun _=>False) rfl (fun q=>q),bn (Z:=fun _=>False) rfl (fun q=>q),trivial⟩
  ·exact⟨okF rfl nofun rfl rfl rfl ⟨rfl,rfl⟩ rfl,okF rfl nofun rfl rfl rfl ⟨rfl,rfl⟩ (by simp[rW]),okF rfl nofun rfl rfl rfl ⟨rfl,rfl⟩ (by rw[Dw hb0,hn]),trivial⟩
  conv=>whnf
  refine⟨⟨⟨_,rfl,.eq rfl⟩,⟨_,rfl,.eq rfl⟩,⟨_,rfl,.eq rfl⟩,⟨_,rfl,.eq rfl⟩,⟨_,rfl,.eq rfl⟩,trivial⟩,rfl,?_⟩
  rintro u hu
  have hdl:(eH (m+1) n u).length=n:=dU
  conv=>whnf
  refine .mk (by first|(simp only[okI,dU]; omega)|omega) ?_
  conv=>whnf
  refine aP.objs 3 [1,2,6,12,13] (fun k:Nat=>[(8,.int ((n:Int)-1-k)),(5,.own 1),(7,.own 2)]) (fun k=>[(0,.box 27 11 (.dat (.dJ p))),(1,nG (fH (m+1) n v++rW (m+1) n v u)),(2,jR (rP (m+1) n u k))]) (fun k=>k<=n/\u+1=(u / (m+1)^k+1)*(m+1)^k) (fun k=>n-k) 0 [0,1,2] rfl (by decide) (fun _=>rfl) ⟨Nat.zero_le _,by simp⟩ ?_ ?_ ?_
  ·refine⟨⟨_,rfl,.eq ?_⟩,⟨_,rfl,.eq rfl⟩,⟨_,rfl,.eq rfl⟩,trivial⟩
   show T.int ((n:Int)-1-((0:Nat):Int))=T.int (((eH (m+1) n u).length:Int)-1)
   rw[dU]; exact congrArg T.int (by omega)
  ·refine⟨⟨rfl,nofun,rfl,rfl,rfl,_,rfl,rfl,rfl,bg.of_eq rfl⟩,⟨rfl,nofun,rfl,rfl,rfl,_,rfl,rfl,rfl,bg.of_eq rfl⟩,⟨rfl,nofun,rfl,rfl,rfl,_,rfl,rfl,rfl,bg.of_eq ?_⟩,trivial⟩
   rw[FT]
  conv=>whnf
  refine⟨⟨⟨_,rfl,.eq rfl⟩,⟨_,rfl,.eq rfl⟩,⟨_,rfl,.eq rfl⟩,⟨_,rfl,.eq rfl⟩,⟨_,rfl,.eq rfl⟩,trivial⟩,rfl,?_⟩
  rintro k ⟨hk,hvk⟩
  have hbl:=IL (b:=m+1) (v:=u) hk
  have hcell:k<n->(rP (m+1) n u k).getD (n-1-k) 0=((u / (m+1)^k % (m+1):Nat):Int):=fun hkn=>by
   rw[nX hkn]; exact UZ (by rw[dU]; omega)
  have hti:((n:Int)-1-k).toNat=n-1-k:=by omega
  conv=>whnf
  repeat(refine VC.mk (by first|exact id|exact fun h=>⟨h,h⟩|(intro h; (repeat' apply And.intro)<;>first|exact h|omega|(simp only[Rw.lT]; omega)|(simp only[Rw.rng]; omega))|(simp only[Rw.rng] at *; first|omega|(simp_all; done)|(simp_all; omega))) ?_; conv=>whnf)
  refine⟨fun h6=>?_,fun h6=>?_⟩
  ·rw[Bool.and_eq_true] at h6
   have hkn:k<n:=by have:=of_decide_eq_true h6.1; omega
   have h3:u / (m+1)^k % (m+1)+1=m+1:=by
    have:=beq_iff_eq.1 h6.2
    rw[hti,hcell hkn] at this; omega
   conv=>whnf
   repeat(refine VC.mk (by first|(simp only[okI]; omega)|(simp only[Rw.rng,hbl]; omega)) ?_; conv=>whnf)
   refine⟨k+1,[0,1,2],⟨by omega,FV hb0 h3 hvk⟩,by omega,⟨⟨_,rfl,.eq ?_⟩,⟨_,rfl,.eq rfl⟩,⟨_,rfl,.eq rfl⟩,trivial⟩,⟨⟨_,rfl,.eq rfl⟩,⟨_,rfl,.eq rfl⟩,⟨_,rfl,.eq rfl⟩,⟨_,rfl,.eq rfl⟩,⟨_,rfl,.eq rfl⟩,trivial⟩,⟨rfl,nofun,rfl,rfl,rfl,_,rfl,rfl,rfl,bg.of_eq rfl⟩,⟨rfl,nofun,rfl,rfl,rfl,_,rfl,rfl,rfl,bg.of_eq rfl⟩,⟨rfl,nofun,rfl,rfl,rfl,_,rfl,rfl,rfl,bg.of_eq ?_⟩,trivial⟩
   ·show T.int ((n:Int)-1-((k+1:Nat):Int))=T.int ((n:Int)-1-(k:Int)-1)
    exact congrArg T.int (by omega)
   ·rw[hti,FU hkn,nX hkn,RH (by rw[dU]; omega)]
  conv=>whnf
  refine⟨fun h7=>?_,fun h7=>?_⟩
  ·have hkn:k=n:=by have:=of_decide_eq_true h7; omega
   subst hkn
   have hlast:=Lu hu hvk
   have hu':u=(m+1)^k-1:=by omega
   rw[hu',<- y7]
   conv=>whnf
   refine .mk (by first|(simp only[okI]; omega)|omega) ?_
   conv=>whnf
   refine⟨v+1,[0,1],by omega,by omega,⟨⟨_,rfl,.eq rfl⟩,⟨_,rfl,.eq rfl⟩,trivial⟩,⟨⟨_,rfl,.eq rfl⟩,⟨_,rfl,.eq rfl⟩,⟨_,rfl,.eq rfl⟩,trivial⟩,⟨rfl,nofun,rfl,rfl,rfl,_,rfl,rfl,rfl,bg.of_eq rfl⟩,⟨rfl,nofun,rfl,rfl,rfl,_,rfl,rfl,rfl,bg.of_eq rfl⟩,trivial⟩
  ·have hkn:k<n:=by have:=of_decide_eq_false h7; omega
   have h3:u / (m+1)^k % (m+1)+1≠m+1:=by
    rw[Bool.and_eq_false_iff] at h6
    rcases h6 with h6|h6
    ·have:=of_decide_eq_false h6; omega
    ·intro e
     have h6':((rP (m+1) n u k).getD ((n:Int)-1-k).toNat 0==(m:Int))=false:=h6
     rw[hti,hcell hkn] at h6'
     exact beq_eq_false_iff_ne.1 h6' (by omega)
   have hlt4:u / (m+1)^k % (m+1)<m+1:=Nat.mod_lt _ hb0
   have hc0:=hcell hkn
   have huv:(fH (m+1) n v++rW (m+1) n v u).length<=4*531441:=by rw[List.length_append,FW]; omega
   have hinc:=IQ hb0 hkn h3 hvk
   have hset:(rP (m+1) n u k).set (n-1-k) (((u / (m+1)^k % (m+1):Nat):Int)+1)=eH (m+1) n (u+1):=by
    rw[<- hinc,nX hkn,RH (by rw[dU]; omega)]
   conv=>whnf
   repeat(refine VC.mk (by first|(simp only[okI,hti,hc0]; omega)|(simp only[Rw.rng,hbl]; omega)) ?_; conv=>whnf)
   rw[hti,hc0,hset]
   refine ah.JM (r:=.ints (eH (m+1) n (u+1))) (S.wV (eH (m+1) n (u+1)) false (by rw[dU]; omega) (by rw[dU]; omega)) (And.intro (IC trivial rfl) trivial) (I5 _) ?_
   conv=>whnf
   refine .mk (by first|(show((fH (m+1) n v++rW (m+1) n v u).length+(0+1))*32<=140737488355328/\(fH (m+1) n v++rW (m+1) n v u).length+(0+1)<=1152921504606846976; omega)|(simp only[mW,lS,Rw.len,List.length_cons,List.length_nil,dU]; omega)) ?_
   conv=>whnf
   refine⟨[(0,some (.box 27 11 (.dat (.dJ p)))),(28,some (nG ((fH (m+1) n v++rW (m+1) n v u)++[⟨(v:Int),eH (m+1) n (u+1)⟩]))),(2,some (jR (eH (m+1) n (u+1))))],u+1,[0,28,2],⟨fun i=>i=25,bn (Z:=fun i=>i=25) (i:=0) rfl (by decide),F5 (Z:=fun i=>i=25) (i:=28) (j:=25) rfl (by decide) rfl rfl,bn (Z:=fun i=>i=25) (i:=2) rfl (by decide),trivial⟩,Qg hb0 hkn hu h3 hvk,by omega,⟨⟨_,rfl,.eq rfl⟩,⟨_,rfl,.eq rfl⟩,trivial⟩,⟨⟨_,rfl,.eq rfl⟩,⟨_,rfl,.eq rfl⟩,⟨_,rfl,.eq rfl⟩,⟨_,rfl,.eq rfl⟩,⟨_,rfl,.eq rfl⟩,trivial⟩,okF rfl nofun rfl rfl rfl ⟨rfl,rfl⟩ rfl,okF rfl nofun rfl rfl rfl ⟨rfl,rfl⟩ ?_,okF rfl nofun rfl rfl rfl ⟨rfl,rfl⟩ rfl,trivial⟩
   rw[IU,<- List.append_assoc]
 ·have hv':v=vals:=by
   have: ¬ (v:Int)<max 1 (p.values.length:Int):=of_decide_eq_false h3
   omega
  rw[hv']
  conv=>whnf
  exact iC.one (c:=z) (j:=1) (o:=nG (fH (m+1) n vals)) (t:=.own z) rfl rfl rfl nofun (.inr rfl) rfl (.eq rfl) ⟨rfl,rfl⟩
theorem S.RJ(p:aW)(n vals m:Nat)(hp:dD p)(hn:p.states.length=n)(hn0:0<n)(zH:n<=6)(hvs:max 1 p.values.length=vals)(mY:vals<=3)(hm8:m<=8) :
  uy Tryz.prog 52 (V.aT [.dat (.dJ p),.int m]) (fun n=>.own n) (some ⟨55,3,(Rw.elems (fH (m+1) n vals)).aT⟩):=by
 refine⟨V.gV [.dat (.dJ p),.int m] rfl,fun _=>rfl,(fun ob h=>by cases h; exact Aq _),(fun ob h=>by cases h; exact fun e=>absurd e (by decide:(3:Nat)≠fC)),fun z=>(S.RI z p n vals m hp hn hn0 zH hvs mY hm8).mono ?_⟩
 rintro t hp ⟨rfl,rfl⟩
 refine⟨rfl,?_⟩
 rw[bF]; simp[mZ,OV.aF,V.aT]; rfl
abbrev rowB(l:List Bool):OV:=.row 4 0 (.bools l) []
abbrev yw(l:List Clause)(f:Bool)(m:Nat):OV:=.box 70 4 (.agg [.row 4 f (.clauses l),.int (bJ l),.own m])
abbrev xW(es:List (Int×List Bool)):OV:=.map 68 es []
theorem S.jf(l:List Clause)(f:Bool)(hl:SmallK l):jL Tryz.prog 29 (V.aT [.row 4 f (.clauses l)]) (Hz.aj []) 0 1 (fun t hp=>t= .ptr 0 0 0/\hp=Hz.aj [(0,some (yw l f 1)),(1,some (xW []))]):=by
 refine Zy.of Bd.jf (by simp) rfl rfl rfl ?_
 conv=>whnf
 refine ah.pure (S.lU l f hl) rfl ?_
 conv=>whnf
 exact⟨⟨_,_,_,rfl,by decide,rfl,rfl,rfl⟩⟩
theorem LK{h:Hz}{j:Nat}{Z:Nat->Prop}{l:List Bool}(hz:Z j)(q:h.get j=some (rowB l)):T.sub Z h.aj (V.row 0 false (.bools l)).aG (V.own j).aG:=by
 show T.sub Z h.aj (.sl 0 false (l.map T.bool)) (.own j)
 simp only[T.sub]
 refine⟨trivial,hz,?_,by decide,4,?_⟩
 ·rw[gU]; intro t ht; obtain⟨x,_,rfl⟩:=List.mem_map.1 ht; rfl
 ·have:=aH q; simpa [OV.aF,Rw.aT,V.aT] using this
theorem Xy{Z:Nat->Prop}{h:Hz}{i j ty:Nat}{es:List (Int×List Bool)}{k:Int}{row:List Bool}(q:h.get i=some (.map ty es [(k,.own j)]))(hi: ¬ Z i)(hz:Z j)(qj:h.get j=some (rowB row)) :
  ∃ o',h.get i=some o'/\ ¬ Z i/\o'.aF.ty=(OV.map ty (es++[(k,row)]) []).aF.ty/\o'.aF.k=(OV.map ty (es++[(k,row)]) []).aF.k/\T.dw Z h.aj (OV.map ty (es++[(k,row)]) []).aF.l o'.aF.l/\(OV.map ty (es++[(k,row)]) []).aF.l.map T.kd=o'.aF.l.map T.kd/\(OV.map ty (es++[(k,row)]) []).aF.l.map fK=o'.aF.l.map fK:=by
 have e1:(OV.map ty (es++[(k,row)]) []).aF.l=es.map yx++[yx (k,row)]:=by simp[OV.aF]
 have e2:(OV.map ty es [(k,.own j)]).aF.l=es.map yx++[zD (k,.own j)]:=by simp[OV.aF]
 refine⟨_,q,hi,rfl,rfl,?_,?_,?_⟩
 ·rw[e1,e2]
  refine yu (bY _) ⟨?_,trivial⟩
  have:=LK hz qj
  simp only[V.aG] at this
  show T.sub Z h.aj (.gQ [.int k,.sl 0 false (row.map T.bool)]) (.gQ [.int k,.own j])
  simp only[T.sub,T.dw]
  simp only[T.sub] at this
  exact⟨trivial,this,trivial⟩
 ·rw[e1,e2,List.map_append,List.map_append]; rfl
 ·rw[e1,e2,List.map_append,List.map_append]; rfl
def BJ(r:Int)(c:List Int)(i:Nat):List Int:=uY r (c.take i)++List.replicate (c.length-i) 0
theorem I7{r:Int}{c:List Int}{i:Nat}(hi:i<c.length):(BJ r c i).set i (min (c.getD i 0) r)=BJ r c (i+1):=by
 have e:c.length-i=(c.length-(i+1))+1:=by omega
 unfold BJ
 rw[e,List.replicate_succ,RH (by simp[uY]; omega),List.take_add_one,uY,uY,List.map_append,List.append_assoc]
 simp[hi]
theorem LM{r:Int}{c:List Int}{i:Nat}(hi:i<=c.length):(BJ r c i).length=c.length:=by
 simp[BJ,uY]; omega
theorem U0{r:Int}{c:List Int}:BJ r c c.length=uY r c:=by simp[BJ]
theorem U1{r:Int}{c:List Int}{i:Nat}(hi:i<c.length):(BJ r c (i+1)).getD i 0=min (c.getD i 0) r:=by
 rw[<- I7 hi]
 have:i<(BJ r c i).length:=by rw[LM (by omega)]; exact hi
 simp[List.getD_eq_getElem?_getD,this]
theorem RN{r v:Int}{c:List Int}{i:Nat}(hi:i<c.length):yt r v (c.take (i+1))=yt r v (c.take i)*(r+1)+min (c.getD i 0) r:=by
 unfold yt
 rw[List.take_add_one,List.foldl_append]; simp[hi]
theorem Zz{r v:Int}{c:List Int}(hr:0<=r/\r<=3)(hv:0<=v/\v<=1048576)(hc: ∀ x∈c,0<=x)(hl:c.length<=6):0<=yt r v c/\yt r v c<=2^40:=by
 have: ∀ (c:List Int) (v:Int) (n:Nat),c.length<=n->(∀ x∈c,0<=x)->0<=v->0<=yt r v c/\yt r v c<=(v+1)*4^n:=by
  intro c
  induction c with
  |nil =>
   intro v n _ _ hv
   refine⟨hv,?_⟩
   have:(0:Int)<4^n:=Int.pow_pos (by decide)
   have h2:(v+1)*1<=(v+1)*4^n:=Int.mul_le_mul_of_nonneg_left this (by omega)
   show v<=_; omega
  |cons x c ih =>
   intro v n hn hc hv
   obtain⟨m,rfl⟩: ∃ m,n=m+1:=⟨n-1,by simp only[List.length_cons] at hn; omega⟩
   have hx:=hc x (by simp)
   have h1:0<=v*(r+1):=Int.mul_nonneg hv (by omega)
   have h2:v*(r+1)<=v*4:=Int.mul_le_mul_of_nonneg_left (by omega) hv
   obtain⟨g1,g2⟩:=ih (v*(r+1)+min x r) m (by simp only[List.length_cons] at hn; omega) (fun y hy=>hc y (List.mem_cons_of_mem _ hy)) (by omega)
   refine⟨g1,Int.le_trans g2 ?_⟩
   have e:(v+1)*4^(m+1)=((v+1)*4)*4^m:=by rw[Int.pow_succ,Int.mul_assoc,Int.mul_comm (4^m) 4]
   rw[e]
   refine Int.mul_le_mul_of_nonneg_right (by omega) (Int.pow_nonneg (by decide))
 obtain⟨h1,h2⟩:=this c v 6 hl hc hv.1
 refine⟨h1,Int.le_trans h2 ?_⟩
 have:(v+1)*4^6<=1048577*4^6:=Int.mul_le_mul_of_nonneg_right (by omega) (by decide)
 exact Int.le_trans this (by decide)
abbrev hT(l:List Clause)(f:Bool)(es:List (Int×List Bool)):Hz:=[(0,some (yw l f 1)),(1,some (xW es))]
theorem iC.zT{l:List Clause}{f:Bool}{es es':List (Int×List Bool)}{h:Hz}{n:Nat}{v u:V}{post:T->Hp->Prop}(Z:Nat->Prop)(F:Dj Z h (hT l f es'))(hu:u.free=true)(hv:T.sub Z h.aj u.aG v.aG)(hp:post u.aG (hT l f es').aj):iC (hT l f es) n post v h:=by
 refine iC.NY (h2:=hT l f es') (u:=u) Z F ?_ hu hv hp
 intro i o ho
 have hG:=ku (show qU 2 (hT l f es')=true from rfl) i o.aF (aH ho)
 refine⟨?_,T.ay (fun i hi=>?_) _ hG.2.1,hG.2.2⟩
 ·match i,hG.1 with
  |0,_=>rfl
  |1,_=>rfl
  |k+2,hk=>exact absurd hk (by omega)
 ·match i,hi with
  |0,_=>rfl
  |1,_=>rfl
  |k+2,hk=>exact absurd hk (by omega)
structure Ia(l:List Clause)(e:Elem):Prop where
 cl: ∃ vals,∀ k∈l,FM e.counts.length vals k
 ok:Ag e.counts
 len:0<e.counts.length/\e.counts.length<=6
 val:0<=e.value/\e.value<=1048576
theorem Ia.three{l:List Clause}{e:Elem}(h:Ia l e):bJ l<=3:=by
 obtain⟨vals,hc⟩:=h.cl
 exact qh fun k hk=>(hc k hk).two
theorem Ia.low{l:List Clause}{e:Elem}(h:Ia l e){i:Nat}(hi:i<l.length):Rx (l.getD i default) (zF (bJ l) e):=by
 obtain⟨vals,hc⟩:=h.cl
 have hr:=qL (l:=l)
 refine⟨⟨vals,?_⟩,fun x hx=>?_,?_⟩
 ·have:(zF (bJ l) e).counts.length=e.counts.length:=by simp[zF,uY]
  rw[this]; exact hc _ (getM hi)
 ·obtain⟨y,hy,rfl⟩:=List.mem_map.1 hx
  have:=h.ok y hy; omega
 ·simp[zF,uY]; exact h.len.2
theorem Ia.row{l:List Clause}{e:Elem}(h:Ia l e):fP l (zF (bJ l) e)=fP l e:=by
 obtain⟨vals,hc⟩:=h.cl
 exact Xu hc ⟨rfl,fun x hx=>(h.ok x hx).1⟩
theorem RP{l:List Clause}{e:Elem}{i:Nat}(hi:i<l.length):fP (l.take (i+1)) e=fP (l.take i) e++[holdsB (l.getD i default) e]:=by
 unfold fP
 rw[List.take_add_one,List.map_append]; simp[hi]
set_option maxHeartbeats 1000000 in
theorem S.RQ(l:List Clause)(f:Bool)(es:List (Int×List Bool))(e:Elem)(hl:SmallK l)(ht:Ia l e)(hg:iR e.counts.length l es):aK Tryz.prog 53 (V.aT [.ptr 0 0 0,.dat (.elem e)]) (Hz.aj (hT l f es)) 2 (fun t hp=> ∃ es',iR e.counts.length l es'/\t=(V.row 0 false (.bools (fP l e))).aG/\hp=Hz.aj (hT l f es')):=by
 have hr0:=qL (l:=l)
 have hr3:=ht.three
 obtain⟨hn0,zH⟩:=ht.len
 obtain⟨hv0,hv1⟩:=ht.val
 refine oV.of (nx:=2) (h0:=hT l f es) Bd.lW (by simp) ⟨_,_,es,hg,rfl,rfl⟩ rfl rfl ?_
 conv=>whnf
 have hm:=yg (n:=e.counts.length) hn0
 rw[hm]
 conv=>whnf
 refine .mk (by omega) ?_
 conv=>whnf
 refine aP.Eo 100 [0,3,5,23,24] (fun i:Nat=>[(25,.int i),(6,.int (yt (bJ l) e.value (e.counts.take i)))]) (fun i=>[(0,yw l f 1),(1,xW es),(2,.box 55 3 (.dat (.elem e))),(9,jR (BJ (bJ l) e.counts i)),(11,.box 55 3 (.agg [.int e.value,.own 9]))]) (fun i=>i<=e.counts.length) (fun i=>e.counts.length-i) 0 [0,1,2,9,11] rfl (by decide) (fun _=>rfl) (Nat.zero_le _) ?_ ?_ ?_
 ·exact⟨⟨_,rfl,.eq rfl⟩,⟨_,rfl,.eq rfl⟩,trivial⟩
 ·exact⟨⟨rfl,(fun _=>rfl),rfl,rfl,_,rfl,rfl,rfl,bg.of_eq rfl⟩,okF rfl (fun _=>rfl) rfl rfl rfl ⟨rfl,rfl⟩ rfl,okF rfl nofun rfl rfl rfl ⟨rfl,rfl⟩ rfl,okF rfl nofun rfl rfl rfl ⟨rfl,rfl⟩ (by simp[BJ,uY]),⟨rfl,nofun,rfl,rfl,_,rfl,rfl,rfl,bg.of_eq rfl⟩,trivial⟩
 conv=>whnf
 refine⟨⟨⟨_,rfl,.eq rfl⟩,⟨_,rfl,.eq rfl⟩,⟨_,rfl,.eq rfl⟩,⟨_,rfl,.eq rfl⟩,⟨_,rfl,.eq rfl⟩,trivial⟩,rfl,?_⟩
 rintro i hi
 have hll:=LM (r:=bJ l) hi
 have hkb:=Zz (r:=bJ l) (c:=e.counts.take i) ⟨hr0,hr3⟩ ht.val (fun x hx=>(ht.ok x (List.mem_of_mem_take hx)).1) (by rw[List.length_take]; omega)
 conv=>whnf
 refine⟨fun h3=>?_,fun h3=>?_⟩
 ·have hi':i<e.counts.length:=by simpa using h3
  have hset:=I7 (r:=bJ l) hi'
  have hget:=U1 (r:=bJ l) hi'
  have hkn:=RN (r:=bJ l) (v:=e.value) hi'
  have hge:=ht.ok.get hi'
  have hm1:0<=yt (bJ l) e.value (e.counts.take i)*(bJ l+1):=Int.mul_nonneg hkb.1 (by omega)
  have hm2:yt (bJ l) e.value (e.counts.take i)*(bJ l+1)<=yt (bJ l) e.value (e.counts.take i)*4:=Int.mul_le_mul_of_nonneg_left (by omega) hkb.1
  conv=>whnf
  repeat(refine VC.mk (by first|(first|(simp only[Rw.rng,Int.toNat_natCast,List.length_set,hll]; omega)|(simp only[okI,Int.toNat_natCast]; omega))|(simp only[okI] at *; first|omega|(simp_all; done)|(simp_all; omega))) ?_; conv=>whnf)
  refine⟨i+1,[0,1,2,9,11],by omega,by omega,⟨⟨_,rfl,.eq rfl⟩,⟨_,rfl,.eq ?_⟩,trivial⟩,⟨⟨_,rfl,.eq rfl⟩,⟨_,rfl,.eq rfl⟩,⟨_,rfl,.eq rfl⟩,⟨_,rfl,.eq rfl⟩,⟨_,rfl,.eq rfl⟩,trivial⟩,⟨rfl,(fun _=>rfl),rfl,rfl,_,rfl,rfl,rfl,bg.of_eq rfl⟩,okF rfl (fun _=>rfl) rfl rfl rfl ⟨rfl,rfl⟩ rfl,okF rfl nofun rfl rfl rfl ⟨rfl,rfl⟩ rfl,okF rfl nofun rfl rfl rfl ⟨rfl,rfl⟩ ?_,⟨rfl,nofun,rfl,rfl,_,rfl,rfl,rfl,bg.of_eq rfl⟩,trivial⟩
  ·show T.int _=T.int (yt (bJ l) e.value (e.counts.take i)*(bJ l+1)+((BJ (bJ l) e.counts i).set i (min (e.counts.getD i 0) (bJ l))).getD i 0)
   rw[hset,hget,hkn]
  ·show(jR (BJ (bJ l) e.counts (i+1))).aF.l=(jR ((BJ (bJ l) e.counts i).set i (min (e.counts.getD i 0) (bJ l)))).aF.l
   rw[hset]
 have hi':i=e.counts.length:=by have:e.counts.length<=i:=(by simpa using h3); omega
 subst hi'
 rw[U0,List.take_length]
 have hkey:yt (bJ l) e.value e.counts=keyE (bJ l) e:=rfl
 rw[hkey]
 have hel:Ri e.counts.length e:=⟨rfl,fun x hx=>(ht.ok x hx).1⟩
 conv=>whnf
 refine ZA.mk (fun row hrow=>?_) (fun hnone=>?_)
 ·obtain rfl:=hg e hel row hrow
  conv=>whnf
  refine Fork.mk (fun q=>absurd (q.symm.trans ((rfl:false=false))).symm Bool.false_ne_true) (fun _=>?_)
  conv=>whnf
  conv=>whnf
  exact iC.zT (es':=es) (u:=.row 0 false (.bools (fP l e))) (fun _=>False) ⟨bn (Z:=fun _=>False) rfl (fun q=>q),bn (Z:=fun _=>False) rfl (fun q=>q),trivial⟩ rfl (aC _) ⟨es,hg,rfl,rfl⟩
 conv=>whnf
 refine Fork.mk (fun _=>?_) (fun q=>absurd (q.symm.trans ((rfl:true=true))) Bool.false_ne_true)
 conv=>whnf
 conv=>whnf
 have hk1:=hl.len
 refine aP.nil 9 4 0 (by rfl) rfl rfl rfl ?_
 refine aP.Eo 200 [0,5,6,68,69] (fun i:Nat=>[(70,.int i),(9,.own 12)]) (fun i=>[(0,yw l f 1),(1,xW es),(2,.box 55 3 (.dat (.elem e))),(9,jR (uY (bJ l) e.counts)),(11,.box 55 3 (.agg [.int e.value,.own 9])),(12,rowB (fP (l.take i) (zF (bJ l) e)))]) (fun i=>i<=l.length) (fun i=>l.length-i) 0 [0,1,2,9,11,120] rfl (by decide) (fun _=>rfl) (Nat.zero_le _) ?_ ?_ ?_
 ·exact⟨⟨_,rfl,.eq rfl⟩,⟨_,rfl,.eq rfl⟩,trivial⟩
 ·exact⟨⟨rfl,(fun _=>rfl),rfl,rfl,_,rfl,rfl,rfl,bg.of_eq rfl⟩,okF rfl (fun _=>rfl) rfl rfl rfl ⟨rfl,rfl⟩ rfl,okF rfl nofun rfl rfl rfl ⟨rfl,rfl⟩ rfl,okF rfl nofun rfl rfl rfl ⟨rfl,rfl⟩ rfl,⟨rfl,nofun,rfl,rfl,_,rfl,rfl,rfl,bg.of_eq rfl⟩,okF rfl nofun rfl rfl rfl ⟨rfl,rfl⟩ rfl,trivial⟩
 conv=>whnf
 refine⟨⟨⟨_,rfl,.eq rfl⟩,⟨_,rfl,.eq rfl⟩,⟨_,rfl,.eq rfl⟩,⟨_,rfl,.eq rfl⟩,⟨_,rfl,.eq rfl⟩,trivial⟩,rfl,?_⟩
 rintro i hi
 have hrl:(fP (l.take i) (zF (bJ l) e)).length=i:=by rw[qM,List.length_take]; omega
 conv=>whnf
 refine⟨fun h4=>?_,fun h4=>?_⟩
 ·have hi2:i<l.length:=by simpa using h4
  have hfit:=ht.low hi2
  have hrn:=RP (e:=zF (bJ l) e) hi2
  have hv:=(hl.cl i).values
  conv=>whnf
  refine .mk (by first|(simp only[Rw.rng]; omega)|(simp only[okI,Int.toNat_natCast]; omega)) ?_
  conv=>whnf
  refine ah.lend (S.lq (l.getD i default) (zF (bJ l) e) hfit (by simp[zF,uY]; exact hn0) hv) ⟨aC _,Zw trivial rfl,trivial⟩ rfl rfl ?_
  conv=>whnf
  repeat(refine VC.mk (by first|(first|(simp only[mW,lS,Rw.len,List.length_cons,List.length_nil,hrl]; omega)|(show((fP (l.take i) (zF (bJ l) e)).length+(0+1))*1<=140737488355328/\(fP (l.take i) (zF (bJ l) e)).length+(0+1)<=1152921504606846976; omega))|(simp only[okI] at *; first|omega|(simp_all; done)|(simp_all; omega))) ?_; conv=>whnf)
  refine⟨i+1,[0,1,2,9,11,210],by omega,by omega,⟨⟨_,rfl,.eq rfl⟩,⟨_,rfl,.eq rfl⟩,trivial⟩,⟨⟨_,rfl,.eq rfl⟩,⟨_,rfl,.eq rfl⟩,⟨_,rfl,.eq rfl⟩,⟨_,rfl,.eq rfl⟩,⟨_,rfl,.eq rfl⟩,trivial⟩,⟨rfl,(fun _=>rfl),rfl,rfl,_,rfl,rfl,rfl,bg.of_eq rfl⟩,okF rfl (fun _=>rfl) rfl rfl rfl ⟨rfl,rfl⟩ rfl,okF rfl nofun rfl rfl rfl ⟨rfl,rfl⟩ rfl,okF rfl nofun rfl rfl rfl ⟨rfl,rfl⟩ rfl,⟨rfl,nofun,rfl,rfl,_,rfl,rfl,rfl,bg.of_eq rfl⟩,okF rfl nofun rfl rfl rfl ⟨rfl,rfl⟩ ?_,trivial⟩
  rw[hrn]
 ·have hi3:i=l.length:=by have:l.length<=i:=(by simpa using h4); omega
  subst hi3
  rw[List.take_length,ht.row]
  conv=>whnf
  refine .mk (by omega) ?_
  conv=>whnf
  exact iC.zT (es':=es++[(keyE (bJ l) e,fP l e)]) (u:=.row 0 false (.bools (fP l e))) (fun i=>i=12) ⟨bn (Z:=fun i=>i=12) rfl (by decide),Xy (Z:=fun i=>i=12) (j:=12) rfl (by decide) rfl rfl,trivial⟩ rfl (LK rfl rfl) ⟨_,ht.cl.elim fun _ hc=>hg.add hc hel,rfl,rfl⟩
abbrev RS(r:Rule)(e:Elem):List V:=Dat.cells (.rule r)++Dat.cells (.elem e)
def BK(r:Rule)(e:Elem):Bool:=e.counts.getD r.fr.toNat 0==0||(decide (0<=r.read)&&r.read !=e.value)
theorem uF{r:Rule}{e:Elem}:(decide (0<=r.read)&&e.value !=r.read||e.counts.getD r.fr.toNat 0==0)=BK r e:=by
 unfold BK
 rw[Bool.or_comm]
 congr 2
 rw[bne,bne,Bool.beq_comm]
theorem S.F8(r:Rule)(e:Elem)(hp:wP e.counts.length r)(h:BK r e=true):ak Tryz.prog 121 [.agg (RS r e)] (.gQ [.row 0 true (.ints []),.bool false]):=by
 obtain⟨f1,f2⟩:=hp.src
 refine ak.of Bd.iO (by simp) rfl rfl ?_
 conv=>whnf
 repeat(refine VC.mk (by first|exact id|exact fun h=>⟨h,h⟩|(intro h; rw[h]; rfl)|(intro h; simp_all; done)|(simp only[Rw.rng] at *; omega)) ?_; conv=>whnf)
 refine Fork.mk (fun _=>?_) (fun q=>absurd (q.symm.trans (h)) Bool.false_ne_true)
 conv=>whnf
 exact au.eqv rfl
theorem S.OC(r:Rule)(e:Elem)(hp:wP e.counts.length r)(hc:Ag e.counts)(hl:e.counts.length<=6)(h:BK r e=false)(n:Nat):aK Tryz.prog 121 (V.aT [.agg (RS r e)]) (Hz.aj []) n (fun t hp=>t= .gQ [.own n,.bool true]/\hp=Hz.aj [(n,some (jR (bG e.counts r.fr)))]):=by
 obtain⟨f1,f2⟩:=hp.src
 have hfr:=hc.get (i:=r.fr.toNat) (by omega)
 refine oV.of (nx:=0) (h0:=[]) Bd.iO (by simp) ⟨_,_,rfl,rfl⟩ rfl rfl ?_
 conv=>whnf
 repeat(refine VC.mk (by first|exact id|exact fun h=>⟨h,h⟩|(intro h; rw[h]; rfl)|(intro h; simp_all; done)|(simp only[Rw.rng] at *; omega)) ?_; conv=>whnf)
 refine Fork.mk (fun q=>absurd (q.symm.trans (h)).symm Bool.false_ne_true) (fun _=>?_)
 conv=>whnf
 conv=>whnf
 refine ah.mkRow (r:=.ints e.counts) (S.wV e.counts false (by omega) (by omega)) ?_
 conv=>whnf
 repeat(refine VC.mk (by first|(simp only[Rw.rng]; omega)|(simp only[okI]; omega)) ?_; conv=>whnf)
 exact iC.one (c:=n) (j:=30) (o:=jR (bG e.counts r.fr)) (t:=.gQ [.own n,.bool true]) rfl rfl rfl nofun (.inr rfl) ⟨rfl,trivial,trivial⟩ (.eq rfl) ⟨rfl,rfl⟩
theorem S.RU(r:Rule)(e:Elem)(hp:wP e.counts.length r)(hc:Ag e.counts)(hl:e.counts.length<=6)(h:BK r e=false):uy Tryz.prog 121 (V.aT [.agg (RS r e)]) (fun n=>.gQ [.own n,.bool true]) (some ⟨3,0,(Rw.ints (bG e.counts r.fr)).aT⟩):=by
 refine⟨V.gV [.agg (RS r e)] rfl,fun _=>⟨rfl,trivial,trivial⟩,(fun ob h=>by cases h; rw[gU]; intro t ht; obtain⟨x,_,rfl⟩:=List.mem_map.1 ht; rfl),(fun ob h=>by cases h; exact fun e=>absurd e (by decide:(0:Nat)≠fC)),fun n=>(S.OC r e hp hc hl h n).mono ?_⟩
 rintro t hp ⟨rfl,rfl⟩
 refine⟨rfl,?_⟩
 rw[bF]; simp[mZ,OV.aF,V.aT]; rfl
theorem ah.others{r:Rule}{e:Elem}{h:Hz}{n:Nat}{K:V->Hz->Prop}{KW:Nat->V->Hz->Prop}(hp:wP e.counts.length r)(hc:Ag e.counts)(hl:e.counts.length<=6)(hs:BK r e=false)(hK:K (.gQ [.own n,.bool true]) ((n,some (jR (bG e.counts r.fr)))::h)):ah Tryz.prog false none 121 [.agg (RS r e)] h n K KW :=
 ah.heap (uy.frame (S.RU r e hp hc hl hs) _ _) (by rintro t hp ⟨rfl,rfl⟩; exact⟨.gQ [.own n,.bool true],_,rfl,by rw[bF]; simp[mZ,OV.aF,V.aT],hK⟩)
def BL(r:Rule)(e:Elem):Int:=bif decide (r.write>=0) then r.write else e.value
theorem S.JO(r:Rule)(e:Elem)(c:List Int):aK Tryz.prog 122 (V.aT [.agg (RS r e),.own 0]) (Hz.aj [(0,some (jR c))]) 1 (fun t hp=>t= .agg [.int (BL r e),.own 0]/\hp=Hz.aj [(0,some (jR c))]):=by
 refine oV.of (nx:=1) (h0:=[(0,some (jR c))]) Bd.kS (by simp) ⟨_,_,rfl,rfl⟩ rfl rfl ?_
 conv=>whnf
 refine⟨fun h1=>?_,fun h1=>?_⟩
 ·conv=>whnf
  refine iC.one (c:=0) (j:=0) (o:=jR c) (t:=.agg [.int (BL r e),.own 0]) rfl rfl rfl (fun _=>rfl) (.inl rfl) ⟨trivial,rfl,trivial⟩ ?_ ⟨rfl,rfl⟩
  rw[BL,show decide (r.write>=0)=true from h1]; exact .eq rfl
 ·conv=>whnf
  refine iC.one (c:=0) (j:=0) (o:=jR c) (t:=.agg [.int (BL r e),.own 0]) rfl rfl rfl (fun _=>rfl) (.inl rfl) ⟨trivial,rfl,trivial⟩ ?_ ⟨rfl,rfl⟩
  rw[BL,show decide (r.write>=0)=false from h1]; exact .eq rfl
def zE:Elem:=⟨0,[]⟩
theorem au.noneE{h:Hz}:au (.gQ [.dat (.elem zE),.bool false]) (.gQ [.agg [.int 0,.row 0 true .nil],.bool false]) h:=⟨by
 show T.sub _ _ (.gQ [.agg [.int 0,.sl 0 false []],.bool false]) (.gQ [.agg [.int 0,.sl 0 true []],.bool false])
 simp[T.sub,T.dw]⟩
theorem au.U2{h:Hz}{j:Nat}{v:Int}{l:List Int}{b:Bool}(q:h.get j=some (jR l)):au (.gQ [.dat (.elem ⟨v,l⟩),.bool b]) (.gQ [.agg [.int v,.own j],.bool b]) h:=⟨by
 have:=IC (Z:=fun _=>True) trivial q
 show T.sub _ h.aj (.gQ [.agg [.int v,.sl 0 false (l.map T.int)],.bool b]) (.gQ [.agg [.int v,.own j],.bool b])
 replace this:T.sub (fun _=>True) h.aj (.sl 0 false (l.map T.int)) (.own j):=this
 simp only[T.sub] at this
 simp only[T.sub,T.dw]
 exact⟨⟨trivial,this,trivial⟩,trivial,trivial⟩⟩
theorem ah.result{r:Rule}{e:Elem}{c:List Int}{h:Hz}{i n:Nat}{K:V->Hz->Prop}{KW:Nat->V->Hz->Prop}(hi:h.get i=some (jR c))(hn:h.get n=none)(hK:K (.agg [.int (BL r e),.own i]) ((i,some (jR c))::h)):ah Tryz.prog false none 122 [.agg (RS r e),.own i] h n K KW:=by
 refine ah.F7 (ts:=[.agg (RS r e),.own 0]) (S.JO r e c) rfl rfl rfl rfl hi hn ?_
 rintro t hp ⟨rfl,rfl⟩
 exact .inl ⟨.agg [.int (BL r e),.own i],jR c,rfl,rfl,rfl,hK⟩
theorem S.OD(r:Rule)(e:Elem)(hp:wP e.counts.length r)(hc:Ag e.counts)(hl:e.counts.length<=6)(hk:r.kind=2): ∃ x,ak Tryz.prog 94 [.agg (RS r e)] (.gQ [.dat (.elem x),.bool (dH r e).isSome])/\ ∀ y,dH r e=some y->x=y:=by
 obtain⟨d1,d2⟩:=hp.dst
 obtain⟨p1,p2⟩:=hp.ab9
 obtain⟨q1,q2⟩:=hp.acd
 have hl1:(bG e.counts r.fr).length=e.counts.length:=by simp[bG]
 have hB:=hc.b.dec (by omega) r.fr
 have hB1:=hB.get (by omega) r.iQ.toNat
 have hB2:=hB.dec (by omega) r.iQ
 have hB3:=hB2.get (by omega) r.BA.toNat
 have hB4:=hB2.add (by omega) r.BA 1 (k:=1) ⟨by omega,by omega⟩
 have hB5:=hB4.get (by omega) r.to.toNat
 cases hs:BK r e with
 |true =>
  have hf:dH r e=none:=by rw[dH,uF,hs]; rfl
  refine⟨zE,?_,fun y hy=>by rw[hf] at hy; cases hy⟩
  rw[hf]
  refine ak.of Bd.gZ (by simp) rfl rfl ?_
  conv=>whnf
  refine ah.pure (S.F8 r e hp hs) rfl ?_
  conv=>whnf
  repeat(refine VC.mk (by first|exact id|(intro h; rw[h]; rfl)|(intro h; simp_all; done)) ?_; conv=>whnf)
  refine Fork.mk (fun _=>?_) (fun q=>absurd (q.symm.trans ((rfl:true=true))) Bool.false_ne_true)
  conv=>whnf
  exact au.noneE
 |false =>
  cases h6:(bG e.counts r.fr).getD r.iQ.toNat 0==0 with
  |true =>
   have hf:dH r e=none:=by rw[dH,uF,hs,hk]; simp only[cond_false]; rw[show((2:Int)==1)=false from rfl,show((2:Int)==2)=true from rfl,h6]; rfl
   refine⟨zE,?_,fun y hy=>by rw[hf] at hy; cases hy⟩
   rw[hf]
   refine ak.of Bd.gZ (by simp) rfl rfl ?_
   conv=>whnf
   refine ah.others hp hc hl hs ?_
   conv=>whnf
   repeat(refine VC.mk (by first|exact id|(intro h; rw[h]; rfl)|(intro h; (repeat' apply And.intro)<;>first|exact h|omega|(simp only[Rw.lT]; omega)|(simp only[Rw.rng]; omega))) ?_; conv=>whnf)
   refine Fork.mk (fun _=>?_) (fun q=>absurd (q.symm.trans (h6)) Bool.false_ne_true)
   conv=>whnf
   exact au.noneE
  |false =>
   have hf:dH r e=some ⟨BL r e,kN (kN (bG (bG e.counts r.fr) r.iQ) r.BA 1) r.to 1⟩:=by rw[dH,uF,hs,hk]; simp only[cond_false]; rw[show((2:Int)==1)=false from rfl,show((2:Int)==2)=true from rfl,h6]; rfl
   refine⟨_,?_,fun y hy=>by rw[hf] at hy; exact Option.some.inj hy⟩
   rw[hf]
   refine ak.of Bd.gZ (by simp) rfl rfl ?_
   conv=>whnf
   refine ah.others hp hc hl hs ?_
   conv=>whnf
   repeat(refine VC.mk (by first|exact id|(intro h; rw[h]; rfl)|(intro h; (repeat' apply And.intro)<;>first|exact h|omega|(simp only[Rw.lT]; omega)|(simp only[Rw.rng]; omega))) ?_; conv=>whnf)
   refine Fork.mk (fun q=>absurd (q.symm.trans (h6)).symm Bool.false_ne_true) (fun _=>?_)
   conv=>whnf
   repeat(refine VC.mk (by simp only[okI,Rw.rng] at *; omega) ?_; conv=>whnf)
   conv=>whnf
   repeat(refine VC.mk (by first|(simp only[Rw.rng,List.length_set,hl1]; omega)|(simp only[okI,bG,kN] at *; omega)) ?_; conv=>whnf)
   refine ah.result (c:=kN (kN (bG (bG e.counts r.fr) r.iQ) r.BA 1) r.to 1) rfl rfl ?_
   conv=>whnf
   exact au.U2 rfl
theorem abd{x:Int}(h:0<=x):decide (x>0)= !(x==0):=by
 by_cases e:x=0
 ·subst e; rfl
 ·rw[beq_eq_false_iff_ne.2 e,decide_eq_true (by omega)]; rfl
theorem S.LP(r:Rule)(e:Elem)(hr:uT r)(hp:wP e.counts.length r)(hc:Ag e.counts)(hl:e.counts.length<=6)(hk:r.kind=1): ∃ x,ak Tryz.prog 93 [.agg (RS r e)] (.gQ [.dat (.elem x),.bool (dH r e).isSome])/\ ∀ y,dH r e=some y->x=y:=by
 obtain⟨d1,d2⟩:=hp.dst
 have hl1:(bG e.counts r.fr).length=e.counts.length:=by simp[bG]
 have hB:=hc.b.dec (by omega) r.fr
 have hB5:=hB.get (by omega) r.to.toNat
 have ha1:=hr.all; have hx1:=hr.ex
 cases hs:BK r e with
 |true =>
  have hf:dH r e=none:=by rw[dH,uF,hs]; rfl
  refine⟨zE,?_,fun y hy=>by rw[hf] at hy; cases hy⟩
  rw[hf]
  refine ak.of Bd.jw (by simp) rfl rfl ?_
  conv=>whnf
  refine ah.pure (S.F8 r e hp hs) rfl ?_
  conv=>whnf
  refine Fork.mk (fun _=>?_) (fun q=>absurd (q.symm.trans ((rfl:true=true))) Bool.false_ne_true)
  conv=>whnf
  exact au.noneE
 |false =>
  have hpos: ∀ i,0<=(bG e.counts r.fr).getD i 0:=fun i=>Xo hc (by rw[uF]; exact hs) i
  have YR:dH r e=bif !(uX r (bG e.counts r.fr)) then none else some ⟨BL r e,kN (bG e.counts r.fr) r.to 1⟩:=by
   rw[dH,uF,hs,hk]; rfl
  refine⟨bif uV r.all (bG e.counts r.fr) (bG e.counts r.fr).length then zE else⟨BL r e,kN (bG e.counts r.fr) r.to 1⟩,?_,fun y hy=>?_⟩
  rotate_left
  ·rw[YR] at hy
   cases ha:uX r (bG e.counts r.fr) with
   |false=>rw[ha] at hy; cases hy
   |true =>
    rw[ha] at hy
    have hb:uV r.all (bG e.counts r.fr) (bG e.counts r.fr).length=false:=by
     unfold uX at ha; rw[Bool.and_eq_true] at ha; simpa using ha.1
    rw[hb]; exact Option.some.inj hy
  have hsome:(dH r e).isSome=uX r (bG e.counts r.fr):=by
   rw[YR]; cases uX r (bG e.counts r.fr)<;>rfl
  rw[hsome]
  refine ak.of Bd.jw (by simp) rfl rfl ?_
  conv=>whnf
  refine ah.others hp hc hl hs ?_
  conv=>whnf
  refine Fork.mk (fun q=>absurd (q.symm.trans ((rfl:false=false))).symm Bool.false_ne_true) (fun _=>?_)
  conv=>whnf
  conv=>whnf
  refine aP.same [1,2,4,22,23] (fun i:Nat=>[(24,.int i),(6,.bool (Af r.ex (bG e.counts r.fr) i))]) (fun i=>i<=(bG e.counts r.fr).length/\uV r.all (bG e.counts r.fr) i=false) (fun i=>(bG e.counts r.fr).length-i) 0 rfl (by decide) rfl (fun _=>rfl) ⟨by omega,by simp[uV]⟩ ⟨⟨_,rfl,rfl⟩,⟨_,rfl,by simp[Af]; rfl⟩,trivial⟩ ?_
  conv=>whnf
  refine⟨rfl,?_⟩
  rintro i ⟨hi,hb⟩
  conv=>whnf
  refine⟨fun h3=>?_,fun h3=>?_⟩
  ·have hi':i<(bG e.counts r.fr).length:=by simpa using h3
   have hbn:=Oj (al:=r.all) (c:=bG e.counts r.fr) (i:=i)
   have hfn:=Oi (ex:=r.ex) (c:=bG e.counts r.fr) (i:=i)
   have hg:=abd (hpos i)
   conv=>whnf
   repeat(refine VC.mk (by first|(simp only[Rw.rng,Int.toNat_natCast]; omega)|exact fun h=>h|exact fun h=>⟨h,h⟩) ?_; conv=>whnf)
   refine ah.fJ (fun _=>S.slices_Contains_int r.all i false (by omega)) rfl ?_
   conv=>whnf
   repeat(refine VC.mk id ?_; conv=>whnf)
   refine⟨fun h4=>?_,fun h4=>?_⟩
   ·have h4':(decide (0<(bG e.counts r.fr).getD i 0)&&decide (0<(r.all.length:Int))&& !Oh r.all i)=true:=h4
    rw[Bool.and_assoc,Bool.and_eq_true] at h4'
    have hbl:=UC (al:=r.all) hi' (by have:=hg.symm.trans h4'.1; simpa using this) h4'.2
    rw[hbl,show uX r (bG e.counts r.fr)=false by rw[uX,hbl]; rfl]
    conv=>whnf
    exact au.noneE
   ·have h4':(decide (0<(bG e.counts r.fr).getD i 0)&&decide (0<(r.all.length:Int))&& !Oh r.all i)=false:=h4
    have hb2:uV r.all (bG e.counts r.fr) (i+1)=false:=by
     rw[hbn,hb,Bool.false_or,<- hg,<- h4',Bool.and_assoc]
    conv=>whnf
    repeat(refine VC.mk (by first|exact id|exact fun h=>⟨h,h⟩) ?_; conv=>whnf)
    refine ah.fJ (fun _=>S.slices_Contains_int r.ex i false (by omega)) rfl ?_
    conv=>whnf
    repeat(refine VC.mk (by first|(intro h; rw[h]; rfl)|(intro h; simp[h]; done)|(simp only[okI] at *; first|omega|(simp_all; done)|(simp_all; omega))) ?_; conv=>whnf)
    refine⟨i+1,⟨by omega,hb2⟩,by omega,⟨⟨_,rfl,rfl⟩,⟨_,rfl,?_⟩,trivial⟩,?_,rfl⟩
    ·rw[hfn,<- hg]
     rfl
    ·repeat' (first|exact trivial|exact⟨_,rfl,rfl⟩|constructor)
  ·have hi':i=(bG e.counts r.fr).length:=by have:(bG e.counts r.fr).length<=i:=(by simpa using h3); omega
   subst hi'
   rw[hb]
   have hal:uX r (bG e.counts r.fr)=Af r.ex (bG e.counts r.fr) (bG e.counts r.fr).length:=by rw[uX,hb]; rfl
   rw[hal]
   conv=>whnf
   repeat(refine VC.mk (by first|(simp only[Rw.rng,hl1]; omega)|(simp only[okI,bG,kN] at *; omega)) ?_; conv=>whnf)
   refine ah.result (c:=kN (bG e.counts r.fr) r.to 1) rfl rfl ?_
   conv=>whnf
   exact au.U2 rfl
theorem S.EI(r:Rule)(e:Elem)(hp:wP e.counts.length r)(hc:Ag e.counts)(hl:e.counts.length<=6)(hk:r.kind=3): ∃ x,ak Tryz.prog 95 [.agg (RS r e)] (.gQ [.dat (.elem x),.bool (dH r e).isSome])/\ ∀ y,dH r e=some y->x=y:=by
 obtain⟨d1,d2⟩:=hp.dst
 obtain⟨rs1,rs2⟩:=hp.rsp hk
 have hl1:(bG e.counts r.fr).length=e.counts.length:=by simp[bG]
 have hB:=hc.b.dec (by omega) r.fr
 cases hs:BK r e with
 |true =>
  have hf:dH r e=none:=by rw[dH,uF,hs]; rfl
  refine⟨zE,?_,fun y hy=>by rw[hf] at hy; cases hy⟩
  rw[hf]
  refine ak.of Bd.fZ (by simp) rfl rfl ?_
  conv=>whnf
  refine ah.pure (S.F8 r e hp hs) rfl ?_
  conv=>whnf
  refine Fork.mk (fun _=>?_) (fun q=>absurd (q.symm.trans ((rfl:true=true))) Bool.false_ne_true)
  conv=>whnf
  exact au.noneE
 |false =>
  have hf:dH r e=some ⟨BL r e,kN (vG r (bG e.counts r.fr) (bG e.counts r.fr).length) r.to 1⟩:=by rw[dH,uF,hs,hk]; rfl
  refine⟨_,?_,fun y hy=>by rw[hf] at hy; exact Option.some.inj hy⟩
  rw[hf]
  refine ak.of Bd.fZ (by simp) rfl rfl ?_
  conv=>whnf
  refine ah.others hp hc hl hs ?_
  conv=>whnf
  refine Fork.mk (fun q=>absurd (q.symm.trans ((rfl:false=false))).symm Bool.false_ne_true) (fun _=>?_)
  conv=>whnf
  conv=>whnf
  have hm:=yg (n:=(bG e.counts r.fr).length) (by have:=hp.src; omega)
  rw[hm]
  conv=>whnf
  refine .mk (by omega) ?_
  conv=>whnf
  refine aP.objs 60 [1,2,4,20,21] (fun i:Nat=>[(22,.int i),(6,.own 14)]) (fun i=>[(0,.box 119 21 (.agg (RS r e))),(1,.box 55 3 (.agg [.int 0,.row 0 true .nil])),(4,jR (bG e.counts r.fr)),(14,jR (vG r (bG e.counts r.fr) i))]) (fun i=>i<=(bG e.counts r.fr).length) (fun i=>(bG e.counts r.fr).length-i) 0 [0,1,4,14] rfl (by decide) (fun _=>rfl) (Nat.zero_le _) ?_ ?_ ?_
  ·exact⟨⟨_,rfl,.eq rfl⟩,⟨_,rfl,.eq rfl⟩,trivial⟩
  ·exact⟨⟨rfl,nofun,rfl,rfl,rfl,_,rfl,rfl,rfl,bg.of_eq rfl⟩,⟨rfl,nofun,rfl,rfl,rfl,_,rfl,rfl,rfl,bg.of_eq rfl⟩,⟨rfl,nofun,rfl,rfl,rfl,_,rfl,rfl,rfl,bg.of_eq rfl⟩,⟨rfl,nofun,rfl,rfl,rfl,_,rfl,rfl,rfl,bg.of_eq rfl⟩,trivial⟩
  conv=>whnf
  refine⟨⟨⟨_,rfl,.eq rfl⟩,⟨_,rfl,.eq rfl⟩,⟨_,rfl,.eq rfl⟩,⟨_,rfl,.eq rfl⟩,⟨_,rfl,.eq rfl⟩,trivial⟩,rfl,?_⟩
  rintro i hi
  have zH:(i:Int)*1048577<=6*1048577:=Int.mul_le_mul_of_nonneg_right (by omega) (by omega)
  have hn0:0<=(i:Int)*1048577:=Int.mul_nonneg (by omega) (by omega)
  have hRB:=Zp hB (by omega) (r:=r) i
  have hRl:(vG r (bG e.counts r.fr) i).length=e.counts.length:=by rw[BD,hl1]
  conv=>whnf
  refine⟨fun g1=>?_,fun g1=>?_⟩
  ·have hi':i<(bG e.counts r.fr).length:=by simpa using g1
   have hir:i<r.response.length:=by omega
   obtain⟨q1,q2⟩:0<=r.response.getD i 0/\r.response.getD i 0<e.counts.length:=by
    rw[show r.response.getD i 0=r.response[i] by simp[hir]]; exact rs2 _ (List.getElem_mem hir)
   have hR1:=hRB.get hn0 (r.response.getD i 0).toNat
   have hR2:=hB.get (by omega) i
   conv=>whnf
   repeat(refine VC.mk (by first|(first|(simp only[Rw.rng,BD]; omega)|(simp only[okI,bG,kN,Int.toNat_natCast] at *; omega))|(simp only[Rw.rng] at *; first|omega|(simp_all; done)|(simp_all; omega))) ?_; conv=>whnf)
   refine⟨i+1,[0,1,4,14],by omega,by omega,⟨⟨_,rfl,.eq rfl⟩,⟨_,rfl,.eq rfl⟩,trivial⟩,⟨⟨_,rfl,.eq rfl⟩,⟨_,rfl,.eq rfl⟩,⟨_,rfl,.eq rfl⟩,⟨_,rfl,.eq rfl⟩,⟨_,rfl,.eq rfl⟩,trivial⟩,⟨rfl,nofun,rfl,rfl,rfl,_,rfl,rfl,rfl,bg.of_eq rfl⟩,⟨rfl,nofun,rfl,rfl,rfl,_,rfl,rfl,rfl,bg.of_eq rfl⟩,⟨rfl,nofun,rfl,rfl,rfl,_,rfl,rfl,rfl,bg.of_eq rfl⟩,⟨rfl,nofun,rfl,rfl,rfl,_,rfl,rfl,rfl,bg.of_eq ?_⟩,trivial⟩
   rw[yY]; rfl
  have hi':i=(bG e.counts r.fr).length:=by have:(bG e.counts r.fr).length<=i:=(by simpa using g1); omega
  subst hi'
  have hR1:=hRB.get hn0 r.to.toNat
  conv=>whnf
  repeat(refine VC.mk (by first|(simp only[Rw.rng,BD]; omega)|(simp only[okI,bG,kN,Int.toNat_natCast] at *; omega)) ?_; conv=>whnf)
  refine ah.result (c:=kN (vG r (bG e.counts r.fr) (bG e.counts r.fr).length) r.to 1) rfl rfl ?_
  conv=>whnf
  exact au.U2 rfl
def Dz(k:Int):FuncId:=bif k==1 then 93 else bif k==2 then 94 else 95
theorem S.kD(k:Int):ak Tryz.prog 64 [.int k] (.fn (Dz k) []):=by
 refine ak.of Bd.kD (by simp) rfl rfl ?_
 conv=>whnf
 refine⟨fun h1=>?_,fun h1=>?_⟩
 ·conv=>whnf
  refine au.eqv ?_
  rw[Dz,show(k==1)=true from h1]; rfl
 ·conv=>whnf
  refine⟨fun h2=>?_,fun h2=>?_⟩
  ·conv=>whnf
   refine au.eqv ?_
   rw[Dz,show(k==1)=false from h1,show(k==2)=true from h2]; rfl
  ·conv=>whnf
   refine au.eqv ?_
   rw[Dz,show(k==1)=false from h1,show(k==2)=false from h2]; rfl
theorem S.apply(r:Rule)(e:Elem)(hr:uT r)(hp:wP e.counts.length r)(hc:Ag e.counts)(hl:e.counts.length<=6)(hk:r.kind=1\/r.kind=2\/r.kind=3): ∃ x,ak Tryz.prog (Dz r.kind) [.agg (RS r e)] (.gQ [.dat (.elem x),.bool (dH r e).isSome])/\ ∀ y,dH r e=some y->x=y:=by
 rcases hk with h|h|h
 ·rw[show Dz r.kind=93 by rw[Dz,h]; rfl]; exact S.LP r e hr hp hc hl h
 ·rw[show Dz r.kind=94 by rw[Dz,h]; rfl]; exact S.OD r e hp hc hl h
 ·rw[show Dz r.kind=95 by rw[Dz,h]; rfl]; exact S.EI r e hp hc hl h
def DC(l:List Bool):Int:=bif decide (l.findIdx (fun b=> !b)<l.length) then(l.findIdx (fun b=> !b):Nat) else -1
theorem JQ{l:List Bool}{i:Nat}(h:(l.take i).all id=true)(hi:i<=l.length):l.findIdx (fun b=> !b)=i+(l.drop i).findIdx (fun b=> !b):=by
 induction i generalizing l with
 |zero=>simp
 |succ i ih =>
  cases l with
  |nil=>simp at hi
  |cons b l =>
   simp only[List.take_succ_cons,List.all_cons,id,Bool.and_eq_true] at h
   rw[List.findIdx_cons,h.1,List.drop_succ_cons]
   simp only[Bool.not_true,cond_false]
   rw[ih h.2 (by simpa using hi)]; omega
theorem S.F9(l:List Bool)(f:Bool)(hl:l.length<2^30):ak Tryz.prog 65 [.row 0 f (.bools l),.bool false] (.int (DC l)):=by
 refine ak.of Bd.kE (by simp) rfl rfl ?_
 conv=>whnf
 refine aP.same [0,1,6,7] (fun i:Nat=>[(8,.int i)]) (fun i=>i<=l.length/\(l.take i).all id=true) (fun i=>l.length-i) 0 rfl (by decide) rfl (fun _=>rfl) ⟨by omega,by simp⟩ ⟨⟨_,rfl,rfl⟩,trivial⟩ ?_
 conv=>whnf
 refine⟨rfl,?_⟩
 rintro i ⟨hi,hall⟩
 have hfd:=JQ hall hi
 conv=>whnf
 refine⟨fun h3=>?_,fun h3=>?_⟩
 ·have hi':i<l.length:=by simpa using h3
  rw[bC false hi',List.findIdx_cons] at hfd
  conv=>whnf
  refine .mk (by simp only[Rw.rng] at *; first|omega|(simp_all; done)|(simp_all; omega)) ?_
  conv=>whnf
  refine⟨fun h4=>?_,fun h4=>?_⟩
  ·have h4':l.getD i false=false:=by
    have h5:(false==l.getD i false)=true:=h4
    cases hb:l.getD i false with
    |false=>rfl
    |true=>rw[hb] at h5; cases h5
   conv=>whnf
   refine au.int ?_
   rw[h4'] at hfd
   have ZB:l.findIdx (fun b=> !b)=i:=hfd
   rw[DC,ZB,decide_eq_true hi']; rfl
  ·have h4':l.getD i false=true:=by
    have h5:(false==l.getD i false)=false:=h4
    cases hb:l.getD i false with
    |true=>rfl
    |false=>rw[hb] at h5; cases h5
   conv=>whnf
   refine .mk (by simp only[okI] at *; first|omega|(simp_all; done)|(simp_all; omega)) ?_
   conv=>whnf
   refine⟨i+1,⟨by omega,?_⟩,by omega,⟨⟨_,rfl,rfl⟩,trivial⟩,?_,rfl⟩
   ·rw[mO (d:=false) hi' hall]; exact h4'
   ·repeat' (first|exact trivial|exact⟨_,rfl,rfl⟩|constructor)
 ·have hi':l.length<=i:=by simpa using h3
  rw[List.drop_eq_nil_of_le hi'] at hfd
  have ZB:l.findIdx (fun b=> !b)=i:=hfd
  conv=>whnf
  refine au.int ?_
  rw[DC,ZB,decide_eq_false (by omega)]; rfl
theorem S.jT(l:List Bool)(n:Nat)(f g:Bool)(hl:l.length<2^30)(hn:l.length<=n):ak Tryz.prog 54 [.row 0 f (.bools l),.row 0 g (.bools (List.replicate n false))] (.bool (l.all id)):=by
 refine ak.of Bd.jT (by simp) rfl rfl ?_
 conv=>whnf
 refine aP.same [1,7,8] (fun i:Nat=>[(9,.int i)]) (fun i=>i<=l.length/\(l.take i).all id=true) (fun i=>l.length-i) 0 rfl (by decide) rfl (fun _=>rfl) ⟨by omega,by simp⟩ ⟨⟨_,rfl,rfl⟩,trivial⟩ ?_
 conv=>whnf
 refine⟨rfl,?_⟩
 rintro i ⟨hi,hall⟩
 conv=>whnf
 refine⟨fun h3=>?_,fun h3=>?_⟩
 ·have hi':i<l.length:=by simpa using h3
  have hd:(List.replicate n false).getD i false=false:=by simp[List.getD_eq_getElem?_getD,show i<n by omega]
  conv=>whnf
  repeat(refine VC.mk (by first|(first|(intro _; simp only[Rw.rng,List.length_replicate]; omega)|(simp only[Rw.rng,List.length_replicate]; omega))|exact fun h=>h|(simp only[Rw.rng] at *; first|omega|(simp_all; done)|(simp_all; omega))) ?_; conv=>whnf)
  refine⟨fun h4=>?_,fun h4=>?_⟩
  ·have h4':l.getD i false=false:=by
    have h5:(!(l.getD i false)&& !((List.replicate n false).getD i false))=true:=h4
    rw[hd] at h5; simpa using h5
   conv=>whnf
   exact au.bool (lV (p:=id) (d:=false) hi' h4')
  ·have h4':l.getD i false=true:=by
    have h5:(!(l.getD i false)&& !((List.replicate n false).getD i false))=false:=h4
    rw[hd] at h5; simpa using h5
   conv=>whnf
   refine .mk (by simp only[okI] at *; first|omega|(simp_all; done)|(simp_all; omega)) ?_
   conv=>whnf
   refine⟨i+1,⟨by omega,?_⟩,by omega,⟨⟨_,rfl,rfl⟩,trivial⟩,?_,rfl⟩
   ·rw[mO (d:=false) hi' hall]; exact h4'
   ·repeat' (first|exact trivial|exact⟨_,rfl,rfl⟩|constructor)
 ·have hi':l.length<=i:=by simpa using h3
  rw[List.take_of_length_le hi'] at hall
  conv=>whnf
  exact au.bool hall
theorem BM(l:List Clause):T.dB (l.map nK)=true:=by
 rw[gU]; intro t ht; obtain⟨x,_,rfl⟩:=List.mem_map.1 ht; rfl
abbrev Uu(l:List Clause):OV:=.row 36 4 (.clauses l) []
theorem YN{h:Hz}{j:Nat}{l:List Clause}{Z:Nat->Prop}(hz:Z j)(q:h.get j=some (Uu l)):T.sub Z h.aj (V.row 4 false (.clauses l)).aG (V.own j).aG:=by
 show T.sub Z h.aj (.sl 4 false (l.map nK)) (.own j)
 simp only[T.sub]
 refine⟨trivial,hz,BM l,by decide,36,?_⟩
 have:=aH q; simpa [OV.aF,Rw.aT,V.aT] using this
theorem au.abe{h:Hz}{j:Nat}{l:List Clause}(q:h.get j=some (Uu l)):au (.row 4 false (.clauses l)) (.own j) h:=⟨YN trivial q⟩
theorem S.gW(l a:List Clause)(f g:Bool)(hl:l.length<2^20)(ha:a.length<2^20):ak Tryz.prog 30 [.row 4 f (.clauses l),.row 4 g (.clauses a)] (.row 4 false (.clauses (l++a))):=by
 refine ak.of Bd.gW (by simp) rfl rfl ?_
 conv=>whnf
 refine .mk (by simp only[Rw.lT]; omega) ?_
 conv=>whnf
 rw[show decide ((l.length:Int)=l.length)=true from decide_eq_true rfl]
 conv=>whnf
 have ht:(l.take (l.length:Int).toNat)=l:=List.take_length
 have hcap:mW 72 (Rw.take (l.length:Int).toNat (Rw.clauses l)).len (lS (Rw.clauses a) []):=by
  show((l.take (l.length:Int).toNat).length+(a.length+0))*72<=140737488355328/\(l.take (l.length:Int).toNat).length+(a.length+0)<=1152921504606846976
  rw[ht]; omega
 by_cases ha0:a=[]
 ·subst ha0
  refine OE.both hcap ?_ ⟨rfl,?_⟩
  ·conv=>whnf
   refine au.abe ?_
   show some (Uu (l.take (l.length:Int).toNat++[]))=_
   rw[ht]
  ·conv=>whnf
   refine au.row ?_
   show Rw.clauses (l++[])=Rw.clauses (l.take (l.length:Int).toNat)
   rw[ht,List.append_nil]
 ·refine OE.one ⟨.inr ?_,hcap⟩ ?_
  ·have:=List.length_pos_iff.2 ha0
   show 0<a.length+0; omega
  ·conv=>whnf
   refine au.abe ?_
   show some (Uu (l.take (l.length:Int).toNat++a))=_
   rw[ht]
def I8(b:Int)(c:List Int):Prop:= ∀ x∈c,0<=x/\x<=b
theorem I8.g{b:Int}{c:List Int}(h:I8 b c)(hb:0<=b)(i:Nat):0<=c.getD i 0/\c.getD i 0<=b:=by
 by_cases hi:i<c.length
 ·rw[show c.getD i 0=c[i] by simp[hi]]; exact h _ (List.getElem_mem hi)
 ·rw[show c.getD i 0=0 by simp[List.getD_eq_getElem?_getD,List.getElem?_eq_none (by omega:c.length<=i)]]; omega
theorem I8.add{b k d i:Int}{c:List Int}(h:I8 b c)(hb:0<=b)(hd:0<=d/\d<=k):I8 (b+k) (kN c i d):=by
 intro x hx
 have hg:=h.g hb i.toNat
 rcases List.mem_or_eq_of_mem_set hx with hx|rfl
 ·have:=h x hx; omega
 ·omega
theorem I8.dec{b i:Int}{c:List Int}(h:I8 b c)(hb:0<=b)(h0:(c.getD i.toNat 0==0)=false):I8 b (bG c i):=by
 intro x hx
 have hg:=h.g hb i.toNat
 have:=beq_eq_false_iff_ne.1 h0
 rcases List.mem_or_eq_of_mem_set hx with hx|rfl
 ·exact h x hx
 ·omega
theorem I8.resp{b:Int}{c:List Int}{r:Rule}(h:I8 b c)(hb:0<=b): ∀ i:Nat,I8 (i*b) (vG r c i):=by
 intro i
 induction i with
 |zero=>intro x hx; have:=List.eq_of_mem_replicate hx; subst this; simp
 |succ i ih =>
  rw[yY]
  have h0:0<=(i:Int)*b:=Int.mul_nonneg (by omega) hb
  have:=ih.add h0 (h.g hb i) (i:=r.response.getD i 0)
  have e:((i+1:Nat):Int)*b=i*b+b:=by rw[Int.natCast_succ,Int.add_mul,Int.one_mul]
  rw[e]; exact this
theorem I8.mono{b k:Int}{c:List Int}(h:I8 b c)(hk:b<=k):I8 k c:=fun x hx=>by have:=h x hx; omega
theorem Xz{r:Rule}{e x:Elem}(hc:I8 8 e.counts)(hl:e.counts.length<=6)(h:dH r e=some x):Ag x.counts:=by
 have lift: ∀ {c:List Int} {v:Int},I8 100 c->some (⟨v,kN c r.to 1⟩:Elem)=some x->Ag x.counts:=by
  intro c v hc h; cases h
  exact(hc.add (k:=1) (by omega) ⟨by omega,by omega⟩).mono (by omega)
 unfold dH at h
 cases hs:(decide (0<=r.read)&&e.value !=r.read||e.counts.getD r.fr.toNat 0==0) with
 |true=>rw[hs] at h; cases h
 |false =>
  rw[hs] at h
  rw[Bool.or_eq_false_iff] at hs
  have h1:I8 8 (bG e.counts r.fr):=hc.dec (by omega) hs.2
  simp only[cond_false] at h
  rcases gI h with h|h
  ·rcases gI h with h|h
   ·cases h
   ·exact lift (h1.mono (by omega)) h
  ·cases hp:(bG e.counts r.fr).getD r.iQ.toNat 0==0 with
   |true =>
    rw[hp] at h
    rcases gI h with h|h
    ·cases h
    ·rcases gI h with h|h
     ·refine lift ((h1.resp (by omega) (r:=r) (bG e.counts r.fr).length).mono ?_) h
      rw[pY]
      have:(e.counts.length:Int)*8<=6*8:=Int.mul_le_mul_of_nonneg_right (by omega) (by omega)
      omega
     ·exact lift (h1.mono (by omega)) h
   |false =>
    rw[hp] at h
    rcases gI h with h|h
    ·exact lift (((h1.dec (by omega) hp).add (k:=1) (by omega) ⟨by omega,by omega⟩).mono (by omega)) h
    ·rcases gI h with h|h
     ·refine lift ((h1.resp (by omega) (r:=r) (bG e.counts r.fr).length).mono ?_) h
      rw[pY]
      have:(e.counts.length:Int)*8<=6*8:=Int.mul_le_mul_of_nonneg_right (by omega) (by omega)
      omega
     ·exact lift (h1.mono (by omega)) h
theorem U3{r:Rule}{e x:Elem}(h:dH r e=some x):x.value=BL r e:=by
 have lift: ∀ {c:List Int},some (⟨bif decide (r.write>=0) then r.write else e.value,c⟩:Elem)=some x->x.value=BL r e:=by
  intro c h; cases h; rfl
 unfold dH at h
 rcases gI h with h|h
 ·cases h
 rcases gI h with h|h
 ·rcases gI h with h|h
  ·cases h
  ·exact lift h
 rcases gI h with h|h
 ·rcases gI h with h|h
  ·cases h
  ·exact lift h
 rcases gI h with h|h
 ·exact lift h
 ·exact lift h
theorem LQ: ∀ {l:List Int},uZ l=true->l.Pairwise (· < ·):=by
 intro l
 induction l with
 |nil=>intro _; exact List.Pairwise.nil
 |cons x r ih =>
  intro h
  cases r with
  |nil=>exact List.pairwise_singleton _ _
  |cons y r =>
   simp only[uZ,Bool.and_eq_true,decide_eq_true_eq] at h
   have h2:=ih h.2
   refine List.pairwise_cons.2 ⟨fun z hz=>?_,h2⟩
   rcases List.mem_cons.1 hz with rfl|hz
   ·exact h.1
   ·have:=(List.pairwise_cons.1 h2).1 z hz; omega
theorem OG{l:List Int}{n:Nat}(h:dR l n=0):Em n l:=by
 refine⟨yZ h,LQ ?_⟩
 unfold dR at h
 cases ha:l.any fun i=>nR i n with
 |true=>rw[ha] at h; cases h
 |false =>
  rw[ha] at h
  cases hi:uZ l with
  |true=>rfl
  |false=>rw[hi] at h; cases h
theorem U4{p:aW}{k:Clause}(h:uD p k=0):FM p.states.length p.values.length k:=by
 unfold uD at h
 obtain⟨h1,h⟩:=bz (fun _=>by decide) h
 obtain⟨h2,h⟩:=bz nz h
 obtain⟨h3,h4⟩:=bz nz h
 refine⟨by have:=of_decide_eq_false h1; omega,fun s hs=>?_,OG (by simpa using h3),OG h4⟩
 have:=jc (by simpa using h2) (mX p.states.length s) (List.mem_map.2 ⟨s,hs,rfl⟩)
 unfold mX at this
 obtain⟨g1,g2⟩:=bz nz this
 refine⟨OG (by simpa using g1),fun e=>?_⟩
 subst e; exact absurd g2 (by decide)
structure ig(n vals:Nat)(l:List Clause):Prop where
 cl: ∀ k∈l,FM n vals k
 len:l.length<=1000
theorem Ar{p:aW}{l:List Clause}(h:jZ p l=0):ig p.states.length p.values.length l/\l.length<=160:=by
 unfold jZ at h
 obtain⟨h1,h⟩:=bz (fun _=>by decide) h
 have h1':l.length<=160:=by have:=of_decide_eq_false h1; omega
 exact⟨⟨fun k hk=>U4 (jc h _ (List.mem_map.2 ⟨k,hk,rfl⟩)),by omega⟩,h1'⟩
theorem FM.small{n vals:Nat}{k:Clause}(h:FM n vals k)(hn:n<=6)(hv:vals<=3):rD k:=by
 have h1:=h.two
 have h2:=h.values.len
 have h3:=h.some.len
 refine⟨by omega,fun i=>?_,by omega,by omega⟩
 by_cases hi:i<k.each.length
 ·have:=(h.each _ (getM (d:=[]) hi)).1.len; omega
 ·rw[show k.each.getD i []=[] by simp[List.getD_eq_getElem?_getD,List.getElem?_eq_none (by omega:k.each.length<=i)]]; decide
theorem ig.small{n vals:Nat}{l:List Clause}(h:ig n vals l)(hn:n<=6)(hv:vals<=3):SmallK l:=by
 have:=h.len
 refine⟨by omega,fun i=>?_⟩
 by_cases hi:i<l.length
 ·exact(h.cl _ (getM hi)).small hn hv
 ·rw[show l.getD i default=default by simp[List.getD_eq_getElem?_getD,List.getElem?_eq_none (by omega:l.length<=i)]]
  exact⟨by decide,fun i=>by show(([]:List (List Int)).getD i []).length<2^30; rw[List.getD_nil]; decide,by decide,by decide⟩
theorem ig.tab{n vals:Nat}{l:List Clause}{e:Elem}(h:ig n vals l)(hl:e.counts.length=n)(hc:Ag e.counts)(hn0:0<n)(zH:n<=6)(hv:0<=e.value/\e.value<=1048576):Ia l e :=
 ⟨⟨vals,by rw[hl]; exact h.cl⟩,hc,⟨by omega,by omega⟩,hv⟩
theorem En.nn{b n vals:Nat}{e:Elem}(h:En b n vals e)(hb:b<=9):I8 8 e.counts:=fun x hx=>by have:=h.rng x hx; omega
theorem En.Ag{b n vals:Nat}{e:Elem}(h:En b n vals e)(hb:b<=9):Ag e.counts:=fun x hx=>by have:=h.rng x hx; omega
theorem ig.at{n vs vals:Nat}{l:List Clause}{b:Nat}{e:Elem}(h:ig n vs l)(he:En b n vals e)(hb:b<=9)(hv:vals<=3)(hn0:0<n)(zH:n<=6):Ia l e :=
 h.tab he.len (he.Ag hb) hn0 zH ⟨he.val.1,by have:=he.val.2; omega⟩
theorem ig.app{n vals:Nat}{l a:List Clause}(h:ig n vals l)(g:ig n vals a)(hs:l.length+a.length<=1000):ig n vals (l++a) :=
 ⟨fun k hk=>(List.mem_append.1 hk).elim (h.cl k) (g.cl k),by rw[List.length_append]; exact hs⟩
theorem ig.fit{n vs:Nat}{l:List Clause}{e:Elem}(h:ig n vs l)(hl:e.counts.length=n)(hc:Ag e.counts)(zH:n<=6)(hv:vs<=3){i:Nat}(hi:i<l.length):Rx (l.getD i default) e/\(l.getD i default).values.length<2^30:=by
 have hk:=h.cl _ (getM (d:=default) hi)
 refine⟨⟨⟨vs,by rw[hl]; exact hk⟩,hc,by omega⟩,?_⟩
 have:=hk.values.len; omega
end Go.Proofs.YtbfhebmdcpmfaaaGreatDoor
