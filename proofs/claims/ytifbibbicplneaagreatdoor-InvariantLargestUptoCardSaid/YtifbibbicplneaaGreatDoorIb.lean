/-
 A part of the proof. No condition.
-/
import Derived.Test.YtifbibbicplneaaGreatDoorIa
namespace Go.Proofs.YtifbibbicplneaaGreatDoor
open Go.Ab Go.Proofs
set_option maxRecDepth 100000
theorem S.RG(l:List Int)(f:Bool)(h0:0<l.length)(hl:l.length<2^30)(n:Nat):aU Tryz.prog 112 (V.aW [.row 0 f (.ints l)]) (Hz.au []) n (fun t hp=>t= .own n/\hp=Hz.au [(n,some (jm l))]):=by
 refine qF.of (nx:=0) (h0:=[]) Bd.iD (by simp) ⟨_,_,rfl,rfl⟩ rfl rfl ?_
 conv=>whnf
 refine Rq.mk (fun hz=>?_) ?_
 ·exact absurd (show l.length=0 from hz) (by omega)
 ·conv=>whnf
  refine Fork.mk (fun q=>absurd (q.symm.trans ((rfl:false=false))).symm Bool.false_ne_true) (fun _=>?_)
  conv=>whnf
  refine .mk (by simp only[kU,kD,Rw.len]; omega) ?_
  conv=>whnf
  repeat(refine VC.mk (by simp only[kU,kD,Rw.len]; omega) ?_; conv=>whnf)
  exact jH.one (c:=n) (o:=jm l) (t:=.own n) rfl rfl rfl nofun (.inr rfl) rfl (.eq rfl) ⟨rfl,rfl⟩
theorem S.yP(l:List Int)(f:Bool)(h0:0<l.length)(hl:l.length<2^30):wu Tryz.prog 112 (V.aW [.row 0 f (.ints l)]) (fun n=>.own n) (some ⟨3,0,(Rw.ints l).aW⟩):=by
 refine⟨V.gW [.row 0 f (.ints l)] rfl,fun _=>rfl,(fun ob h=>by cases h; rw[gu]; intro t ht; obtain⟨x,_,rfl⟩:=List.mem_map.1 ht; rfl),(fun ob h=>by cases h; exact fun e=>absurd e (by decide:(0:Nat)≠fP)),fun n=>(S.RG l f h0 hl n).mono ?_⟩
 rintro t hp ⟨rfl,rfl⟩
 refine⟨rfl,?_⟩
 rw[bK]; simp[mX,OV.aH,V.aW]; rfl
abbrev hF(c:List Int):Hz:=[(1,some (.box 24 0 (.own 0))),(0,some (jm c))]
theorem jH.ofF{c:List Int}{h:Hz}{n:Nat}{v:V}{post:T->Hp->Prop}(q0:h.get 0=some (jm c))(q1:h.get 1=some (.box 24 0 (.own 0)))(hv:v.free=true)(hp:post v.aI (hF c).au):jH (hF c) n post v h:=by
 refine jH.Xt (h2:=hF c) (u:=v) (fun _=>False) ⟨dW (Z:=fun _=>False) q1 (fun q=>q),dW (Z:=fun _=>False) q0 (fun q=>q),trivial⟩ ?_ hv (aC _) hp
 intro i o ho
 have hG:=qR (show xO 2 (hF c)=true from rfl) i o.aH (aJ ho)
 refine⟨by rw[aJ ho]; rfl,T.ay (fun i hi=>?_) _ hG.2.1,hG.2.2⟩
 match i,hi with
 |0,_=>rfl
 |1,_=>rfl
 |k+2,hk=>exact absurd hk (by omega)
theorem S.aak(c:List Int)(x:Int)(hx:0<=x/\x<c.length)(hc:c.length<2^30)(n:Nat):aU Tryz.prog 152 (V.aW [.int x,.ptr 1 0 0]) (hF c).au n (fun t hp=>t= .bool (decide (c.getD x.toNat 0>0))/\hp=(hF c).au):=by
 refine qF.of (nx:=2) Bd.qU (by simp) ⟨_,_,rfl,rfl⟩ rfl rfl ?_
 conv=>whnf
 repeat(refine VC.mk (by simp only[Rw.rng]; omega) ?_; conv=>whnf)
 exact jH.ofF rfl rfl rfl ⟨rfl,rfl⟩
def MZ(c:List Int):List Int->Nat->Int
 |[],_=> -1
 |x::r,i=>bif decide (c.getD x.toNat 0>0) then(i:Int) else MZ c r (i+1)
theorem aal{c l:List Int}:decide (0<=MZ c l 0)=l.any fun x=>decide (c.getD x.toNat 0>0):=by
 have: ∀ {l:List Int} {i:Nat},0<=MZ c l i↔(l.any fun x=>decide (c.getD x.toNat 0>0))=true:=by
  intro l
  induction l with
  |nil=>intro i; simp[MZ]
  |cons x r ih =>
   intro i
   rw[List.any_cons,Bool.or_eq_true,<- ih (i:=i+1)]
   show(0:Int)<=(bif decide (c.getD x.toNat 0>0) then(i:Int) else MZ c r (i+1))↔_
   generalize decide (c.getD x.toNat 0>0)=b
   cases b<;>simp
 rw[Bool.eq_iff_iff,decide_eq_true_eq]; exact this
theorem S.RH(c l:List Int)(f:Bool)(hl:l.length<2^30)(hp:oM c.length l)(hc:c.length<2^30)(n:Nat):aU Tryz.prog 170 (V.aW [.row 0 f (.ints l),.fn 152 [.ptr 1 0 0]]) (hF c).au n (fun t hp=>t= .int (MZ c l 0)/\hp=(hF c).au):=by
 refine qF.of (nx:=2) Bd.jZ (by simp) ⟨_,_,rfl,rfl⟩ rfl rfl ?_
 conv=>whnf
 refine aF.same [0,1,6,7] (fun i:Nat=>[(8,.int i)]) (fun i=>i<=l.length/\MZ c l 0=MZ c (l.drop i) i) (fun i=>l.length-i) 0 rfl (by decide) rfl (fun _=>rfl) ⟨by omega,by simp⟩ ⟨⟨_,rfl,rfl⟩,trivial⟩ ?_
 conv=>whnf
 refine⟨rfl,?_⟩
 rintro i ⟨hi,hall⟩
 conv=>whnf
 refine⟨fun h3=>?_,fun h3=>?_⟩
 ·have hi':i<l.length:=by simpa using h3
  rw[bC 0 hi'] at hall
  simp only[MZ] at hall
  conv=>whnf
  refine .mk (by simp only[Rw.rng] at *; first|omega|(simp_all; done)|(simp_all; omega)) ?_
  conv=>whnf
  refine ah.heap (S.aak c (l.getD i 0) (hp _ (getM hi')) hc _) ?_
  rintro t hp ⟨rfl,rfl⟩
  refine⟨.bool _,hF c,rfl,rfl,?_⟩
  conv=>whnf
  refine⟨fun h4=>?_,fun h4=>?_⟩
  ·conv=>whnf
   rw[h4] at hall
   exact jH.ofF rfl rfl rfl ⟨by rw[hall]; rfl,rfl⟩
  ·conv=>whnf
   refine .mk (by simp only[okI] at *; first|omega|(simp_all; done)|(simp_all; omega)) ?_
   conv=>whnf
   rw[h4] at hall
   refine⟨i+1,⟨by omega,hall⟩,by omega,⟨⟨_,rfl,rfl⟩,trivial⟩,?_,rfl⟩
   repeat' (first|exact trivial|exact⟨_,rfl,rfl⟩|constructor)
 ·conv=>whnf
  have hi':l.length<=i:=by simpa using h3
  rw[List.drop_eq_nil_of_le hi'] at hall
  exact jH.ofF rfl rfl rfl ⟨by rw[hall]; rfl,rfl⟩
theorem S.J5(c l:List Int)(f:Bool)(hl:l.length<2^30)(hp:oM c.length l)(hc:c.length<2^30)(n:Nat):aU Tryz.prog 151 (V.aW [.row 0 f (.ints l),.fn 152 [.ptr 1 0 0]]) (hF c).au n (fun t hp=>t= .bool (qJ [] l c)/\hp=(hF c).au):=by
 refine qF.of (nx:=2) Bd.jf (by simp) ⟨_,_,rfl,rfl⟩ rfl rfl ?_
 conv=>whnf
 refine ah.heap (S.RH c l f hl hp hc _) ?_
 rintro t hp ⟨rfl,rfl⟩
 refine⟨.int _,hF c,rfl,rfl,?_⟩
 conv=>whnf
 exact jH.ofF rfl rfl rfl ⟨by rw[show qJ [] l c=_ from aal.symm]; rfl,rfl⟩
theorem VB{c:List Int}{x:Int}(hx:0<=x/\x<c.length):((dR c x).set x.toNat ((dR c x).getD x.toNat 0+1))=c:=by
 have hlt:x.toNat<c.length:=by omega
 have e:(dR c x).getD x.toNat 0=c.getD x.toNat 0-1:=by
  have:=qK (c:=c) (b:=x) hx hx.1
  simpa using this
 rw[e,Int.sub_add_cancel]
 unfold dR
 rw[List.set_set]
 refine List.ext_getElem (by simp) fun i h1 h2=>?_
 rw[List.getElem_set]
 split
 ·rename_i e; subst e; simp[hlt]
 ·rfl
theorem S.lg(l:List Int)(g:Bool)(hl:l.length<2^30): ∀ (each:List (List Int)) (c:List Int) (f:Bool),each.length<2^30->c.length<2^30->yI c->oM c.length l->(∀ s∈each,oM c.length s/\s.length<2^30)->(each.length:Int)<=2->aU Tryz.prog 113 (V.aW [.row 0 f (.lK each),.row 0 g (.ints l),.own 0]) (Hz.au [(0,some (jm c))]) 1 (fun t hp=>t= .bool (qJ each l c)/\hp=Hz.au [(0,some (jm c))]):=by
 intro each
 induction each with
 |nil =>
  intro c f he hc hb hp hs h2
  refine qF.of (nx:=1) (h0:=[(0,some (jm c))]) Bd.lg (by simp) ⟨_,_,rfl,rfl⟩ rfl rfl ?_
  conv=>whnf
  refine Fork.mk (fun _=>?_) (fun q=>absurd (q.symm.trans ((rfl:true=true))) Bool.false_ne_true)
  conv=>whnf
  refine ah.heap (S.J5 c l g hl hp hc _) ?_
  rintro t hp' ⟨rfl,rfl⟩
  refine⟨.bool _,hF c,rfl,rfl,?_⟩
  conv=>whnf
  exact jH.same (nx:=1) rfl ⟨rfl,trivial⟩ rfl rfl ⟨rfl,rfl⟩
 |cons s each ih =>
  intro c f he hc hb hp hs h2
  refine qF.of (nx:=1) (h0:=[(0,some (jm c))]) Bd.lg (by simp) ⟨_,_,rfl,rfl⟩ rfl rfl ?_
  conv=>whnf
  refine Fork.mk (fun q=>absurd (q.symm.trans ((rfl:false=false))).symm Bool.false_ne_true) (fun _=>?_)
  conv=>whnf
  refine .mk (by simp only[Rw.rng] at *; first|omega|(simp_all; done)|(simp_all; omega)) ?_
  conv=>whnf
  conv=>whnf
  obtain⟨hs1,hs2⟩:=hs s (by simp)
  refine aF.lY 2 [0,1,5,18,19] (fun i:Nat=>[(20,.int i)]) (fun _=>[(1,.box 24 0 (.own 0)),(0,jm c)]) (fun i=>i<=s.length/\(s.take i).all (fun x=>c.getD x.toNat 0==0||qJ each l (dR c x))=true) (fun i=>s.length-i) 0 [1,0] rfl (by decide) (fun _=>rfl) ⟨by omega,by simp⟩ ?_ ?_ ?_
  ·exact⟨⟨_,rfl,.eq rfl⟩,trivial⟩
  ·exact⟨⟨rfl,nofun,rfl,rfl,_,rfl,rfl,rfl,bn.of_eq rfl⟩,okF rfl (fun _=>rfl) rfl rfl rfl ⟨rfl,rfl⟩ rfl,trivial⟩
  conv=>whnf
  refine⟨⟨⟨_,rfl,.eq rfl⟩,⟨_,rfl,.eq rfl⟩,⟨_,rfl,.eq rfl⟩,⟨_,rfl,.eq rfl⟩,⟨_,rfl,.eq rfl⟩,trivial⟩,rfl,?_⟩
  rintro i ⟨hi,hall⟩
  conv=>whnf
  refine⟨fun h3=>?_,fun h3=>?_⟩
  ·have hi':i<s.length:=by simpa using h3
   obtain⟨p1,p2⟩:=hs1 _ (getM (d:=0) hi')
   have hg:=hb.g (s.getD i 0).toNat
   have hnext:=mO (d:=0) hi' hall
   have Ug:=fun h=>nN (p:=fun x=>c.getD x.toNat 0==0||qJ each l (dR c x)) (d:=0) hi' h
   conv=>whnf
   repeat(refine VC.mk (by simp only[Rw.rng] at *; first|omega|(simp_all; done)|(simp_all; omega)) ?_; conv=>whnf)
   refine⟨fun h4=>?_,fun h4=>?_⟩
   ·have h4':(c.getD (s.getD i 0).toNat 0==0)=true:=h4
    conv=>whnf
    refine .mk (by simp only[okI] at *; first|omega|(simp_all; done)|(simp_all; omega)) ?_
    conv=>whnf
    refine⟨i+1,[1,0],⟨by omega,?_⟩,by omega,⟨⟨_,rfl,.eq rfl⟩,trivial⟩,⟨⟨_,rfl,.eq rfl⟩,⟨_,rfl,.eq rfl⟩,⟨_,rfl,.eq rfl⟩,⟨_,rfl,.eq rfl⟩,⟨_,rfl,.eq rfl⟩,trivial⟩,⟨rfl,nofun,rfl,rfl,_,rfl,rfl,rfl,bn.of_eq rfl⟩,okF rfl (fun _=>rfl) rfl rfl rfl ⟨rfl,rfl⟩ rfl,trivial⟩
    rw[hnext,h4']; rfl
   have h4':(c.getD (s.getD i 0).toNat 0==0)=false:=h4
   have hnz:c.getD (s.getD i 0).toNat 0≠0:=beq_eq_false_iff_ne.1 h4'
   conv=>whnf
   repeat(refine VC.mk (by first|(first|(simp only[Rw.rng,Int.toNat_natCast]; omega)|(simp only[okI,Int.toNat_natCast]; omega)|(simp only[Rw.lM,List.length_cons]; omega))|(simp only[okI,Rw.rng] at *; first|omega|(simp_all; done)|(simp_all; omega))) ?_; conv=>whnf)
   refine ah.IL (i:=0) (ts:=[.row 0 f (.lK each),.row 0 g (.ints l),.own 0]) (ih (dR c (s.getD i 0)) f (by simp only[List.length_cons] at he; omega) (by simp only[dR,List.length_set]; exact hc) ?_ (by simp only[dR,List.length_set]; exact hp) (fun t ht=>by simp only[dR,List.length_set]; exact hs t (List.mem_cons_of_mem _ ht)) (by simp only[List.length_cons] at h2; omega)) (by rfl) (by rfl) (by rfl) (by rfl) (by rfl) (by rfl) ?_
   ·intro x hx
    have:=List.mem_or_eq_of_mem_set hx
    rcases this with h|rfl
    ·exact hb x h
    ·omega
   rintro t hp' ⟨rfl,rfl⟩
   refine .inl ⟨.bool _,jm (dR c (s.getD i 0)),rfl,rfl,rfl,?_⟩
   have htg:(dR c (s.getD i 0)).getD (s.getD i 0).toNat 0=c.getD (s.getD i 0).toNat 0-1:=by
    have:=qK (c:=c) (b:=s.getD i 0) ⟨p1,p2⟩ p1
    simpa using this
   have hbk:=VB (c:=c) ⟨p1,p2⟩
   have hr2:Rw.rng ((s.getD i 0).toNat:Int) (.ints (dR c (s.getD i 0))):=⟨by omega,by simp only[dR,List.length_set]; omega⟩
   conv=>whnf
   repeat(refine VC.mk (by first|exact hr2|(exact⟨p1,by simp only[dR,List.length_set]; exact p2⟩)|(show okI ((dR c (s.getD i 0)).getD (s.getD i 0).toNat 0+1); rw[htg]; simp only[okI]; omega)) ?_; conv=>whnf)
   refine⟨fun h5=>?_,fun h5=>?_⟩
   ·have h5':qJ each l (dR c (s.getD i 0))=false:=by simpa using h5
    conv=>whnf
    refine jH.same (nx:=1) rfl ⟨congrArg (fun l=>some (jm l)) hbk,trivial⟩ rfl rfl ⟨?_,rfl⟩
    rw[show qJ (s::each) l c=false from Ug (by rw[h4',h5']; rfl)]; rfl
   ·have h5':qJ each l (dR c (s.getD i 0))=true:=by simpa using h5
    conv=>whnf
    refine .mk (by simp only[okI,Rw.rng] at *; first|omega|(simp_all; done)|(simp_all; omega)) ?_
    conv=>whnf
    refine⟨i+1,[1,0],⟨by omega,?_⟩,by omega,⟨⟨_,rfl,.eq rfl⟩,trivial⟩,⟨⟨_,rfl,.eq rfl⟩,⟨_,rfl,.eq rfl⟩,⟨_,rfl,.eq rfl⟩,⟨_,rfl,.eq rfl⟩,⟨_,rfl,.eq rfl⟩,trivial⟩,⟨rfl,nofun,rfl,rfl,_,rfl,rfl,rfl,bn.of_eq rfl⟩,okF rfl (fun _=>rfl) rfl rfl rfl ⟨rfl,rfl⟩ ?_,trivial⟩
    ·rw[hnext,h5',Bool.or_true]
    ·exact congrArg (fun l=>(jm l).aH.l) hbk.symm
  ·have hi':s.length<=i:=by simpa using h3
   rw[List.take_of_length_le hi'] at hall
   conv=>whnf
   exact jH.same (nx:=1) rfl ⟨rfl,trivial⟩ rfl rfl ⟨by rw[show qJ (s::each) l c=true from hall]; rfl,rfl⟩
theorem ah.ab8{P:Program}{f:FuncId}{args:List V}{h:Hz}{n ty k:Nat}{r:Rw}{K:V->Hz->Prop}{KW:Nat->V->Hz->Prop}(H:wu P f (V.aW args) (fun n=>.own n) (some ⟨ty,k,r.aW⟩))(hn:h.get n=none)(hK:KW 0 (.own n) ((n,some (.row ty k r []))::h)):ah P true none f args h n K KW :=
 ⟨.inr (.inr ⟨rfl,rfl,hn,(wu.frame H _ _).mono (by rintro t hp ⟨rfl,rfl⟩; exact⟨.own n,_,rfl,by rw[bK]; simp[mX,OV.aH,V.aW],hK⟩)⟩)⟩
theorem S.mF(k:Clause)(e:Elem)(h:Vw k e)(h0:0<e.counts.length)(hk:k.values.length<2^30):aj Tryz.prog 72 [.dat (.clause k),.dat (.elem e)] (.bool (holdsB k e)):=by
 obtain⟨⟨vals,hcl⟩,hok,hln⟩:=h
 have hS:=hcl.some.len
 have h2:=hcl.two
 refine aj.of Bd.mF (by simp) rfl rfl ?_
 conv=>whnf
 repeat(refine VC.mk (by first|exact id|exact fun h=>⟨h,h⟩) ?_; conv=>whnf)
 refine ah.fG (fun _=>S.slices_Contains_int k.values e.value false (by omega)) rfl ?_
 conv=>whnf
 repeat(refine VC.mk id ?_; conv=>whnf)
 refine⟨fun h1=>?_,fun h1=>?_⟩
 ·conv=>whnf
  exact ak.bool (by rw[holdsB,show KT k e.value=true from h1]; rfl)
 have hfree:KT k e.value=false:=h1
 conv=>whnf
 refine ah.ab8 (r:=.ints e.counts) (S.yP e.counts false h0 (by omega)) rfl ?_
 conv=>whnf
 refine ah.IL (ts:=[.row 0 false (.lK k.each),.row 0 false (.ints k.some),.own 0]) (S.lg k.some false (by omega) k.each e.counts false (by omega) (by omega) hok hcl.some.place (fun s hs=>⟨(hcl.each s hs).1.place,by have:=(hcl.each s hs).1.len; omega⟩) (by omega)) (by rfl) (by rfl) (by rfl) (by rfl) (by rfl) (by rfl) ?_
 rintro t hp' ⟨rfl,rfl⟩
 refine .inl ⟨.bool _,jm e.counts,rfl,rfl,rfl,?_⟩
 conv=>whnf
 exact ak.bool (by rw[holdsB,hfree]; rfl)
theorem VD{α:Type}{P Q:List α}{x z:α}{k:Nat}(h:k=P.length):(P++x::Q).set k z=P++z::Q:=by
 subst h; simp
theorem X3{α:Type}{P Q:List α}{x d:α}{k:Nat}(h:k=P.length):(P++x::Q).getD k d=x:=by
 subst h; simp
theorem Le(l:List Int):T.rM (Rw.ints l).aW=true:=by
 show T.rM (l.map T.int)=true
 induction l with
 |nil=>rfl
 |cons s r ih=>simp only[List.map_cons,T.rM,ih]; rfl
set_option maxHeartbeats 2000000 in
theorem S.eU(p:aX)(n vals m:Nat)(_hp:dn p)(hn:p.states.length=n)(hn0:0<n)(EW:n<=6)(hvs:max 1 p.values.length=vals)(kZ:vals<=3)(hm8:m<=8) :
  aj Tryz.prog 70 [.dat (.bW p),.int m] (.row 3 false (.elems (fJ (m+1) n vals))):=by
 have hb0:0<m+1:=by omega
 have h46:(m+1)^n<=531441:=qQ (by omega) EW
 refine aj.of Bd.eU (by simp) rfl rfl ?_
 conv=>whnf
 refine aF.nil 5 41 3 (by rfl) rfl rfl rfl ?_
 refine aF.objs 2 [1,2,12] (fun v:Nat=>[(13,.int v),(5,.own 1)]) (fun v=>[(0,.box 27 11 (.dat (.bW p))),(1,lT (fJ (m+1) n v))]) (fun v=>v<=vals) (fun v=>vals-v) 0 [0,8] rfl (by decide) (fun _=>rfl) (Nat.zero_le _) ?_ ?_ ?_
 ·exact⟨⟨_,rfl,.eq rfl⟩,⟨_,rfl,.eq rfl⟩,trivial⟩
 ·exact⟨⟨rfl,nofun,rfl,rfl,rfl,_,rfl,rfl,rfl,bn.of_eq rfl⟩,⟨rfl,nofun,rfl,rfl,rfl,_,rfl,rfl,rfl,bn.of_eq rfl⟩,trivial⟩
 conv=>whnf
 refine⟨⟨⟨_,rfl,.eq rfl⟩,⟨_,rfl,.eq rfl⟩,⟨_,rfl,.eq rfl⟩,trivial⟩,rfl,?_⟩
 rintro v hv
 have hrl:(fJ (m+1) n v).length=v*((m+1)^n-1):=qM
 have hr2:v*((m+1)^n-1)<=3*531441:=Nat.mul_le_mul (by omega) (by omega)
 conv=>whnf
 refine⟨fun h3=>?_,fun h3=>?_⟩
 ·have hv':v<vals:=by
   have:(v:Int)<max 1 (p.values.length:Int):=of_decide_eq_true h3
   omega
  conv=>whnf
  have hm:=xC (n:=p.states.length) (by omega)
  rw[hm]
  conv=>whnf
  refine .mk (by omega) ?_
  conv=>whnf
  refine aF.OU 3 [1,2,6,12,13] (fun u:Nat=>[(5,.own 1),(7,.own 2)]) (fun u=>[(0,.box 27 11 (.dat (.bW p))),(1,lT (fJ (m+1) n v++uH (m+1) n v u)),(2,jm (fD (m+1) n u))]) (fun u=>u<(m+1)^n) (fun u=>(m+1)^n-u) 0 [0,1,8] [(0,some (.box 27 11 (.dat (.bW p)))),(1,some (lT (fJ (m+1) n v))),(8,some (jm (List.replicate p.states.length 0)))] rfl (by decide) (fun _=>rfl) (Nat.pow_pos hb0) ?_ ?_ ?_ ?_
  ·exact⟨⟨_,rfl,.eq rfl⟩,⟨_,rfl,.eq rfl⟩,trivial⟩
  ·exact⟨fun _=>False,dW (Z:=fun _=>False) rfl (fun q=>q),dW (Z:=fun _=>False) rfl (fun q=>q),dW (Z:=fun _=>False) rfl (fun q=>q),trivial⟩
  ·exact⟨okF rfl nofun rfl rfl rfl ⟨rfl,rfl⟩ rfl,okF rfl nofun rfl rfl rfl ⟨rfl,rfl⟩ (by simp[uH]),okF rfl nofun rfl rfl rfl ⟨rfl,rfl⟩ (by rw[AV hb0,hn]),trivial⟩
  conv=>whnf
  refine⟨⟨⟨_,rfl,.eq rfl⟩,⟨_,rfl,.eq rfl⟩,⟨_,rfl,.eq rfl⟩,⟨_,rfl,.eq rfl⟩,⟨_,rfl,.eq rfl⟩,trivial⟩,rfl,?_⟩
  rintro u hu
  have hdl:(fD (m+1) n u).length=n:=eF
  conv=>whnf
  refine .mk (by first|(simp only[okI,eF]; omega)|omega) ?_
  conv=>whnf
  refine aF.objs 3 [1,2,6,12,13] (fun k:Nat=>[(8,.int ((n:Int)-1-k)),(5,.own 1),(7,.own 2)]) (fun k=>[(0,.box 27 11 (.dat (.bW p))),(1,lT (fJ (m+1) n v++uH (m+1) n v u)),(2,jm (uw (m+1) n u k))]) (fun k=>k<=n/\u+1=(u / (m+1)^k+1)*(m+1)^k) (fun k=>n-k) 0 [0,1,2] rfl (by decide) (fun _=>rfl) ⟨Nat.zero_le _,by simp⟩ ?_ ?_ ?_
  ·refine⟨⟨_,rfl,.eq ?_⟩,⟨_,rfl,.eq rfl⟩,⟨_,rfl,.eq rfl⟩,trivial⟩
   show T.int ((n:Int)-1-((0:Nat):Int))=T.int (((fD (m+1) n u).length:Int)-1)
   rw[eF]; exact congrArg T.int (by omega)
  ·refine⟨⟨rfl,nofun,rfl,rfl,rfl,_,rfl,rfl,rfl,bn.of_eq rfl⟩,⟨rfl,nofun,rfl,rfl,rfl,_,rfl,rfl,rfl,bn.of_eq rfl⟩,⟨rfl,nofun,rfl,rfl,rfl,_,rfl,rfl,rfl,bn.of_eq ?_⟩,trivial⟩
   rw[Ir]
  conv=>whnf
  refine⟨⟨⟨_,rfl,.eq rfl⟩,⟨_,rfl,.eq rfl⟩,⟨_,rfl,.eq rfl⟩,⟨_,rfl,.eq rfl⟩,⟨_,rfl,.eq rfl⟩,trivial⟩,rfl,?_⟩
  rintro k ⟨hk,hvk⟩
  have hbl:=KU (b:=m+1) (v:=u) hk
  have hcell:k<n->(uw (m+1) n u k).getD (n-1-k) 0=((u / (m+1)^k % (m+1):Nat):Int):=fun hkn=>by
   rw[pO hkn]; exact X3 (by rw[eF]; omega)
  have hti:((n:Int)-1-k).toNat=n-1-k:=by omega
  conv=>whnf
  repeat(refine VC.mk (by first|exact id|exact fun h=>⟨h,h⟩|(intro h; (repeat' apply And.intro)<;>first|exact h|omega|(simp only[Rw.lM]; omega)|(simp only[Rw.rng]; omega))|(simp only[Rw.rng] at *; first|omega|(simp_all; done)|(simp_all; omega))) ?_; conv=>whnf)
  refine⟨fun h6=>?_,fun h6=>?_⟩
  ·rw[Bool.and_eq_true] at h6
   have hkn:k<n:=by have:=of_decide_eq_true h6.1; omega
   have h3:u / (m+1)^k % (m+1)+1=m+1:=by
    have:=beq_iff_eq.1 h6.2
    rw[hti,hcell hkn] at this; omega
   conv=>whnf
   repeat(refine VC.mk (by first|(simp only[okI]; omega)|(simp only[Rw.rng,hbl]; omega)) ?_; conv=>whnf)
   refine⟨k+1,[0,1,2],⟨by omega,Iw hb0 h3 hvk⟩,by omega,⟨⟨_,rfl,.eq ?_⟩,⟨_,rfl,.eq rfl⟩,⟨_,rfl,.eq rfl⟩,trivial⟩,⟨⟨_,rfl,.eq rfl⟩,⟨_,rfl,.eq rfl⟩,⟨_,rfl,.eq rfl⟩,⟨_,rfl,.eq rfl⟩,⟨_,rfl,.eq rfl⟩,trivial⟩,⟨rfl,nofun,rfl,rfl,rfl,_,rfl,rfl,rfl,bn.of_eq rfl⟩,⟨rfl,nofun,rfl,rfl,rfl,_,rfl,rfl,rfl,bn.of_eq rfl⟩,⟨rfl,nofun,rfl,rfl,rfl,_,rfl,rfl,rfl,bn.of_eq ?_⟩,trivial⟩
   ·show T.int ((n:Int)-1-((k+1:Nat):Int))=T.int ((n:Int)-1-(k:Int)-1)
    exact congrArg T.int (by omega)
   ·rw[hti,Iu hkn,pO hkn,VD (by rw[eF]; omega)]
  conv=>whnf
  refine⟨fun h7=>?_,fun h7=>?_⟩
  ·have hkn:k=n:=by have:=of_decide_eq_true h7; omega
   subst hkn
   have hlast:=OQ hu hvk
   have hu':u=(m+1)^k-1:=by omega
   rw[hu',<- AX]
   conv=>whnf
   refine .mk (by first|(simp only[okI]; omega)|omega) ?_
   conv=>whnf
   refine⟨v+1,[0,1],by omega,by omega,⟨⟨_,rfl,.eq rfl⟩,⟨_,rfl,.eq rfl⟩,trivial⟩,⟨⟨_,rfl,.eq rfl⟩,⟨_,rfl,.eq rfl⟩,⟨_,rfl,.eq rfl⟩,trivial⟩,⟨rfl,nofun,rfl,rfl,rfl,_,rfl,rfl,rfl,bn.of_eq rfl⟩,⟨rfl,nofun,rfl,rfl,rfl,_,rfl,rfl,rfl,bn.of_eq rfl⟩,trivial⟩
  ·have hkn:k<n:=by have:=of_decide_eq_false h7; omega
   have h3:u / (m+1)^k % (m+1)+1≠m+1:=by
    rw[Bool.and_eq_false_iff] at h6
    rcases h6 with h6|h6
    ·have:=of_decide_eq_false h6; omega
    ·intro e
     have h6':((uw (m+1) n u k).getD ((n:Int)-1-k).toNat 0==(m:Int))=false:=h6
     rw[hti,hcell hkn] at h6'
     exact beq_eq_false_iff_ne.1 h6' (by omega)
   have hlt4:u / (m+1)^k % (m+1)<m+1:=Nat.mod_lt _ hb0
   have hc0:=hcell hkn
   have huv:(fJ (m+1) n v++uH (m+1) n v u).length<=4*531441:=by rw[List.length_append,Iy]; omega
   have hinc:=KX hb0 hkn h3 hvk
   have hset:(uw (m+1) n u k).set (n-1-k) (((u / (m+1)^k % (m+1):Nat):Int)+1)=fD (m+1) n (u+1):=by
    rw[<- hinc,pO hkn,VD (by rw[eF]; omega)]
   conv=>whnf
   repeat(refine VC.mk (by first|(simp only[okI,hti,hc0]; omega)|(simp only[Rw.rng,hbl]; omega)) ?_; conv=>whnf)
   rw[hti,hc0,hset]
   refine ah.Na (r:=.ints (fD (m+1) n (u+1))) (S.yP (fD (m+1) n (u+1)) false (by rw[eF]; omega) (by rw[eF]; omega)) (And.intro (DV trivial rfl) trivial) (Le _) ?_
   conv=>whnf
   refine .mk (by first|(show((fJ (m+1) n v++uH (m+1) n v u).length+(0+1))*32<=140737488355328/\(fJ (m+1) n v++uH (m+1) n v u).length+(0+1)<=1152921504606846976; omega)|(simp only[kU,kD,Rw.len,List.length_cons,List.length_nil,eF]; omega)) ?_
   conv=>whnf
   refine⟨[(0,some (.box 27 11 (.dat (.bW p)))),(28,some (lT ((fJ (m+1) n v++uH (m+1) n v u)++[⟨(v:Int),fD (m+1) n (u+1)⟩]))),(2,some (jm (fD (m+1) n (u+1))))],u+1,[0,28,2],⟨fun i=>i=25,dW (Z:=fun i=>i=25) (i:=0) rfl (by decide),IJ (Z:=fun i=>i=25) (i:=28) (j:=25) rfl (by decide) rfl rfl,dW (Z:=fun i=>i=25) (i:=2) rfl (by decide),trivial⟩,Ue hb0 hkn hu h3 hvk,by omega,⟨⟨_,rfl,.eq rfl⟩,⟨_,rfl,.eq rfl⟩,trivial⟩,⟨⟨_,rfl,.eq rfl⟩,⟨_,rfl,.eq rfl⟩,⟨_,rfl,.eq rfl⟩,⟨_,rfl,.eq rfl⟩,⟨_,rfl,.eq rfl⟩,trivial⟩,okF rfl nofun rfl rfl rfl ⟨rfl,rfl⟩ rfl,okF rfl nofun rfl rfl rfl ⟨rfl,rfl⟩ ?_,okF rfl nofun rfl rfl rfl ⟨rfl,rfl⟩ rfl,trivial⟩
   rw[KY,<- List.append_assoc]
 ·have hv':v=vals:=by
   have: ¬ (v:Int)<max 1 (p.values.length:Int):=of_decide_eq_false h3
   omega
  rw[hv']
  conv=>whnf
  exact ak.adP rfl
set_option maxHeartbeats 2000000 in
theorem S.VE(z:Nat)(p:aX)(n vals m:Nat)(_hp:dn p)(hn:p.states.length=n)(hn0:0<n)(EW:n<=6)(hvs:max 1 p.values.length=vals)(kZ:vals<=3)(hm8:m<=8) :
  aU Tryz.prog 70 (V.aW [.dat (.bW p),.int m]) (Hz.au []) z (fun t hp=>t= .own z/\hp=Hz.au [(z,some (lT (fJ (m+1) n vals)))]):=by
 have hb0:0<m+1:=by omega
 have h46:(m+1)^n<=531441:=qQ (by omega) EW
 refine qF.of (nx:=0) (h0:=[]) Bd.eU (by simp) ⟨_,_,rfl,rfl⟩ rfl rfl ?_
 conv=>whnf
 refine aF.nil 5 41 3 (by rfl) rfl rfl rfl ?_
 refine aF.objs 2 [1,2,12] (fun v:Nat=>[(13,.int v),(5,.own 1)]) (fun v=>[(0,.box 27 11 (.dat (.bW p))),(1,lT (fJ (m+1) n v))]) (fun v=>v<=vals) (fun v=>vals-v) 0 [0,8] rfl (by decide) (fun _=>rfl) (Nat.zero_le _) ?_ ?_ ?_
 ·exact⟨⟨_,rfl,.eq rfl⟩,⟨_,rfl,.eq rfl⟩,trivial⟩
 ·exact⟨⟨rfl,nofun,rfl,rfl,rfl,_,rfl,rfl,rfl,bn.of_eq rfl⟩,⟨rfl,nofun,rfl,rfl,rfl,_,rfl,rfl,rfl,bn.of_eq rfl⟩,trivial⟩
 conv=>whnf
 refine⟨⟨⟨_,rfl,.eq rfl⟩,⟨_,rfl,.eq rfl⟩,⟨_,rfl,.eq rfl⟩,trivial⟩,rfl,?_⟩
 rintro v hv
 have hrl:(fJ (m+1) n v).length=v*((m+1)^n-1):=qM
 have hr2:v*((m+1)^n-1)<=3*531441:=Nat.mul_le_mul (by omega) (by omega)
 conv=>whnf
 refine⟨fun h3=>?_,fun h3=>?_⟩
 ·have hv':v<vals:=by
   have:(v:Int)<max 1 (p.values.length:Int):=of_decide_eq_true h3
   omega
  conv=>whnf
  have hm:=xC (n:=p.states.length) (by omega)
  rw[hm]
  conv=>whnf
  refine .mk (by omega) ?_
  conv=>whnf
  refine aF.OU 3 [1,2,6,12,13] (fun u:Nat=>[(5,.own 1),(7,.own 2)]) (fun u=>[(0,.box 27 11 (.dat (.bW p))),(1,lT (fJ (m+1) n v++uH (m+1) n v u)),(2,jm (fD (m+1) n u))]) (fun u=>u<(m+1)^n) (fun u=>(m+1)^n-u) 0 [0,1,8] [(0,some (.box 27 11 (.dat (.bW p)))),(1,some (lT (fJ (m+1) n v))),(8,some (jm (List.replicate p.states.length 0)))] rfl (by decide) (fun _=>rfl) (Nat.pow_pos hb0) ?_ ?_ ?_ ?_
  ·exact⟨⟨_,rfl,.eq rfl⟩,⟨_,rfl,.eq rfl⟩,trivial⟩
  ·exact⟨fun _=>False,dW (Z:=fun _=>False) rfl (fun q=>q),dW (Z:=fun _=>False) rfl (fun q=>q),dW (Z:=fun _=>False) rfl (fun q=>q),trivial⟩
  ·exact⟨okF rfl nofun rfl rfl rfl ⟨rfl,rfl⟩ rfl,okF rfl nofun rfl rfl rfl ⟨rfl,rfl⟩ (by simp[uH]),okF rfl nofun rfl rfl rfl ⟨rfl,rfl⟩ (by rw[AV hb0,hn]),trivial⟩
  conv=>whnf
  refine⟨⟨⟨_,rfl,.eq rfl⟩,⟨_,rfl,.eq rfl⟩,⟨_,rfl,.eq rfl⟩,⟨_,rfl,.eq rfl⟩,⟨_,rfl,.eq rfl⟩,trivial⟩,rfl,?_⟩
  rintro u hu
  have hdl:(fD (m+1) n u).length=n:=eF
  conv=>whnf
  refine .mk (by first|(simp only[okI,eF]; omega)|omega) ?_
  conv=>whnf
  refine aF.objs 3 [1,2,6,12,13] (fun k:Nat=>[(8,.int ((n:Int)-1-k)),(5,.own 1),(7,.own 2)]) (fun k=>[(0,.box 27 11 (.dat (.bW p))),(1,lT (fJ (m+1) n v++uH (m+1) n v u)),(2,jm (uw (m+1) n u k))]) (fun k=>k<=n/\u+1=(u / (m+1)^k+1)*(m+1)^k) (fun k=>n-k) 0 [0,1,2] rfl (by decide) (fun _=>rfl) ⟨Nat.zero_le _,by simp⟩ ?_ ?_ ?_
  ·refine⟨⟨_,rfl,.eq ?_⟩,⟨_,rfl,.eq rfl⟩,⟨_,rfl,.eq rfl⟩,trivial⟩
   show T.int ((n:Int)-1-((0:Nat):Int))=T.int (((fD (m+1) n u).length:Int)-1)
   rw[eF]; exact congrArg T.int (by omega)
  ·refine⟨⟨rfl,nofun,rfl,rfl,rfl,_,rfl,rfl,rfl,bn.of_eq rfl⟩,⟨rfl,nofun,rfl,rfl,rfl,_,rfl,rfl,rfl,bn.of_eq rfl⟩,⟨rfl,nofun,rfl,rfl,rfl,_,rfl,rfl,rfl,bn.of_eq ?_⟩,trivial⟩
   rw[Ir]
  conv=>whnf
  refine⟨⟨⟨_,rfl,.eq rfl⟩,⟨_,rfl,.eq rfl⟩,⟨_,rfl,.eq rfl⟩,⟨_,rfl,.eq rfl⟩,⟨_,rfl,.eq rfl⟩,trivial⟩,rfl,?_⟩
  rintro k ⟨hk,hvk⟩
  have hbl:=KU (b:=m+1) (v:=u) hk
  have hcell:k<n->(uw (m+1) n u k).getD (n-1-k) 0=((u / (m+1)^k % (m+1):Nat):Int):=fun hkn=>by
   rw[pO hkn]; exact X3 (by rw[eF]; omega)
  have hti:((n:Int)-1-k).toNat=n-1-k:=by omega
  conv=>whnf
  repeat(refine VC.mk (by first|exact id|exact fun h=>⟨h,h⟩|(intro h; (repeat' apply And.intro)<;>first|exact h|omega|(simp only[Rw.lM]; omega)|(simp only[Rw.rng]; omega))|(simp only[Rw.rng] at *; first|omega|(simp_all; done)|(simp_all; omega))) ?_; conv=>whnf)
  refine⟨fun h6=>?_,fun h6=>?_⟩
  ·rw[Bool.and_eq_true] at h6
   have hkn:k<n:=by have:=of_decide_eq_true h6.1; omega
   have h3:u / (m+1)^k % (m+1)+1=m+1:=by
    have:=beq_iff_eq.1 h6.2
    rw[hti,hcell hkn] at this; omega
   conv=>whnf
   repeat(refine VC.mk (by first|(simp only[okI]; omega)|(simp only[Rw.rng,hbl]; omega)) ?_; conv=>whnf)
   refine⟨k+1,[0,1,2],⟨by omega,Iw hb0 h3 hvk⟩,by omega,⟨⟨_,rfl,.eq ?_⟩,⟨_,rfl,.eq rfl⟩,⟨_,rfl,.eq rfl⟩,trivial⟩,⟨⟨_,rfl,.eq rfl⟩,⟨_,rfl,.eq rfl⟩,⟨_,rfl,.eq rfl⟩,⟨_,rfl,.eq rfl⟩,⟨_,rfl,.eq rfl⟩,trivial⟩,⟨rfl,nofun,rfl,rfl,rfl,_,rfl,rfl,rfl,bn.of_eq rfl⟩,⟨rfl,nofun,rfl,rfl,rfl,_,rfl,rfl,rfl,bn.of_eq rfl⟩,⟨rfl,nofun,rfl,rfl,rfl,_,rfl,rfl,rfl,bn.of_eq ?_⟩,trivial⟩
   ·show T.int ((n:Int)-1-((k+1:Nat):Int))=T.int ((n:Int)-1-(k:Int)-1)
    exact congrArg T.int (by omega)
   ·rw[hti,Iu hkn,pO hkn,VD (by rw[eF]; omega)]
  conv=>whnf
  refine⟨fun h7=>?_,fun h7=>?_⟩
  ·have hkn:k=n:=by have:=of_decide_eq_true h7; omega
   subst hkn
   have hlast:=OQ hu hvk
   have hu':u=(m+1)^k-1:=by omega
   rw[hu',<- AX]
   conv=>whnf
   refine .mk (by first|(simp only[okI]; omega)|omega) ?_
   conv=>whnf
   refine⟨v+1,[0,1],by omega,by omega,⟨⟨_,rfl,.eq rfl⟩,⟨_,rfl,.eq rfl⟩,trivial⟩,⟨⟨_,rfl,.eq rfl⟩,⟨_,rfl,.eq rfl⟩,⟨_,rfl,.eq rfl⟩,trivial⟩,⟨rfl,nofun,rfl,rfl,rfl,_,rfl,rfl,rfl,bn.of_eq rfl⟩,⟨rfl,nofun,rfl,rfl,rfl,_,rfl,rfl,rfl,bn.of_eq rfl⟩,trivial⟩
  ·have hkn:k<n:=by have:=of_decide_eq_false h7; omega
   have h3:u / (m+1)^k % (m+1)+1≠m+1:=by
    rw[Bool.and_eq_false_iff] at h6
    rcases h6 with h6|h6
    ·have:=of_decide_eq_false h6; omega
    ·intro e
     have h6':((uw (m+1) n u k).getD ((n:Int)-1-k).toNat 0==(m:Int))=false:=h6
     rw[hti,hcell hkn] at h6'
     exact beq_eq_false_iff_ne.1 h6' (by omega)
   have hlt4:u / (m+1)^k % (m+1)<m+1:=Nat.mod_lt _ hb0
   have hc0:=hcell hkn
   have huv:(fJ (m+1) n v++uH (m+1) n v u).length<=4*531441:=by rw[List.length_append,Iy]; omega
   have hinc:=KX hb0 hkn h3 hvk
   have hset:(uw (m+1) n u k).set (n-1-k) (((u / (m+1)^k % (m+1):Nat):Int)+1)=fD (m+1) n (u+1):=by
    rw[<- hinc,pO hkn,VD (by rw[eF]; omega)]
   conv=>whnf
   repeat(refine VC.mk (by first|(simp only[okI,hti,hc0]; omega)|(simp only[Rw.rng,hbl]; omega)) ?_; conv=>whnf)
   rw[hti,hc0,hset]
   refine ah.Na (r:=.ints (fD (m+1) n (u+1))) (S.yP (fD (m+1) n (u+1)) false (by rw[eF]; omega) (by rw[eF]; omega)) (And.intro (DV trivial rfl) trivial) (Le _) ?_
   conv=>whnf
   refine .mk (by first|(show((fJ (m+1) n v++uH (m+1) n v u).length+(0+1))*32<=140737488355328/\(fJ (m+1) n v++uH (m+1) n v u).length+(0+1)<=1152921504606846976; omega)|(simp only[kU,kD,Rw.len,List.length_cons,List.length_nil,eF]; omega)) ?_
   conv=>whnf
   refine⟨[(0,some (.box 27 11 (.dat (.bW p)))),(28,some (lT ((fJ (m+1) n v++uH (m+1) n v u)++[⟨(v:Int),fD (m+1) n (u+1)⟩]))),(2,some (jm (fD (m+1) n (u+1))))],u+1,[0,28,2],⟨fun i=>i=25,dW (Z:=fun i=>i=25) (i:=0) rfl (by decide),IJ (Z:=fun i=>i=25) (i:=28) (j:=25) rfl (by decide) rfl rfl,dW (Z:=fun i=>i=25) (i:=2) rfl (by decide),trivial⟩,Ue hb0 hkn hu h3 hvk,by omega,⟨⟨_,rfl,.eq rfl⟩,⟨_,rfl,.eq rfl⟩,trivial⟩,⟨⟨_,rfl,.eq rfl⟩,⟨_,rfl,.eq rfl⟩,⟨_,rfl,.eq rfl⟩,⟨_,rfl,.eq rfl⟩,⟨_,rfl,.eq rfl⟩,trivial⟩,okF rfl nofun rfl rfl rfl ⟨rfl,rfl⟩ rfl,okF rfl nofun rfl rfl rfl ⟨rfl,rfl⟩ ?_,okF rfl nofun rfl rfl rfl ⟨rfl,rfl⟩ rfl,trivial⟩
   rw[KY,<- List.append_assoc]
 ·have hv':v=vals:=by
   have: ¬ (v:Int)<max 1 (p.values.length:Int):=of_decide_eq_false h3
   omega
  rw[hv']
  conv=>whnf
  exact jH.one (c:=z) (j:=1) (o:=lT (fJ (m+1) n vals)) (t:=.own z) rfl rfl rfl nofun (.inr rfl) rfl (.eq rfl) ⟨rfl,rfl⟩
theorem S.VF(p:aX)(n vals m:Nat)(hp:dn p)(hn:p.states.length=n)(hn0:0<n)(EW:n<=6)(hvs:max 1 p.values.length=vals)(kZ:vals<=3)(hm8:m<=8) :
  wu Tryz.prog 70 (V.aW [.dat (.bW p),.int m]) (fun n=>.own n) (some ⟨41,3,(Rw.elems (fJ (m+1) n vals)).aW⟩):=by
 refine⟨V.gW [.dat (.bW p),.int m] rfl,fun _=>rfl,(fun ob h=>by cases h; exact CW _),(fun ob h=>by cases h; exact fun e=>absurd e (by decide:(3:Nat)≠fP)),fun z=>(S.VE z p n vals m hp hn hn0 EW hvs kZ hm8).mono ?_⟩
 rintro t hp ⟨rfl,rfl⟩
 refine⟨rfl,?_⟩
 rw[bK]; simp[mX,OV.aH,V.aW]; rfl
abbrev rowB(l:List Bool):OV:=.row 4 0 (.bools l) []
abbrev wY(l:List Clause)(f:Bool)(m:Nat):OV:=.box 95 4 (.agg [.row 4 f (.clauses l),.int (bI l),.own m])
abbrev wz(es:List (Int×List Bool)):OV:=.map 93 es []
theorem S.jJ(l:List Clause)(f:Bool)(hl:SmallK l):kJ Tryz.prog 55 (V.aW [.row 4 f (.clauses l)]) (Hz.au []) 0 1 (fun t hp=>t= .ptr 0 0 0/\hp=Hz.au [(0,some (wY l f 1)),(1,some (wz []))]):=by
 refine ab9.of Bd.jJ (by simp) rfl rfl rfl ?_
 conv=>whnf
 refine ah.pure (S.nM l f hl) rfl ?_
 conv=>whnf
 exact⟨⟨_,_,_,rfl,by decide,rfl,rfl,rfl⟩⟩
theorem Lh{h:Hz}{j:Nat}{Z:Nat->Prop}{l:List Bool}(hz:Z j)(q:h.get j=some (rowB l)):T.sub Z h.au (V.row 0 false (.bools l)).aI (V.own j).aI:=by
 show T.sub Z h.au (.sl 0 false (l.map T.bool)) (.own j)
 simp only[T.sub]
 refine⟨trivial,hz,?_,by decide,4,?_⟩
 ·rw[gu]; intro t ht; obtain⟨x,_,rfl⟩:=List.mem_map.1 ht; rfl
 ·have:=aJ q; simpa [OV.aH,Rw.aW,V.aW] using this
theorem aam{Z:Nat->Prop}{h:Hz}{i j ty:Nat}{es:List (Int×List Bool)}{k:Int}{row:List Bool}(q:h.get i=some (.map ty es [(k,.own j)]))(hi: ¬ Z i)(hz:Z j)(qj:h.get j=some (rowB row)) :
  ∃ o',h.get i=some o'/\ ¬ Z i/\o'.aH.ty=(OV.map ty (es++[(k,row)]) []).aH.ty/\o'.aH.k=(OV.map ty (es++[(k,row)]) []).aH.k/\T.dG Z h.au (OV.map ty (es++[(k,row)]) []).aH.l o'.aH.l/\(OV.map ty (es++[(k,row)]) []).aH.l.map T.kd=o'.aH.l.map T.kd/\(OV.map ty (es++[(k,row)]) []).aH.l.map iq=o'.aH.l.map iq:=by
 have e1:(OV.map ty (es++[(k,row)]) []).aH.l=es.map Gy++[Gy (k,row)]:=by simp[OV.aH]
 have e2:(OV.map ty es [(k,.own j)]).aH.l=es.map Gy++[X4 (k,.own j)]:=by simp[OV.aH]
 refine⟨_,q,hi,rfl,rfl,?_,?_,?_⟩
 ·rw[e1,e2]
  refine zS (cO _) ⟨?_,trivial⟩
  have:=Lh hz qj
  simp only[V.aI] at this
  show T.sub Z h.au (.fO [.int k,.sl 0 false (row.map T.bool)]) (.fO [.int k,.own j])
  simp only[T.sub,T.dG]
  simp only[T.sub] at this
  exact⟨trivial,this,trivial⟩
 ·rw[e1,e2,List.map_append,List.map_append]; rfl
 ·rw[e1,e2,List.map_append,List.map_append]; rfl
def D5(r:Int)(c:List Int)(i:Nat):List Int:=oU r (c.take i)++List.replicate (c.length-i) 0
theorem Lj{r:Int}{c:List Int}{i:Nat}(hi:i<c.length):(D5 r c i).set i (min (c.getD i 0) r)=D5 r c (i+1):=by
 have e:c.length-i=(c.length-(i+1))+1:=by omega
 unfold D5
 rw[e,List.replicate_succ,VD (by simp[oU]; omega),List.take_add_one,oU,oU,List.map_append,List.append_assoc]
 simp[hi]
theorem OX{r:Int}{c:List Int}{i:Nat}(hi:i<=c.length):(D5 r c i).length=c.length:=by
 simp[D5,oU]; omega
theorem X5{r:Int}{c:List Int}:D5 r c c.length=oU r c:=by simp[D5]
theorem X6{r:Int}{c:List Int}{i:Nat}(hi:i<c.length):(D5 r c (i+1)).getD i 0=min (c.getD i 0) r:=by
 rw[<- Lj hi]
 have:i<(D5 r c i).length:=by rw[OX (by omega)]; exact hi
 simp[List.getD_eq_getElem?_getD,this]
theorem VG{r v:Int}{c:List Int}{i:Nat}(hi:i<c.length):zQ r v (c.take (i+1))=zQ r v (c.take i)*(r+1)+min (c.getD i 0) r:=by
 unfold zQ
 rw[List.take_add_one,List.foldl_append]; simp[hi]
theorem acd{r v:Int}{c:List Int}(hr:0<=r/\r<=3)(hv:0<=v/\v<=1048576)(hc: ∀ x∈c,0<=x)(hl:c.length<=6):0<=zQ r v c/\zQ r v c<=2^40:=by
 have: ∀ (c:List Int) (v:Int) (n:Nat),c.length<=n->(∀ x∈c,0<=x)->0<=v->0<=zQ r v c/\zQ r v c<=(v+1)*4^n:=by
  intro c
  induction c with
  |nil =>
   intro v n _ _ hv
   refine⟨hv,?_⟩
   have:(0:Int)<4^n:=Int.pow_pos (by decide)
   have h2:(v+1)*1<=(v+1)*4^n:=Int.mul_le_mul_of_nonneg_left this (by omega)
   show v<=_; omega
  |cons x c ih =>
   intro v n hn hc hv
   obtain⟨m,rfl⟩: ∃ m,n=m+1:=⟨n-1,by simp only[List.length_cons] at hn; omega⟩
   have hx:=hc x (by simp)
   have h1:0<=v*(r+1):=Int.mul_nonneg hv (by omega)
   have h2:v*(r+1)<=v*4:=Int.mul_le_mul_of_nonneg_left (by omega) hv
   obtain⟨g1,g2⟩:=ih (v*(r+1)+min x r) m (by simp only[List.length_cons] at hn; omega) (fun y hy=>hc y (List.mem_cons_of_mem _ hy)) (by omega)
   refine⟨g1,Int.le_trans g2 ?_⟩
   have e:(v+1)*4^(m+1)=((v+1)*4)*4^m:=by rw[Int.pow_succ,Int.mul_assoc,Int.mul_comm (4^m) 4]
   rw[e]
   refine Int.mul_le_mul_of_nonneg_right (by omega) (Int.pow_nonneg (by decide))
 obtain⟨h1,h2⟩:=this c v 6 hl hc hv.1
 refine⟨h1,Int.le_trans h2 ?_⟩
 have:(v+1)*4^6<=1048577*4^6:=Int.mul_le_mul_of_nonneg_right (by omega) (by decide)
 exact Int.le_trans this (by decide)
abbrev hT(l:List Clause)(f:Bool)(es:List (Int×List Bool)):Hz:=[(0,some (wY l f 1)),(1,some (wz es))]
theorem jH.BU{l:List Clause}{f:Bool}{es es':List (Int×List Bool)}{h:Hz}{n:Nat}{v u:V}{post:T->Hp->Prop}(Z:Nat->Prop)(F:JV Z h (hT l f es'))(hu:u.free=true)(hv:T.sub Z h.au u.aI v.aI)(hp:post u.aI (hT l f es').au):jH (hT l f es) n post v h:=by
 refine jH.Xt (h2:=hT l f es') (u:=u) Z F ?_ hu hv hp
 intro i o ho
 have hG:=qR (show xO 2 (hT l f es')=true from rfl) i o.aH (aJ ho)
 refine⟨?_,T.ay (fun i hi=>?_) _ hG.2.1,hG.2.2⟩
 ·match i,hG.1 with
  |0,_=>rfl
  |1,_=>rfl
  |k+2,hk=>exact absurd hk (by omega)
 ·match i,hi with
  |0,_=>rfl
  |1,_=>rfl
  |k+2,hk=>exact absurd hk (by omega)
structure J6(l:List Clause)(e:Elem):Prop where
 cl: ∃ vals,∀ k∈l,CS e.counts.length vals k
 ok:yI e.counts
 len:0<e.counts.length/\e.counts.length<=6
 val:0<=e.value/\e.value<=1048576
theorem J6.three{l:List Clause}{e:Elem}(h:J6 l e):bI l<=3:=by
 obtain⟨vals,hc⟩:=h.cl
 exact pz fun k hk=>(hc k hk).two
theorem J6.low{l:List Clause}{e:Elem}(h:J6 l e){i:Nat}(hi:i<l.length):Vw (l.getD i default) (oD (bI l) e):=by
 obtain⟨vals,hc⟩:=h.cl
 have hr:=qL (l:=l)
 refine⟨⟨vals,?_⟩,fun x hx=>?_,?_⟩
 ·have:(oD (bI l) e).counts.length=e.counts.length:=by simp[oD,oU]
  rw[this]; exact hc _ (getM hi)
 ·obtain⟨y,hy,rfl⟩:=List.mem_map.1 hx
  have:=h.ok y hy; omega
 ·simp[oD,oU]; exact h.len.2
theorem J6.row{l:List Clause}{e:Elem}(h:J6 l e):fE l (oD (bI l) e)=fE l e:=by
 obtain⟨vals,hc⟩:=h.cl
 exact aai hc ⟨rfl,fun x hx=>(h.ok x hx).1⟩
theorem VH{l:List Clause}{e:Elem}{i:Nat}(hi:i<l.length):fE (l.take (i+1)) e=fE (l.take i) e++[holdsB (l.getD i default) e]:=by
 unfold fE
 rw[List.take_add_one,List.map_append]; simp[hi]
set_option maxHeartbeats 1000000 in
theorem S.VI(l:List Clause)(f:Bool)(es:List (Int×List Bool))(e:Elem)(hl:SmallK l)(ht:J6 l e)(hg:gB e.counts.length l es):aU Tryz.prog 58 (V.aW [.ptr 0 0 0,.dat (.elem e)]) (Hz.au (hT l f es)) 2 (fun t hp=> ∃ es',gB e.counts.length l es'/\t=(V.row 0 false (.bools (fE l e))).aI/\hp=Hz.au (hT l f es')):=by
 have hr0:=qL (l:=l)
 have hr3:=ht.three
 obtain⟨hn0,EW⟩:=ht.len
 obtain⟨hv0,hv1⟩:=ht.val
 refine qF.of (nx:=2) (h0:=hT l f es) Bd.nO (by simp) ⟨_,_,es,hg,rfl,rfl⟩ rfl rfl ?_
 conv=>whnf
 have hm:=xC (n:=e.counts.length) hn0
 rw[hm]
 conv=>whnf
 refine .mk (by omega) ?_
 conv=>whnf
 refine aF.lY 100 [0,3,5,23,24] (fun i:Nat=>[(25,.int i),(6,.int (zQ (bI l) e.value (e.counts.take i)))]) (fun i=>[(0,wY l f 1),(1,wz es),(2,.box 41 3 (.dat (.elem e))),(9,jm (D5 (bI l) e.counts i)),(11,.box 41 3 (.agg [.int e.value,.own 9]))]) (fun i=>i<=e.counts.length) (fun i=>e.counts.length-i) 0 [0,1,2,9,11] rfl (by decide) (fun _=>rfl) (Nat.zero_le _) ?_ ?_ ?_
 ·exact⟨⟨_,rfl,.eq rfl⟩,⟨_,rfl,.eq rfl⟩,trivial⟩
 ·exact⟨⟨rfl,(fun _=>rfl),rfl,rfl,_,rfl,rfl,rfl,bn.of_eq rfl⟩,okF rfl (fun _=>rfl) rfl rfl rfl ⟨rfl,rfl⟩ rfl,okF rfl nofun rfl rfl rfl ⟨rfl,rfl⟩ rfl,okF rfl nofun rfl rfl rfl ⟨rfl,rfl⟩ (by simp[D5,oU]),⟨rfl,nofun,rfl,rfl,_,rfl,rfl,rfl,bn.of_eq rfl⟩,trivial⟩
 conv=>whnf
 refine⟨⟨⟨_,rfl,.eq rfl⟩,⟨_,rfl,.eq rfl⟩,⟨_,rfl,.eq rfl⟩,⟨_,rfl,.eq rfl⟩,⟨_,rfl,.eq rfl⟩,trivial⟩,rfl,?_⟩
 rintro i hi
 have hll:=OX (r:=bI l) hi
 have hkb:=acd (r:=bI l) (c:=e.counts.take i) ⟨hr0,hr3⟩ ht.val (fun x hx=>(ht.ok x (List.mem_of_mem_take hx)).1) (by rw[List.length_take]; omega)
 conv=>whnf
 refine⟨fun h3=>?_,fun h3=>?_⟩
 ·have hi':i<e.counts.length:=by simpa using h3
  have hset:=Lj (r:=bI l) hi'
  have hget:=X6 (r:=bI l) hi'
  have hkn:=VG (r:=bI l) (v:=e.value) hi'
  have hge:=ht.ok.get hi'
  have hm1:0<=zQ (bI l) e.value (e.counts.take i)*(bI l+1):=Int.mul_nonneg hkb.1 (by omega)
  have hm2:zQ (bI l) e.value (e.counts.take i)*(bI l+1)<=zQ (bI l) e.value (e.counts.take i)*4:=Int.mul_le_mul_of_nonneg_left (by omega) hkb.1
  conv=>whnf
  repeat(refine VC.mk (by first|(first|(simp only[Rw.rng,Int.toNat_natCast,List.length_set,hll]; omega)|(simp only[okI,Int.toNat_natCast]; omega))|(simp only[okI] at *; first|omega|(simp_all; done)|(simp_all; omega))) ?_; conv=>whnf)
  refine⟨i+1,[0,1,2,9,11],by omega,by omega,⟨⟨_,rfl,.eq rfl⟩,⟨_,rfl,.eq ?_⟩,trivial⟩,⟨⟨_,rfl,.eq rfl⟩,⟨_,rfl,.eq rfl⟩,⟨_,rfl,.eq rfl⟩,⟨_,rfl,.eq rfl⟩,⟨_,rfl,.eq rfl⟩,trivial⟩,⟨rfl,(fun _=>rfl),rfl,rfl,_,rfl,rfl,rfl,bn.of_eq rfl⟩,okF rfl (fun _=>rfl) rfl rfl rfl ⟨rfl,rfl⟩ rfl,okF rfl nofun rfl rfl rfl ⟨rfl,rfl⟩ rfl,okF rfl nofun rfl rfl rfl ⟨rfl,rfl⟩ ?_,⟨rfl,nofun,rfl,rfl,_,rfl,rfl,rfl,bn.of_eq rfl⟩,trivial⟩
  ·show T.int _=T.int (zQ (bI l) e.value (e.counts.take i)*(bI l+1)+((D5 (bI l) e.counts i).set i (min (e.counts.getD i 0) (bI l))).getD i 0)
   rw[hset,hget,hkn]
  ·show(jm (D5 (bI l) e.counts (i+1))).aH.l=(jm ((D5 (bI l) e.counts i).set i (min (e.counts.getD i 0) (bI l)))).aH.l
   rw[hset]
 have hi':i=e.counts.length:=by have:e.counts.length<=i:=(by simpa using h3); omega
 subst hi'
 rw[X5,List.take_length]
 have hkey:zQ (bI l) e.value e.counts=keyE (bI l) e:=rfl
 rw[hkey]
 have hel:Vo e.counts.length e:=⟨rfl,fun x hx=>(ht.ok x hx).1⟩
 conv=>whnf
 refine ace.mk (fun row hrow=>?_) (fun hnone=>?_)
 ·obtain rfl:=hg e hel row hrow
  conv=>whnf
  refine Fork.mk (fun q=>absurd (q.symm.trans ((rfl:false=false))).symm Bool.false_ne_true) (fun _=>?_)
  conv=>whnf
  conv=>whnf
  exact jH.BU (es':=es) (u:=.row 0 false (.bools (fE l e))) (fun _=>False) ⟨dW (Z:=fun _=>False) rfl (fun q=>q),dW (Z:=fun _=>False) rfl (fun q=>q),trivial⟩ rfl (aC _) ⟨es,hg,rfl,rfl⟩
 conv=>whnf
 refine Fork.mk (fun _=>?_) (fun q=>absurd (q.symm.trans ((rfl:true=true))) Bool.false_ne_true)
 conv=>whnf
 conv=>whnf
 have hk1:=hl.len
 refine aF.nil 9 4 0 (by rfl) rfl rfl rfl ?_
 refine aF.lY 200 [0,5,6,68,69] (fun i:Nat=>[(70,.int i),(9,.own 12)]) (fun i=>[(0,wY l f 1),(1,wz es),(2,.box 41 3 (.dat (.elem e))),(9,jm (oU (bI l) e.counts)),(11,.box 41 3 (.agg [.int e.value,.own 9])),(12,rowB (fE (l.take i) (oD (bI l) e)))]) (fun i=>i<=l.length) (fun i=>l.length-i) 0 [0,1,2,9,11,120] rfl (by decide) (fun _=>rfl) (Nat.zero_le _) ?_ ?_ ?_
 ·exact⟨⟨_,rfl,.eq rfl⟩,⟨_,rfl,.eq rfl⟩,trivial⟩
 ·exact⟨⟨rfl,(fun _=>rfl),rfl,rfl,_,rfl,rfl,rfl,bn.of_eq rfl⟩,okF rfl (fun _=>rfl) rfl rfl rfl ⟨rfl,rfl⟩ rfl,okF rfl nofun rfl rfl rfl ⟨rfl,rfl⟩ rfl,okF rfl nofun rfl rfl rfl ⟨rfl,rfl⟩ rfl,⟨rfl,nofun,rfl,rfl,_,rfl,rfl,rfl,bn.of_eq rfl⟩,okF rfl nofun rfl rfl rfl ⟨rfl,rfl⟩ rfl,trivial⟩
 conv=>whnf
 refine⟨⟨⟨_,rfl,.eq rfl⟩,⟨_,rfl,.eq rfl⟩,⟨_,rfl,.eq rfl⟩,⟨_,rfl,.eq rfl⟩,⟨_,rfl,.eq rfl⟩,trivial⟩,rfl,?_⟩
 rintro i hi
 have hrl:(fE (l.take i) (oD (bI l) e)).length=i:=by rw[iV,List.length_take]; omega
 conv=>whnf
 refine⟨fun h4=>?_,fun h4=>?_⟩
 ·have hi2:i<l.length:=by simpa using h4
  have hfit:=ht.low hi2
  have hrn:=VH (e:=oD (bI l) e) hi2
  have hv:=(hl.cl i).values
  conv=>whnf
  refine .mk (by first|(simp only[Rw.rng]; omega)|(simp only[okI,Int.toNat_natCast]; omega)) ?_
  conv=>whnf
  refine ah.lend (S.mF (l.getD i default) (oD (bI l) e) hfit (by simp[oD,oU]; exact hn0) hv) ⟨aC _,ab7 trivial rfl,trivial⟩ rfl rfl ?_
  conv=>whnf
  repeat(refine VC.mk (by first|(first|(simp only[kU,kD,Rw.len,List.length_cons,List.length_nil,hrl]; omega)|(show((fE (l.take i) (oD (bI l) e)).length+(0+1))*1<=140737488355328/\(fE (l.take i) (oD (bI l) e)).length+(0+1)<=1152921504606846976; omega))|(simp only[okI] at *; first|omega|(simp_all; done)|(simp_all; omega))) ?_; conv=>whnf)
  refine⟨i+1,[0,1,2,9,11,210],by omega,by omega,⟨⟨_,rfl,.eq rfl⟩,⟨_,rfl,.eq rfl⟩,trivial⟩,⟨⟨_,rfl,.eq rfl⟩,⟨_,rfl,.eq rfl⟩,⟨_,rfl,.eq rfl⟩,⟨_,rfl,.eq rfl⟩,⟨_,rfl,.eq rfl⟩,trivial⟩,⟨rfl,(fun _=>rfl),rfl,rfl,_,rfl,rfl,rfl,bn.of_eq rfl⟩,okF rfl (fun _=>rfl) rfl rfl rfl ⟨rfl,rfl⟩ rfl,okF rfl nofun rfl rfl rfl ⟨rfl,rfl⟩ rfl,okF rfl nofun rfl rfl rfl ⟨rfl,rfl⟩ rfl,⟨rfl,nofun,rfl,rfl,_,rfl,rfl,rfl,bn.of_eq rfl⟩,okF rfl nofun rfl rfl rfl ⟨rfl,rfl⟩ ?_,trivial⟩
  rw[hrn]
 ·have hi3:i=l.length:=by have:l.length<=i:=(by simpa using h4); omega
  subst hi3
  rw[List.take_length,ht.row]
  conv=>whnf
  refine .mk (by omega) ?_
  conv=>whnf
  exact jH.BU (es':=es++[(keyE (bI l) e,fE l e)]) (u:=.row 0 false (.bools (fE l e))) (fun i=>i=12) ⟨dW (Z:=fun i=>i=12) rfl (by decide),aam (Z:=fun i=>i=12) (j:=12) rfl (by decide) rfl rfl,trivial⟩ rfl (Lh rfl rfl) ⟨_,ht.cl.elim fun _ hc=>hg.add hc hel,rfl,rfl⟩
abbrev VJ(r:Rule)(e:Elem):List V:=Dat.cells (.rule r)++Dat.cells (.elem e)
def D6(r:Rule)(e:Elem):Bool:=e.counts.getD r.fr.toNat 0==0||(decide (0<=r.read)&&r.read !=e.value)
theorem wG{r:Rule}{e:Elem}:(decide (0<=r.read)&&e.value !=r.read||e.counts.getD r.fr.toNat 0==0)=D6 r e:=by
 unfold D6
 rw[Bool.or_comm]
 congr 2
 rw[bne,bne,Bool.beq_comm]
theorem S.IQ(r:Rule)(e:Elem)(hp:wW e.counts.length r)(h:D6 r e=true):aj Tryz.prog 167 [.agg (VJ r e)] (.fO [.row 0 true (.ints []),.bool false]):=by
 obtain⟨f1,f2⟩:=hp.src
 refine aj.of Bd.jw (by simp) rfl rfl ?_
 conv=>whnf
 repeat(refine VC.mk (by first|exact id|exact fun h=>⟨h,h⟩|(intro h; rw[h]; rfl)|(intro h; simp_all; done)|(simp only[Rw.rng] at *; omega)) ?_; conv=>whnf)
 refine Fork.mk (fun _=>?_) (fun q=>absurd (q.symm.trans (h)) Bool.false_ne_true)
 conv=>whnf
 exact ak.eqv rfl
theorem S.RI(r:Rule)(e:Elem)(hp:wW e.counts.length r)(hc:yI e.counts)(hl:e.counts.length<=6)(h:D6 r e=false)(n:Nat):aU Tryz.prog 167 (V.aW [.agg (VJ r e)]) (Hz.au []) n (fun t hp=>t= .fO [.own n,.bool true]/\hp=Hz.au [(n,some (jm (aP e.counts r.fr)))]):=by
 obtain⟨f1,f2⟩:=hp.src
 have hfr:=hc.get (i:=r.fr.toNat) (by omega)
 refine qF.of (nx:=0) (h0:=[]) Bd.jw (by simp) ⟨_,_,rfl,rfl⟩ rfl rfl ?_
 conv=>whnf
 repeat(refine VC.mk (by first|exact id|exact fun h=>⟨h,h⟩|(intro h; rw[h]; rfl)|(intro h; simp_all; done)|(simp only[Rw.rng] at *; omega)) ?_; conv=>whnf)
 refine Fork.mk (fun q=>absurd (q.symm.trans (h)).symm Bool.false_ne_true) (fun _=>?_)
 conv=>whnf
 conv=>whnf
 refine ah.mkRow (r:=.ints e.counts) (S.yP e.counts false (by omega) (by omega)) ?_
 conv=>whnf
 repeat(refine VC.mk (by first|(simp only[Rw.rng]; omega)|(simp only[okI]; omega)) ?_; conv=>whnf)
 exact jH.one (c:=n) (j:=30) (o:=jm (aP e.counts r.fr)) (t:=.fO [.own n,.bool true]) rfl rfl rfl nofun (.inr rfl) ⟨rfl,trivial,trivial⟩ (.eq rfl) ⟨rfl,rfl⟩
theorem S.VK(r:Rule)(e:Elem)(hp:wW e.counts.length r)(hc:yI e.counts)(hl:e.counts.length<=6)(h:D6 r e=false):wu Tryz.prog 167 (V.aW [.agg (VJ r e)]) (fun n=>.fO [.own n,.bool true]) (some ⟨3,0,(Rw.ints (aP e.counts r.fr)).aW⟩):=by
 refine⟨V.gW [.agg (VJ r e)] rfl,fun _=>⟨rfl,trivial,trivial⟩,(fun ob h=>by cases h; rw[gu]; intro t ht; obtain⟨x,_,rfl⟩:=List.mem_map.1 ht; rfl),(fun ob h=>by cases h; exact fun e=>absurd e (by decide:(0:Nat)≠fP)),fun n=>(S.RI r e hp hc hl h n).mono ?_⟩
 rintro t hp ⟨rfl,rfl⟩
 refine⟨rfl,?_⟩
 rw[bK]; simp[mX,OV.aH,V.aW]; rfl
theorem ah.others{r:Rule}{e:Elem}{h:Hz}{n:Nat}{K:V->Hz->Prop}{KW:Nat->V->Hz->Prop}(hp:wW e.counts.length r)(hc:yI e.counts)(hl:e.counts.length<=6)(hs:D6 r e=false)(hK:K (.fO [.own n,.bool true]) ((n,some (jm (aP e.counts r.fr)))::h)):ah Tryz.prog false none 167 [.agg (VJ r e)] h n K KW :=
 ah.heap (wu.frame (S.VK r e hp hc hl hs) _ _) (by rintro t hp ⟨rfl,rfl⟩; exact⟨.fO [.own n,.bool true],_,rfl,by rw[bK]; simp[mX,OV.aH,V.aW],hK⟩)
def BJ(r:Rule)(e:Elem):Int:=bif decide (r.write>=0) then r.write else e.value
theorem S.Nb(r:Rule)(e:Elem)(c:List Int):aU Tryz.prog 168 (V.aW [.agg (VJ r e),.own 0]) (Hz.au [(0,some (jm c))]) 1 (fun t hp=>t= .agg [.int (BJ r e),.own 0]/\hp=Hz.au [(0,some (jm c))]):=by
 refine qF.of (nx:=1) (h0:=[(0,some (jm c))]) Bd.lU (by simp) ⟨_,_,rfl,rfl⟩ rfl rfl ?_
 conv=>whnf
 refine⟨fun h1=>?_,fun h1=>?_⟩
 ·conv=>whnf
  refine jH.one (c:=0) (j:=0) (o:=jm c) (t:=.agg [.int (BJ r e),.own 0]) rfl rfl rfl (fun _=>rfl) (.inl rfl) ⟨trivial,rfl,trivial⟩ ?_ ⟨rfl,rfl⟩
  rw[BJ,show decide (r.write>=0)=true from h1]; exact .eq rfl
 ·conv=>whnf
  refine jH.one (c:=0) (j:=0) (o:=jm c) (t:=.agg [.int (BJ r e),.own 0]) rfl rfl rfl (fun _=>rfl) (.inl rfl) ⟨trivial,rfl,trivial⟩ ?_ ⟨rfl,rfl⟩
  rw[BJ,show decide (r.write>=0)=false from h1]; exact .eq rfl
def zE:Elem:=⟨0,[]⟩
theorem ak.noneE{h:Hz}:ak (.fO [.dat (.elem zE),.bool false]) (.fO [.agg [.int 0,.row 0 true .nil],.bool false]) h:=⟨by
 show T.sub _ _ (.fO [.agg [.int 0,.sl 0 false []],.bool false]) (.fO [.agg [.int 0,.sl 0 true []],.bool false])
 simp[T.sub,T.dG]⟩
theorem ak.X7{h:Hz}{j:Nat}{v:Int}{l:List Int}{b:Bool}(q:h.get j=some (jm l)):ak (.fO [.dat (.elem ⟨v,l⟩),.bool b]) (.fO [.agg [.int v,.own j],.bool b]) h:=⟨by
 have:=DV (Z:=fun _=>True) trivial q
 show T.sub _ h.au (.fO [.agg [.int v,.sl 0 false (l.map T.int)],.bool b]) (.fO [.agg [.int v,.own j],.bool b])
 replace this:T.sub (fun _=>True) h.au (.sl 0 false (l.map T.int)) (.own j):=this
 simp only[T.sub] at this
 simp only[T.sub,T.dG]
 exact⟨⟨trivial,this,trivial⟩,trivial,trivial⟩⟩
theorem ah.result{r:Rule}{e:Elem}{c:List Int}{h:Hz}{i n:Nat}{K:V->Hz->Prop}{KW:Nat->V->Hz->Prop}(hi:h.get i=some (jm c))(hn:h.get n=none)(hK:K (.agg [.int (BJ r e),.own i]) ((i,some (jm c))::h)):ah Tryz.prog false none 168 [.agg (VJ r e),.own i] h n K KW:=by
 refine ah.IL (ts:=[.agg (VJ r e),.own 0]) (S.Nb r e c) rfl rfl rfl rfl hi hn ?_
 rintro t hp ⟨rfl,rfl⟩
 exact .inl ⟨.agg [.int (BJ r e),.own i],jm c,rfl,rfl,rfl,hK⟩
theorem S.RJ(r:Rule)(e:Elem)(hp:wW e.counts.length r)(hc:yI e.counts)(hl:e.counts.length<=6)(hk:r.kind=2): ∃ x,aj Tryz.prog 146 [.agg (VJ r e)] (.fO [.dat (.elem x),.bool (bH r e).isSome])/\ ∀ y,bH r e=some y->x=y:=by
 obtain⟨d1,d2⟩:=hp.dst
 obtain⟨p1,p2⟩:=hp.adM
 obtain⟨q1,q2⟩:=hp.adN
 have hl1:(aP e.counts r.fr).length=e.counts.length:=by simp[aP]
 have hB:=hc.b.dec (by omega) r.fr
 have hB1:=hB.get (by omega) r.gJ.toNat
 have hB2:=hB.dec (by omega) r.gJ
 have hB3:=hB2.get (by omega) r.BH.toNat
 have hB4:=hB2.add (by omega) r.BH 1 (k:=1) ⟨by omega,by omega⟩
 have hB5:=hB4.get (by omega) r.to.toNat
 cases hs:D6 r e with
 |true =>
  have hf:bH r e=none:=by rw[bH,wG,hs]; rfl
  refine⟨zE,?_,fun y hy=>by rw[hf] at hy; cases hy⟩
  rw[hf]
  refine aj.of Bd.iM (by simp) rfl rfl ?_
  conv=>whnf
  refine ah.pure (S.IQ r e hp hs) rfl ?_
  conv=>whnf
  repeat(refine VC.mk (by first|exact id|(intro h; rw[h]; rfl)|(intro h; simp_all; done)) ?_; conv=>whnf)
  refine Fork.mk (fun _=>?_) (fun q=>absurd (q.symm.trans ((rfl:true=true))) Bool.false_ne_true)
  conv=>whnf
  exact ak.noneE
 |false =>
  cases h6:(aP e.counts r.fr).getD r.gJ.toNat 0==0 with
  |true =>
   have hf:bH r e=none:=by rw[bH,wG,hs,hk]; simp only[cond_false]; rw[show((2:Int)==1)=false from rfl,show((2:Int)==2)=true from rfl,h6]; rfl
   refine⟨zE,?_,fun y hy=>by rw[hf] at hy; cases hy⟩
   rw[hf]
   refine aj.of Bd.iM (by simp) rfl rfl ?_
   conv=>whnf
   refine ah.others hp hc hl hs ?_
   conv=>whnf
   repeat(refine VC.mk (by first|exact id|(intro h; rw[h]; rfl)|(intro h; (repeat' apply And.intro)<;>first|exact h|omega|(simp only[Rw.lM]; omega)|(simp only[Rw.rng]; omega))) ?_; conv=>whnf)
   refine Fork.mk (fun _=>?_) (fun q=>absurd (q.symm.trans (h6)) Bool.false_ne_true)
   conv=>whnf
   exact ak.noneE
  |false =>
   have hf:bH r e=some ⟨BJ r e,fA (fA (aP (aP e.counts r.fr) r.gJ) r.BH 1) r.to 1⟩:=by rw[bH,wG,hs,hk]; simp only[cond_false]; rw[show((2:Int)==1)=false from rfl,show((2:Int)==2)=true from rfl,h6]; rfl
   refine⟨_,?_,fun y hy=>by rw[hf] at hy; exact Option.some.inj hy⟩
   rw[hf]
   refine aj.of Bd.iM (by simp) rfl rfl ?_
   conv=>whnf
   refine ah.others hp hc hl hs ?_
   conv=>whnf
   repeat(refine VC.mk (by first|exact id|(intro h; rw[h]; rfl)|(intro h; (repeat' apply And.intro)<;>first|exact h|omega|(simp only[Rw.lM]; omega)|(simp only[Rw.rng]; omega))) ?_; conv=>whnf)
   refine Fork.mk (fun q=>absurd (q.symm.trans (h6)).symm Bool.false_ne_true) (fun _=>?_)
   conv=>whnf
   repeat(refine VC.mk (by simp only[okI,Rw.rng] at *; omega) ?_; conv=>whnf)
   conv=>whnf
   repeat(refine VC.mk (by first|(simp only[Rw.rng,List.length_set,hl1]; omega)|(simp only[okI,aP,fA] at *; omega)) ?_; conv=>whnf)
   refine ah.result (c:=fA (fA (aP (aP e.counts r.fr) r.gJ) r.BH 1) r.to 1) rfl rfl ?_
   conv=>whnf
   exact ak.X7 rfl
theorem adQ{x:Int}(h:0<=x):decide (x>0)= !(x==0):=by
 by_cases e:x=0
 ·subst e; rfl
 ·rw[beq_eq_false_iff_ne.2 e,decide_eq_true (by omega)]; rfl
theorem S.OY(r:Rule)(e:Elem)(hr:vk r)(hp:wW e.counts.length r)(hc:yI e.counts)(hl:e.counts.length<=6)(hk:r.kind=1): ∃ x,aj Tryz.prog 145 [.agg (VJ r e)] (.fO [.dat (.elem x),.bool (bH r e).isSome])/\ ∀ y,bH r e=some y->x=y:=by
 obtain⟨d1,d2⟩:=hp.dst
 have hl1:(aP e.counts r.fr).length=e.counts.length:=by simp[aP]
 have hB:=hc.b.dec (by omega) r.fr
 have hB5:=hB.get (by omega) r.to.toNat
 have ha1:=hr.all; have hx1:=hr.ex
 cases hs:D6 r e with
 |true =>
  have hf:bH r e=none:=by rw[bH,wG,hs]; rfl
  refine⟨zE,?_,fun y hy=>by rw[hf] at hy; cases hy⟩
  rw[hf]
  refine aj.of Bd.jU (by simp) rfl rfl ?_
  conv=>whnf
  refine ah.pure (S.IQ r e hp hs) rfl ?_
  conv=>whnf
  refine Fork.mk (fun _=>?_) (fun q=>absurd (q.symm.trans ((rfl:true=true))) Bool.false_ne_true)
  conv=>whnf
  exact ak.noneE
 |false =>
  have hpos: ∀ i,0<=(aP e.counts r.fr).getD i 0:=fun i=>TW hc (by rw[wG]; exact hs) i
  have abC:bH r e=bif !(oN r (aP e.counts r.fr)) then none else some ⟨BJ r e,fA (aP e.counts r.fr) r.to 1⟩:=by
   rw[bH,wG,hs,hk]; rfl
  refine⟨bif rP r.all (aP e.counts r.fr) (aP e.counts r.fr).length then zE else⟨BJ r e,fA (aP e.counts r.fr) r.to 1⟩,?_,fun y hy=>?_⟩
  rotate_left
  ·rw[abC] at hy
   cases ha:oN r (aP e.counts r.fr) with
   |false=>rw[ha] at hy; cases hy
   |true =>
    rw[ha] at hy
    have hb:rP r.all (aP e.counts r.fr) (aP e.counts r.fr).length=false:=by
     unfold oN at ha; rw[Bool.and_eq_true] at ha; simpa using ha.1
    rw[hb]; exact Option.some.inj hy
  have hsome:(bH r e).isSome=oN r (aP e.counts r.fr):=by
   rw[abC]; cases oN r (aP e.counts r.fr)<;>rfl
  rw[hsome]
  refine aj.of Bd.jU (by simp) rfl rfl ?_
  conv=>whnf
  refine ah.others hp hc hl hs ?_
  conv=>whnf
  refine Fork.mk (fun q=>absurd (q.symm.trans ((rfl:false=false))).symm Bool.false_ne_true) (fun _=>?_)
  conv=>whnf
  conv=>whnf
  refine aF.same [1,2,4,22,23] (fun i:Nat=>[(24,.int i),(6,.bool (vw r.ex (aP e.counts r.fr) i))]) (fun i=>i<=(aP e.counts r.fr).length/\rP r.all (aP e.counts r.fr) i=false) (fun i=>(aP e.counts r.fr).length-i) 0 rfl (by decide) rfl (fun _=>rfl) ⟨by omega,by simp[rP]⟩ ⟨⟨_,rfl,rfl⟩,⟨_,rfl,by simp[vw]; rfl⟩,trivial⟩ ?_
  conv=>whnf
  refine⟨rfl,?_⟩
  rintro i ⟨hi,hb⟩
  conv=>whnf
  refine⟨fun h3=>?_,fun h3=>?_⟩
  ·have hi':i<(aP e.counts r.fr).length:=by simpa using h3
   have hbn:=Rk (al:=r.all) (c:=aP e.counts r.fr) (i:=i)
   have hfn:=Rj (ex:=r.ex) (c:=aP e.counts r.fr) (i:=i)
   have hg:=adQ (hpos i)
   conv=>whnf
   repeat(refine VC.mk (by first|(simp only[Rw.rng,Int.toNat_natCast]; omega)|exact fun h=>h|exact fun h=>⟨h,h⟩) ?_; conv=>whnf)
   refine ah.fG (fun _=>S.slices_Contains_int r.all i false (by omega)) rfl ?_
   conv=>whnf
   repeat(refine VC.mk id ?_; conv=>whnf)
   refine⟨fun h4=>?_,fun h4=>?_⟩
   ·have h4':(decide (0<(aP e.counts r.fr).getD i 0)&&decide (0<(r.all.length:Int))&& !GZ r.all i)=true:=h4
    rw[Bool.and_assoc,Bool.and_eq_true] at h4'
    have hbl:=XF (al:=r.all) hi' (by have:=hg.symm.trans h4'.1; simpa using this) h4'.2
    rw[hbl,show oN r (aP e.counts r.fr)=false by rw[oN,hbl]; rfl]
    conv=>whnf
    exact ak.noneE
   ·have h4':(decide (0<(aP e.counts r.fr).getD i 0)&&decide (0<(r.all.length:Int))&& !GZ r.all i)=false:=h4
    have hb2:rP r.all (aP e.counts r.fr) (i+1)=false:=by
     rw[hbn,hb,Bool.false_or,<- hg,<- h4',Bool.and_assoc]
    conv=>whnf
    repeat(refine VC.mk (by first|exact id|exact fun h=>⟨h,h⟩) ?_; conv=>whnf)
    refine ah.fG (fun _=>S.slices_Contains_int r.ex i false (by omega)) rfl ?_
    conv=>whnf
    repeat(refine VC.mk (by first|(intro h; rw[h]; rfl)|(intro h; simp[h]; done)|(simp only[okI] at *; first|omega|(simp_all; done)|(simp_all; omega))) ?_; conv=>whnf)
    refine⟨i+1,⟨by omega,hb2⟩,by omega,⟨⟨_,rfl,rfl⟩,⟨_,rfl,?_⟩,trivial⟩,?_,rfl⟩
    ·rw[hfn,<- hg]
     rfl
    ·repeat' (first|exact trivial|exact⟨_,rfl,rfl⟩|constructor)
  ·have hi':i=(aP e.counts r.fr).length:=by have:(aP e.counts r.fr).length<=i:=(by simpa using h3); omega
   subst hi'
   rw[hb]
   have hal:oN r (aP e.counts r.fr)=vw r.ex (aP e.counts r.fr) (aP e.counts r.fr).length:=by rw[oN,hb]; rfl
   rw[hal]
   conv=>whnf
   repeat(refine VC.mk (by first|(simp only[Rw.rng,hl1]; omega)|(simp only[okI,aP,fA] at *; omega)) ?_; conv=>whnf)
   refine ah.result (c:=fA (aP e.counts r.fr) r.to 1) rfl rfl ?_
   conv=>whnf
   exact ak.X7 rfl
theorem S.Gz(r:Rule)(e:Elem)(hp:wW e.counts.length r)(hc:yI e.counts)(hl:e.counts.length<=6)(hk:r.kind=3): ∃ x,aj Tryz.prog 147 [.agg (VJ r e)] (.fO [.dat (.elem x),.bool (bH r e).isSome])/\ ∀ y,bH r e=some y->x=y:=by
 obtain⟨d1,d2⟩:=hp.dst
 obtain⟨rs1,rs2⟩:=hp.rsp hk
 have hl1:(aP e.counts r.fr).length=e.counts.length:=by simp[aP]
 have hB:=hc.b.dec (by omega) r.fr
 cases hs:D6 r e with
 |true =>
  have hf:bH r e=none:=by rw[bH,wG,hs]; rfl
  refine⟨zE,?_,fun y hy=>by rw[hf] at hy; cases hy⟩
  rw[hf]
  refine aj.of Bd.gY (by simp) rfl rfl ?_
  conv=>whnf
  refine ah.pure (S.IQ r e hp hs) rfl ?_
  conv=>whnf
  refine Fork.mk (fun _=>?_) (fun q=>absurd (q.symm.trans ((rfl:true=true))) Bool.false_ne_true)
  conv=>whnf
  exact ak.noneE
 |false =>
  have hf:bH r e=some ⟨BJ r e,fA (kE r (aP e.counts r.fr) (aP e.counts r.fr).length) r.to 1⟩:=by rw[bH,wG,hs,hk]; rfl
  refine⟨_,?_,fun y hy=>by rw[hf] at hy; exact Option.some.inj hy⟩
  rw[hf]
  refine aj.of Bd.gY (by simp) rfl rfl ?_
  conv=>whnf
  refine ah.others hp hc hl hs ?_
  conv=>whnf
  refine Fork.mk (fun q=>absurd (q.symm.trans ((rfl:false=false))).symm Bool.false_ne_true) (fun _=>?_)
  conv=>whnf
  conv=>whnf
  have hm:=xC (n:=(aP e.counts r.fr).length) (by have:=hp.src; omega)
  rw[hm]
  conv=>whnf
  refine .mk (by omega) ?_
  conv=>whnf
  refine aF.objs 60 [1,2,4,20,21] (fun i:Nat=>[(22,.int i),(6,.own 14)]) (fun i=>[(0,.box 154 21 (.agg (VJ r e))),(1,.box 41 3 (.agg [.int 0,.row 0 true .nil])),(4,jm (aP e.counts r.fr)),(14,jm (kE r (aP e.counts r.fr) i))]) (fun i=>i<=(aP e.counts r.fr).length) (fun i=>(aP e.counts r.fr).length-i) 0 [0,1,4,14] rfl (by decide) (fun _=>rfl) (Nat.zero_le _) ?_ ?_ ?_
  ·exact⟨⟨_,rfl,.eq rfl⟩,⟨_,rfl,.eq rfl⟩,trivial⟩
  ·exact⟨⟨rfl,nofun,rfl,rfl,rfl,_,rfl,rfl,rfl,bn.of_eq rfl⟩,⟨rfl,nofun,rfl,rfl,rfl,_,rfl,rfl,rfl,bn.of_eq rfl⟩,⟨rfl,nofun,rfl,rfl,rfl,_,rfl,rfl,rfl,bn.of_eq rfl⟩,⟨rfl,nofun,rfl,rfl,rfl,_,rfl,rfl,rfl,bn.of_eq rfl⟩,trivial⟩
  conv=>whnf
  refine⟨⟨⟨_,rfl,.eq rfl⟩,⟨_,rfl,.eq rfl⟩,⟨_,rfl,.eq rfl⟩,⟨_,rfl,.eq rfl⟩,⟨_,rfl,.eq rfl⟩,trivial⟩,rfl,?_⟩
  rintro i hi
  have EW:(i:Int)*1048577<=6*1048577:=Int.mul_le_mul_of_nonneg_right (by omega) (by omega)
  have hn0:0<=(i:Int)*1048577:=Int.mul_nonneg (by omega) (by omega)
  have hRB:=XH hB (by omega) (r:=r) i
  have hRl:(kE r (aP e.counts r.fr) i).length=e.counts.length:=by rw[vC,hl1]
  conv=>whnf
  refine⟨fun g1=>?_,fun g1=>?_⟩
  ·have hi':i<(aP e.counts r.fr).length:=by simpa using g1
   have hir:i<r.response.length:=by omega
   obtain⟨q1,q2⟩:0<=r.response.getD i 0/\r.response.getD i 0<e.counts.length:=by
    rw[show r.response.getD i 0=r.response[i] by simp[hir]]; exact rs2 _ (List.getElem_mem hir)
   have hR1:=hRB.get hn0 (r.response.getD i 0).toNat
   have hR2:=hB.get (by omega) i
   conv=>whnf
   repeat(refine VC.mk (by first|(first|(simp only[Rw.rng,vC]; omega)|(simp only[okI,aP,fA,Int.toNat_natCast] at *; omega))|(simp only[Rw.rng] at *; first|omega|(simp_all; done)|(simp_all; omega))) ?_; conv=>whnf)
   refine⟨i+1,[0,1,4,14],by omega,by omega,⟨⟨_,rfl,.eq rfl⟩,⟨_,rfl,.eq rfl⟩,trivial⟩,⟨⟨_,rfl,.eq rfl⟩,⟨_,rfl,.eq rfl⟩,⟨_,rfl,.eq rfl⟩,⟨_,rfl,.eq rfl⟩,⟨_,rfl,.eq rfl⟩,trivial⟩,⟨rfl,nofun,rfl,rfl,rfl,_,rfl,rfl,rfl,bn.of_eq rfl⟩,⟨rfl,nofun,rfl,rfl,rfl,_,rfl,rfl,rfl,bn.of_eq rfl⟩,⟨rfl,nofun,rfl,rfl,rfl,_,rfl,rfl,rfl,bn.of_eq rfl⟩,⟨rfl,nofun,rfl,rfl,rfl,_,rfl,rfl,rfl,bn.of_eq ?_⟩,trivial⟩
   rw[xE]; rfl
  have hi':i=(aP e.counts r.fr).length:=by have:(aP e.counts r.fr).length<=i:=(by simpa using g1); omega
  subst hi'
  have hR1:=hRB.get hn0 r.to.toNat
  conv=>whnf
  repeat(refine VC.mk (by first|(simp only[Rw.rng,vC]; omega)|(simp only[okI,aP,fA,Int.toNat_natCast] at *; omega)) ?_; conv=>whnf)
  refine ah.result (c:=fA (kE r (aP e.counts r.fr) (aP e.counts r.fr).length) r.to 1) rfl rfl ?_
  conv=>whnf
  exact ak.X7 rfl
def zT(k:Int):FuncId:=bif k==1 then 145 else bif k==2 then 146 else 147
theorem S.iG(k:Int):aj Tryz.prog 105 [.int k] (.fn (zT k) []):=by
 refine aj.of Bd.iG (by simp) rfl rfl ?_
 conv=>whnf
 refine⟨fun h1=>?_,fun h1=>?_⟩
 ·conv=>whnf
  refine ak.eqv ?_
  rw[zT,show(k==1)=true from h1]; rfl
 ·conv=>whnf
  refine⟨fun h2=>?_,fun h2=>?_⟩
  ·conv=>whnf
   refine ak.eqv ?_
   rw[zT,show(k==1)=false from h1,show(k==2)=true from h2]; rfl
  ·conv=>whnf
   refine ak.eqv ?_
   rw[zT,show(k==1)=false from h1,show(k==2)=false from h2]; rfl
theorem S.apply(r:Rule)(e:Elem)(hr:vk r)(hp:wW e.counts.length r)(hc:yI e.counts)(hl:e.counts.length<=6)(hk:r.kind=1\/r.kind=2\/r.kind=3): ∃ x,aj Tryz.prog (zT r.kind) [.agg (VJ r e)] (.fO [.dat (.elem x),.bool (bH r e).isSome])/\ ∀ y,bH r e=some y->x=y:=by
 rcases hk with h|h|h
 ·rw[show zT r.kind=145 by rw[zT,h]; rfl]; exact S.OY r e hr hp hc hl h
 ·rw[show zT r.kind=146 by rw[zT,h]; rfl]; exact S.RJ r e hp hc hl h
 ·rw[show zT r.kind=147 by rw[zT,h]; rfl]; exact S.Gz r e hp hc hl h
def E8(l:List Bool):Int:=bif decide (l.findIdx (fun b=> !b)<l.length) then(l.findIdx (fun b=> !b):Nat) else -1
theorem Nc{l:List Bool}{i:Nat}(h:(l.take i).all id=true)(hi:i<=l.length):l.findIdx (fun b=> !b)=i+(l.drop i).findIdx (fun b=> !b):=by
 induction i generalizing l with
 |zero=>simp
 |succ i ih =>
  cases l with
  |nil=>simp at hi
  |cons b l =>
   simp only[List.take_succ_cons,List.all_cons,id,Bool.and_eq_true] at h
   rw[List.findIdx_cons,h.1,List.drop_succ_cons]
   simp only[Bool.not_true,cond_false]
   rw[ih h.2 (by simpa using hi)]; omega
theorem S.IU(l:List Bool)(f:Bool)(hl:l.length<2^30):aj Tryz.prog 57 [.row 0 f (.bools l),.bool false] (.int (E8 l)):=by
 refine aj.of Bd.lq (by simp) rfl rfl ?_
 conv=>whnf
 refine aF.same [0,1,6,7] (fun i:Nat=>[(8,.int i)]) (fun i=>i<=l.length/\(l.take i).all id=true) (fun i=>l.length-i) 0 rfl (by decide) rfl (fun _=>rfl) ⟨by omega,by simp⟩ ⟨⟨_,rfl,rfl⟩,trivial⟩ ?_
 conv=>whnf
 refine⟨rfl,?_⟩
 rintro i ⟨hi,hall⟩
 have hfd:=Nc hall hi
 conv=>whnf
 refine⟨fun h3=>?_,fun h3=>?_⟩
 ·have hi':i<l.length:=by simpa using h3
  rw[bC false hi',List.findIdx_cons] at hfd
  conv=>whnf
  refine .mk (by simp only[Rw.rng] at *; first|omega|(simp_all; done)|(simp_all; omega)) ?_
  conv=>whnf
  refine⟨fun h4=>?_,fun h4=>?_⟩
  ·have h4':l.getD i false=false:=by
    have h5:(false==l.getD i false)=true:=h4
    cases hb:l.getD i false with
    |false=>rfl
    |true=>rw[hb] at h5; cases h5
   conv=>whnf
   refine ak.int ?_
   rw[h4'] at hfd
   have acf:l.findIdx (fun b=> !b)=i:=hfd
   rw[E8,acf,decide_eq_true hi']; rfl
  ·have h4':l.getD i false=true:=by
    have h5:(false==l.getD i false)=false:=h4
    cases hb:l.getD i false with
    |true=>rfl
    |false=>rw[hb] at h5; cases h5
   conv=>whnf
   refine .mk (by simp only[okI] at *; first|omega|(simp_all; done)|(simp_all; omega)) ?_
   conv=>whnf
   refine⟨i+1,⟨by omega,?_⟩,by omega,⟨⟨_,rfl,rfl⟩,trivial⟩,?_,rfl⟩
   ·rw[mO (d:=false) hi' hall]; exact h4'
   ·repeat' (first|exact trivial|exact⟨_,rfl,rfl⟩|constructor)
 ·have hi':l.length<=i:=by simpa using h3
  rw[List.drop_eq_nil_of_le hi'] at hfd
  have acf:l.findIdx (fun b=> !b)=i:=hfd
  conv=>whnf
  refine ak.int ?_
  rw[E8,acf,decide_eq_false (by omega)]; rfl
theorem S.kR(l:List Bool)(n:Nat)(f g:Bool)(hl:l.length<2^30)(hn:l.length<=n):aj Tryz.prog 106 [.row 0 f (.bools l),.row 0 g (.bools (List.replicate n false))] (.bool (l.all id)):=by
 refine aj.of Bd.kR (by simp) rfl rfl ?_
 conv=>whnf
 refine aF.same [1,7,8] (fun i:Nat=>[(9,.int i)]) (fun i=>i<=l.length/\(l.take i).all id=true) (fun i=>l.length-i) 0 rfl (by decide) rfl (fun _=>rfl) ⟨by omega,by simp⟩ ⟨⟨_,rfl,rfl⟩,trivial⟩ ?_
 conv=>whnf
 refine⟨rfl,?_⟩
 rintro i ⟨hi,hall⟩
 conv=>whnf
 refine⟨fun h3=>?_,fun h3=>?_⟩
 ·have hi':i<l.length:=by simpa using h3
  have hd:(List.replicate n false).getD i false=false:=by simp[List.getD_eq_getElem?_getD,show i<n by omega]
  conv=>whnf
  repeat(refine VC.mk (by first|(first|(intro _; simp only[Rw.rng,List.length_replicate]; omega)|(simp only[Rw.rng,List.length_replicate]; omega))|exact fun h=>h|(simp only[Rw.rng] at *; first|omega|(simp_all; done)|(simp_all; omega))) ?_; conv=>whnf)
  refine⟨fun h4=>?_,fun h4=>?_⟩
  ·have h4':l.getD i false=false:=by
    have h5:(!(l.getD i false)&& !((List.replicate n false).getD i false))=true:=h4
    rw[hd] at h5; simpa using h5
   conv=>whnf
   exact ak.bool (nN (p:=id) (d:=false) hi' h4')
  ·have h4':l.getD i false=true:=by
    have h5:(!(l.getD i false)&& !((List.replicate n false).getD i false))=false:=h4
    rw[hd] at h5; simpa using h5
   conv=>whnf
   refine .mk (by simp only[okI] at *; first|omega|(simp_all; done)|(simp_all; omega)) ?_
   conv=>whnf
   refine⟨i+1,⟨by omega,?_⟩,by omega,⟨⟨_,rfl,rfl⟩,trivial⟩,?_,rfl⟩
   ·rw[mO (d:=false) hi' hall]; exact h4'
   ·repeat' (first|exact trivial|exact⟨_,rfl,rfl⟩|constructor)
 ·have hi':l.length<=i:=by simpa using h3
  rw[List.take_of_length_le hi'] at hall
  conv=>whnf
  exact ak.bool hall
theorem Nh(l:List Clause):T.dD (l.map og)=true:=by
 rw[gu]; intro t ht; obtain⟨x,_,rfl⟩:=List.mem_map.1 ht; rfl
abbrev Oy(l:List Clause):OV:=.row 59 4 (.clauses l) []
theorem abz{h:Hz}{j:Nat}{l:List Clause}{Z:Nat->Prop}(hz:Z j)(q:h.get j=some (Oy l)):T.sub Z h.au (V.row 4 false (.clauses l)).aI (V.own j).aI:=by
 show T.sub Z h.au (.sl 4 false (l.map og)) (.own j)
 simp only[T.sub]
 refine⟨trivial,hz,Nh l,by decide,59,?_⟩
 have:=aJ q; simpa [OV.aH,Rw.aW,V.aW] using this
theorem ak.X8{h:Hz}{j:Nat}{l:List Clause}(q:h.get j=some (Oy l)):ak (.row 4 false (.clauses l)) (.own j) h:=⟨abz trivial q⟩
theorem S.iH(l a:List Clause)(f g:Bool)(hl:l.length<2^20)(ha:a.length<2^20):aj Tryz.prog 68 [.row 4 f (.clauses l),.row 4 g (.clauses a)] (.row 4 false (.clauses (l++a))):=by
 refine aj.of Bd.iH (by simp) rfl rfl ?_
 conv=>whnf
 refine .mk (by simp only[Rw.lM]; omega) ?_
 conv=>whnf
 rw[show decide ((l.length:Int)=l.length)=true from decide_eq_true rfl]
 conv=>whnf
 have ht:(l.take (l.length:Int).toNat)=l:=List.take_length
 have hcap:kU 72 (Rw.take (l.length:Int).toNat (Rw.clauses l)).len (kD (Rw.clauses a) []):=by
  show((l.take (l.length:Int).toNat).length+(a.length+0))*72<=140737488355328/\(l.take (l.length:Int).toNat).length+(a.length+0)<=1152921504606846976
  rw[ht]; omega
 by_cases ha0:a=[]
 ·subst ha0
  refine RN.both hcap ?_ ⟨rfl,?_⟩
  ·conv=>whnf
   refine ak.X8 ?_
   show some (Oy (l.take (l.length:Int).toNat++[]))=_
   rw[ht]
  ·conv=>whnf
   refine ak.row ?_
   show Rw.clauses (l++[])=Rw.clauses (l.take (l.length:Int).toNat)
   rw[ht,List.append_nil]
 ·refine RN.one ⟨.inr ?_,hcap⟩ ?_
  ·have:=List.length_pos_iff.2 ha0
   show 0<a.length+0; omega
  ·conv=>whnf
   refine ak.X8 ?_
   show some (Oy (l.take (l.length:Int).toNat++a))=_
   rw[ht]
def Ll(b:Int)(c:List Int):Prop:= ∀ x∈c,0<=x/\x<=b
theorem Ll.g{b:Int}{c:List Int}(h:Ll b c)(hb:0<=b)(i:Nat):0<=c.getD i 0/\c.getD i 0<=b:=by
 by_cases hi:i<c.length
 ·rw[show c.getD i 0=c[i] by simp[hi]]; exact h _ (List.getElem_mem hi)
 ·rw[show c.getD i 0=0 by simp[List.getD_eq_getElem?_getD,List.getElem?_eq_none (by omega:c.length<=i)]]; omega
theorem Ll.add{b k d i:Int}{c:List Int}(h:Ll b c)(hb:0<=b)(hd:0<=d/\d<=k):Ll (b+k) (fA c i d):=by
 intro x hx
 have hg:=h.g hb i.toNat
 rcases List.mem_or_eq_of_mem_set hx with hx|rfl
 ·have:=h x hx; omega
 ·omega
theorem Ll.dec{b i:Int}{c:List Int}(h:Ll b c)(hb:0<=b)(h0:(c.getD i.toNat 0==0)=false):Ll b (aP c i):=by
 intro x hx
 have hg:=h.g hb i.toNat
 have:=beq_eq_false_iff_ne.1 h0
 rcases List.mem_or_eq_of_mem_set hx with hx|rfl
 ·exact h x hx
 ·omega
theorem Ll.resp{b:Int}{c:List Int}{r:Rule}(h:Ll b c)(hb:0<=b): ∀ i:Nat,Ll (i*b) (kE r c i):=by
 intro i
 induction i with
 |zero=>intro x hx; have:=List.eq_of_mem_replicate hx; subst this; simp
 |succ i ih =>
  rw[xE]
  have h0:0<=(i:Int)*b:=Int.mul_nonneg (by omega) hb
  have:=ih.add h0 (h.g hb i) (i:=r.response.getD i 0)
  have e:((i+1:Nat):Int)*b=i*b+b:=by rw[Int.natCast_succ,Int.add_mul,Int.one_mul]
  rw[e]; exact this
theorem Ll.mono{b k:Int}{c:List Int}(h:Ll b c)(hk:b<=k):Ll k c:=fun x hx=>by have:=h x hx; omega
theorem G6{r:Rule}{e x:Elem}(hc:Ll 8 e.counts)(hl:e.counts.length<=6)(h:bH r e=some x):yI x.counts:=by
 have lift: ∀ {c:List Int} {v:Int},Ll 100 c->some (⟨v,fA c r.to 1⟩:Elem)=some x->yI x.counts:=by
  intro c v hc h; cases h
  exact(hc.add (k:=1) (by omega) ⟨by omega,by omega⟩).mono (by omega)
 unfold bH at h
 cases hs:(decide (0<=r.read)&&e.value !=r.read||e.counts.getD r.fr.toNat 0==0) with
 |true=>rw[hs] at h; cases h
 |false =>
  rw[hs] at h
  rw[Bool.or_eq_false_iff] at hs
  have h1:Ll 8 (aP e.counts r.fr):=hc.dec (by omega) hs.2
  simp only[cond_false] at h
  rcases iC h with h|h
  ·rcases iC h with h|h
   ·cases h
   ·exact lift (h1.mono (by omega)) h
  ·cases hp:(aP e.counts r.fr).getD r.gJ.toNat 0==0 with
   |true =>
    rw[hp] at h
    rcases iC h with h|h
    ·cases h
    ·rcases iC h with h|h
     ·refine lift ((h1.resp (by omega) (r:=r) (aP e.counts r.fr).length).mono ?_) h
      rw[rU]
      have:(e.counts.length:Int)*8<=6*8:=Int.mul_le_mul_of_nonneg_right (by omega) (by omega)
      omega
     ·exact lift (h1.mono (by omega)) h
   |false =>
    rw[hp] at h
    rcases iC h with h|h
    ·exact lift (((h1.dec (by omega) hp).add (k:=1) (by omega) ⟨by omega,by omega⟩).mono (by omega)) h
    ·rcases iC h with h|h
     ·refine lift ((h1.resp (by omega) (r:=r) (aP e.counts r.fr).length).mono ?_) h
      rw[rU]
      have:(e.counts.length:Int)*8<=6*8:=Int.mul_le_mul_of_nonneg_right (by omega) (by omega)
      omega
     ·exact lift (h1.mono (by omega)) h
theorem IV{r:Rule}{e x:Elem}(h:bH r e=some x):x.value=BJ r e:=by
 have lift: ∀ {c:List Int},some (⟨bif decide (r.write>=0) then r.write else e.value,c⟩:Elem)=some x->x.value=BJ r e:=by
  intro c h; cases h; rfl
 unfold bH at h
 rcases iC h with h|h
 ·cases h
 rcases iC h with h|h
 ·rcases iC h with h|h
  ·cases h
  ·exact lift h
 rcases iC h with h|h
 ·rcases iC h with h|h
  ·cases h
  ·exact lift h
 rcases iC h with h|h
 ·exact lift h
 ·exact lift h
theorem OZ: ∀ {l:List Int},wX l=true->l.Pairwise (· < ·):=by
 intro l
 induction l with
 |nil=>intro _; exact List.Pairwise.nil
 |cons x r ih =>
  intro h
  cases r with
  |nil=>exact List.pairwise_singleton _ _
  |cons y r =>
   simp only[wX,Bool.and_eq_true,decide_eq_true_eq] at h
   have h2:=ih h.2
   refine List.pairwise_cons.2 ⟨fun z hz=>?_,h2⟩
   rcases List.mem_cons.1 hz with rfl|hz
   ·exact h.1
   ·have:=(List.pairwise_cons.1 h2).1 z hz; omega
theorem RP{l:List Int}{n:Nat}(h:dO l n=0):F8 n l:=by
 refine⟨AQ h,OZ ?_⟩
 unfold dO at h
 cases ha:l.any fun i=>nK i n with
 |true=>rw[ha] at h; cases h
 |false =>
  rw[ha] at h
  cases hi:wX l with
  |true=>rfl
  |false=>rw[hi] at h; cases h
theorem adR{p:aX}{k:Clause}(h:xA p k=0):CS p.states.length p.values.length k:=by
 unfold xA at h
 obtain⟨h1,h⟩:=bz (fun _=>by decide) h
 obtain⟨h2,h⟩:=bz nz h
 obtain⟨h3,h4⟩:=bz nz h
 refine⟨by have:=of_decide_eq_false h1; omega,fun s hs=>?_,RP (by simpa using h3),RP h4⟩
 have:=je (by simpa using h2) (oK p.states.length s) (List.mem_map.2 ⟨s,hs,rfl⟩)
 unfold oK at this
 obtain⟨g1,g2⟩:=bz nz this
 refine⟨RP (by simpa using g1),fun e=>?_⟩
 subst e; exact absurd g2 (by decide)
structure jg(n vals:Nat)(l:List Clause):Prop where
 cl: ∀ k∈l,CS n vals k
 len:l.length<=1000
theorem CX{p:aX}{l:List Clause}(h:kP p l=0):jg p.states.length p.values.length l/\l.length<=160:=by
 unfold kP at h
 obtain⟨h1,h⟩:=bz (fun _=>by decide) h
 have h1':l.length<=160:=by have:=of_decide_eq_false h1; omega
 exact⟨⟨fun k hk=>adR (je h _ (List.mem_map.2 ⟨k,hk,rfl⟩)),by omega⟩,h1'⟩
theorem CS.small{n vals:Nat}{k:Clause}(h:CS n vals k)(hn:n<=6)(hv:vals<=3):ug k:=by
 have h1:=h.two
 have h2:=h.values.len
 have h3:=h.some.len
 refine⟨by omega,fun i=>?_,by omega,by omega⟩
 by_cases hi:i<k.each.length
 ·have:=(h.each _ (getM (d:=[]) hi)).1.len; omega
 ·rw[show k.each.getD i []=[] by simp[List.getD_eq_getElem?_getD,List.getElem?_eq_none (by omega:k.each.length<=i)]]; decide
theorem jg.small{n vals:Nat}{l:List Clause}(h:jg n vals l)(hn:n<=6)(hv:vals<=3):SmallK l:=by
 have:=h.len
 refine⟨by omega,fun i=>?_⟩
 by_cases hi:i<l.length
 ·exact(h.cl _ (getM hi)).small hn hv
 ·rw[show l.getD i default=default by simp[List.getD_eq_getElem?_getD,List.getElem?_eq_none (by omega:l.length<=i)]]
  exact⟨by decide,fun i=>by show(([]:List (List Int)).getD i []).length<2^30; rw[List.getD_nil]; decide,by decide,by decide⟩
theorem jg.tab{n vals:Nat}{l:List Clause}{e:Elem}(h:jg n vals l)(hl:e.counts.length=n)(hc:yI e.counts)(hn0:0<n)(EW:n<=6)(hv:0<=e.value/\e.value<=1048576):J6 l e :=
 ⟨⟨vals,by rw[hl]; exact h.cl⟩,hc,⟨by omega,by omega⟩,hv⟩
theorem uy.nn{b n vals:Nat}{e:Elem}(h:uy b n vals e)(hb:b<=9):Ll 8 e.counts:=fun x hx=>by have:=h.rng x hx; omega
theorem uy.yI{b n vals:Nat}{e:Elem}(h:uy b n vals e)(hb:b<=9):yI e.counts:=fun x hx=>by have:=h.rng x hx; omega
theorem jg.at{n vs vals:Nat}{l:List Clause}{b:Nat}{e:Elem}(h:jg n vs l)(he:uy b n vals e)(hb:b<=9)(hv:vals<=3)(hn0:0<n)(EW:n<=6):J6 l e :=
 h.tab he.len (he.yI hb) hn0 EW ⟨he.val.1,by have:=he.val.2; omega⟩
theorem jg.app{n vals:Nat}{l a:List Clause}(h:jg n vals l)(g:jg n vals a)(hs:l.length+a.length<=1000):jg n vals (l++a) :=
 ⟨fun k hk=>(List.mem_append.1 hk).elim (h.cl k) (g.cl k),by rw[List.length_append]; exact hs⟩
theorem jg.fit{n vs:Nat}{l:List Clause}{e:Elem}(h:jg n vs l)(hl:e.counts.length=n)(hc:yI e.counts)(EW:n<=6)(hv:vs<=3){i:Nat}(hi:i<l.length):Vw (l.getD i default) e/\(l.getD i default).values.length<2^30:=by
 have hk:=h.cl _ (getM (d:=default) hi)
 refine⟨⟨⟨vs,by rw[hl]; exact hk⟩,hc,by omega⟩,?_⟩
 have:=hk.values.len; omega
end Go.Proofs.YtifbibbicplneaaGreatDoor
