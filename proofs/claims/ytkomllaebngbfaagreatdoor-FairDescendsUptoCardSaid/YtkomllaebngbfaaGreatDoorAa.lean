/-
 fair and its reference: families, kinds, rules. No condition.
-/
import Derived.Test.YtkomllaebngbfaaGreatDoorFa
import Derived.Test.YtkomllaebngbfaaGreatDoorRb
namespace Go.Proofs.YtkomllaebngbfaaGreatDoor
open Go.Ab Go.Proofs
set_option maxRecDepth 100000
def qG(p:aJ):Int:=bif bV p !=0 then bV p else bif (mQ p).monadic then 0 else 7
theorem cf1(p:aJ):qG p=bif ((bV p==0)&& !(bif bV p !=0 then KZ else mQ p).monadic) then 7 else bV p:=by
 unfold qG bne
 cases hz:bV p==0 with
 |true =>
  simp only[Bool.not_true,cond_false,Bool.true_and]
  cases (mQ p).monadic<;>simp[show bV p=0 from beq_iff_eq.1 hz]
 |false=>rfl
def QN(p:aJ)(q:Prop'):Int:=bif lX p q !=0 then lX p q else qG p
def zS(p:aJ)(r:Int):Int:=bif (qG p==0)&&(decide (r<0)||decide (r>=(p.rules.length:Int))) then 6 else qG p
theorem S.dH(p:aJ)(hp:dA p):aj Tryz.prog 95 [.dat (.iC p)] (.int (qG p)):=by
 refine aj.of Bd.dH (by simp) rfl rfl ?_
 conv=>whnf
 refine ah.pure (S.fC p hp) rfl ?_
 conv=>whnf
 repeat(refine VC.mk id ?_; conv=>whnf)
 refine⟨fun h1=>?_,fun h1=>?_⟩
 ·conv=>whnf
  exact ak.int (by rw[cf1,h1]; rfl)
 ·conv=>whnf
  exact ak.int (by rw[cf1,h1]; rfl)
theorem S.nX(p:aJ)(q:Prop')(hp:dA p)(hq:zT q):aj Tryz.prog 50 [.dat (.iC p),.dat (.prop q)] (.int (QN p q)):=by
 refine aj.of Bd.nX (by simp) rfl rfl ?_
 conv=>whnf
 refine ah.pure (S.dB p q hp hq) rfl ?_
 conv=>whnf
 refine⟨fun h1=>?_,fun h1=>?_⟩
 ·conv=>whnf
  exact ak.int (by rw[QN,h1]; rfl)
 ·conv=>whnf
  refine ah.pure (S.dH p hp) rfl ?_
  conv=>whnf
  exact ak.int (by rw[QN,h1]; rfl)
theorem S.gB(p:aJ)(r:Int)(hp:dA p):aj Tryz.prog 78 [.dat (.iC p),.int r] (.int (zS p r)):=by
 refine aj.of Bd.gB (by simp) rfl rfl ?_
 conv=>whnf
 refine ah.pure (S.dH p hp) rfl ?_
 conv=>whnf
 repeat(refine VC.mk (by first|exact id|exact fun h=>⟨h,h⟩|(intro h; simp[h]; done)) ?_; conv=>whnf)
 refine⟨fun h1=>?_,fun h1=>?_⟩
 ·conv=>whnf
  exact ak.int (by rw[zS,h1]; rfl)
 ·conv=>whnf
  exact ak.int (by rw[zS,h1]; rfl)
theorem S.iU(p:aJ)(hp:dA p):aj Tryz.prog 103 [.dat (.iC p)] (.int (qG p)):=by
 refine aj.of Bd.iU (by simp) rfl rfl ?_
 conv=>whnf
 refine ah.pure (S.kZ p hp) rfl ?_
 conv=>whnf
 refine⟨fun h1=>?_,fun h1=>?_⟩
 ·conv=>whnf
  exact ak.int (by rw[qG,h1]; rfl)
 ·conv=>whnf
  refine⟨fun h2=>?_,fun h2=>?_⟩
  ·conv=>whnf
   exact ak.int (by rw[h1] at h2; rw[qG,h1]; simp only[cond_false] at h2 ⊢; rw[show(mQ p).monadic=false by simpa using h2]; rfl)
  ·conv=>whnf
   exact ak.int (by rw[h1] at h2; rw[qG,h1]; simp only[cond_false] at h2 ⊢; rw[show(mQ p).monadic=true by simpa using h2]; rfl)
theorem S.pG(p:aJ)(q:Prop')(hp:dA p)(hq:zT q):aj Tryz.prog 51 [.dat (.iC p),.dat (.prop q)] (.int (QN p q)):=by
 refine aj.of Bd.pG (by simp) rfl rfl ?_
 conv=>whnf
 refine ah.pure (S.eG p q hp hq) rfl ?_
 conv=>whnf
 refine⟨fun h1=>?_,fun h1=>?_⟩
 ·conv=>whnf
  exact ak.int (by rw[QN,h1]; rfl)
 ·conv=>whnf
  refine ah.pure (S.iU p hp) rfl ?_
  conv=>whnf
  exact ak.int (by rw[QN,h1]; rfl)
def WM(n:Int):Bool:= !(decide (2<n))
def WO(p:aJ)(e:Elem):Bool:=(Ib p e !=0)||(uY e==0)
def NT(p:aJ)(a:Elem):Int:=bif WO p a then 1 else bif a.counts.all WM then 0 else 1
def CJ(p:aJ)(a:Elem):Int:=bif qG p !=0 then qG p else NT p a
theorem S.iV(p:aJ)(a:Elem)(hp:dA p)(ha:a.counts.length<2^30):aj Tryz.prog 79 [.dat (.iC p),.dat (.elem a)] (.int (NT p a)):=by
 refine aj.of Bd.iV (by simp) rfl rfl ?_
 conv=>whnf
 refine ah.pure (S.dN p a hp ha) rfl ?_
 conv=>whnf
 refine VC.mk id ?_
 conv=>whnf
 refine ah.eY (fun _=>S.jl a (by omega)) rfl ?_
 conv=>whnf
 repeat(refine VC.mk (by first|exact id|(intro h; rw[h]; rfl)) ?_; conv=>whnf)
 refine⟨fun h1=>?_,fun h1=>?_⟩
 ·conv=>whnf
  exact ak.int (by rw[NT,show WO p a=true from h1]; rfl)
 have hc:WO p a=false:=h1
 conv=>whnf
 refine aX.same [2,3,17,18] (fun i:Nat=>[(19,.int i)]) (fun i=>i<=a.counts.length/\(a.counts.take i).all WM=true) (fun i=>a.counts.length-i) 0 rfl (by decide) rfl (fun _=>rfl) ⟨by omega,by simp⟩ ⟨⟨_,rfl,rfl⟩,trivial⟩ ?_
 conv=>whnf
 refine⟨rfl,?_⟩
 rintro i ⟨hi,hall⟩
 conv=>whnf
 refine⟨fun h3=>?_,fun h3=>?_⟩
 ·have hi':i<a.counts.length:=by simpa using h3
  conv=>whnf
  refine .mk (by simp only[Rw.rng] at *; first|omega|(simp_all; done)|(simp_all; omega)) ?_
  conv=>whnf
  refine⟨fun h4=>?_,fun h4=>?_⟩
  ·conv=>whnf
   refine ak.int ?_
   rw[NT,hc,nY (d:=0) hi' (by simpa [WM] using h4)]; rfl
  ·conv=>whnf
   refine .mk (by simp only[okI] at *; first|omega|(simp_all; done)|(simp_all; omega)) ?_
   conv=>whnf
   refine⟨i+1,⟨by omega,?_⟩,by omega,⟨⟨_,rfl,rfl⟩,trivial⟩,?_,rfl⟩
   ·rw[pI (d:=0) hi' hall]; simpa [WM] using h4
   ·repeat' (first|exact trivial|exact⟨_,rfl,rfl⟩|constructor)
 ·have hi':a.counts.length<=i:=by simpa using h3
  conv=>whnf
  refine ak.int ?_
  rw[List.take_of_length_le hi'] at hall
  rw[NT,hc,hall]; rfl
theorem S.gZ(p:aJ)(a:Elem)(hp:dA p)(ha:a.counts.length<2^30):aj Tryz.prog 52 [.dat (.iC p),.dat (.elem a)] (.int (CJ p a)):=by
 refine aj.of Bd.gZ (by simp) rfl rfl ?_
 conv=>whnf
 refine ah.pure (S.dH p hp) rfl ?_
 conv=>whnf
 refine⟨fun h1=>?_,fun h1=>?_⟩
 ·conv=>whnf
  exact ak.int (by rw[CJ,h1]; rfl)
 ·conv=>whnf
  refine ah.pure (S.iV p a hp ha) rfl ?_
  conv=>whnf
  exact ak.int (by rw[CJ,h1]; rfl)
def La(p:aJ)(a:Elem):Bool:=bif uM p a then false else bif a.counts.all WM then decide (0<uY a) else false
theorem Zd(e:Elem):0<=uY e:=by
 unfold uY
 split
 ·omega
 ·split
  ·rename_i h; exact(uZ h).1
  ·omega
theorem EP{p:aJ}(h:qG p=0):Je p=0:=by
 unfold qG at h
 unfold Je
 cases hv:(bV p !=0) with
 |true=>rw[hv] at h; simp only[cond_true] at h; rw[h] at hv; simp at hv
 |false =>
  rw[hv] at h
  simp only[cond_false] at h ⊢
  cases hm:(mQ p).monadic with
  |true=>simp
  |false=>rw[hm] at h; cases h
theorem Ze{p:aJ}(h:qG p=0)(e:Elem):Ib p e=eF (uM p e) 1:=by
 rw[Ib,EP h]; rfl
def sF(p:aJ)(e:Elem):Bool:=uM p e||(uY e==0)
theorem ER{p:aJ}(h:qG p=0)(e:Elem):WO p e=sF p e:=by
 unfold WO sF
 rw[Ze h]
 cases uM p e<;>rfl
theorem PN{p:aJ}(h:qG p=0)(a:Elem):NT p a=bif La p a then 0 else 1:=by
 unfold NT La
 rw[ER h]
 unfold sF
 have:=Zd a
 cases uM p a with
 |true=>rfl
 |false =>
  simp only[Bool.false_or,cond_false]
  by_cases h0:uY a=0
  ·simp[h0]
  ·have h1:(uY a==0)=false:=by simpa using h0
   have h2:decide (0<uY a)=true:=by simp; omega
   rw[h1,h2]; cases a.counts.all WM<;>rfl
theorem S.lg(p:aJ)(a:Elem)(hp:dA p)(ha:a.counts.length<2^30):aj Tryz.prog 85 [.dat (.iC p),.dat (.elem a)] (.bool (La p a)):=by
 refine aj.of Bd.lg (by simp) rfl rfl ?_
 conv=>whnf
 refine ah.pure (S.nK p a hp ha) rfl ?_
 conv=>whnf
 refine⟨fun h1=>?_,fun h1=>?_⟩
 ·conv=>whnf
  exact ak.bool (by rw[La,show uM p a=true by simpa using h1]; rfl)
 have hv:uM p a=false:=by simpa using h1
 conv=>whnf
 refine aX.same [2,3] (fun i:Nat=>[(5,.int i)]) (fun i=>i<=a.counts.length/\(a.counts.take i).all WM=true) (fun i=>a.counts.length-i) 0 rfl (by decide) rfl (fun _=>rfl) ⟨by omega,by simp⟩ ⟨⟨_,rfl,rfl⟩,trivial⟩ ?_
 conv=>whnf
 refine⟨rfl,?_⟩
 rintro i ⟨hi,hall⟩
 conv=>whnf
 refine⟨fun h3=>?_,fun h3=>?_⟩
 ·have hi':i<a.counts.length:=by simpa using h3
  conv=>whnf
  refine .mk (by simp only[Rw.rng] at *; first|omega|(simp_all; done)|(simp_all; omega)) ?_
  conv=>whnf
  refine⟨fun h4=>?_,fun h4=>?_⟩
  ·conv=>whnf
   refine ak.bool ?_
   rw[La,hv,nY (d:=0) hi' (by simpa [WM] using h4)]; rfl
  ·conv=>whnf
   refine .mk (by simp only[okI] at *; first|omega|(simp_all; done)|(simp_all; omega)) ?_
   conv=>whnf
   refine⟨i+1,⟨by omega,?_⟩,by omega,⟨⟨_,rfl,rfl⟩,trivial⟩,?_,rfl⟩
   ·rw[pI (d:=0) hi' hall]; simpa [WM] using h4
   ·repeat' (first|exact trivial|exact⟨_,rfl,rfl⟩|constructor)
 ·have hi':a.counts.length<=i:=by simpa using h3
  rw[List.take_of_length_le hi'] at hall
  conv=>whnf
  refine ah.pure (S.mV a (by omega)) rfl ?_
  conv=>whnf
  exact ak.bool (by rw[La,hv,hall]; rfl)
theorem S.iM(p:aJ)(a:Elem)(hp:dA p)(ha:a.counts.length<2^30):aj Tryz.prog 53 [.dat (.iC p),.dat (.elem a)] (.int (CJ p a)):=by
 refine aj.of Bd.iM (by simp) rfl rfl ?_
 conv=>whnf
 refine ah.pure (S.iU p hp) rfl ?_
 conv=>whnf
 refine⟨fun h1=>?_,fun h1=>?_⟩
 ·conv=>whnf
  exact ak.int (by rw[CJ,h1]; rfl)
 have hc:qG p=0:=by simpa using h1
 conv=>whnf
 refine ah.pure (S.lg p a hp ha) rfl ?_
 conv=>whnf
 refine⟨fun h2=>?_,fun h2=>?_⟩
 ·conv=>whnf
  exact ak.int (by rw[CJ,h1,PN hc,show La p a=false by simpa using h2]; rfl)
 ·conv=>whnf
  exact ak.int (by rw[CJ,h1,PN hc,show La p a=true by simpa using h2]; rfl)
def rD(p:aJ)(e:Elem):Int:=bif qG p !=0 then qG p else bif sF p e then 1 else 0
theorem S.jS(p:aJ)(a:Elem)(hp:dA p)(ha:a.counts.length<2^30):aj Tryz.prog 99 [.dat (.iC p),.dat (.elem a)] (.int (rD p a)):=by
 refine aj.of Bd.jS (by simp) rfl rfl ?_
 conv=>whnf
 refine ah.pure (S.iU p hp) rfl ?_
 conv=>whnf
 refine⟨fun h1=>?_,fun h1=>?_⟩
 ·conv=>whnf
  exact ak.int (by rw[rD,h1]; rfl)
 conv=>whnf
 refine ah.pure (S.nK p a hp ha) rfl ?_
 conv=>whnf
 refine VC.mk id ?_
 conv=>whnf
 refine ah.eY (fun _=>S.mV a (by omega)) rfl ?_
 conv=>whnf
 repeat(refine VC.mk (by first|exact id|(intro h; rw[h]; rfl)) ?_; conv=>whnf)
 refine⟨fun h2=>?_,fun h2=>?_⟩
 ·conv=>whnf
  exact ak.int (by rw[rD,h1,show sF p a=true by simpa [sF] using h2]; rfl)
 ·conv=>whnf
  exact ak.int (by rw[rD,h1,show sF p a=false by simpa [sF] using h2]; rfl)
def wK(l:List Int):List Int:=l.map fun n=>min n 2
def ES(e:Elem):Elem:=⟨e.value,wK e.counts⟩
def Lc(l:List Int)(i:Nat):List Int:=wK (l.take i)++List.replicate (l.length-i) 0
theorem Tj(l:List Int)(i:Nat)(hi:i<=l.length):(Lc l i).length=l.length:=by simp[Lc,wK]; omega
theorem QO{l:List Int}{i:Nat}(hi:i<l.length):(Lc l i).set i (min (l.getD i 0) 2)=Lc l (i+1):=by
 have e1:l.length-i=(l.length-(i+1))+1:=by omega
 have e2:l.take (i+1)=l.take i++[l.getD i 0]:=by rw[List.take_add_one]; simp[hi]
 unfold Lc
 rw[e1,List.replicate_succ,List.set_append_right _ _ (by simp[wK]; omega)]
 have:i-(wK (l.take i)).length=0:=by simp[wK]; omega
 rw[this,List.set_cons_zero,e2]
 simp[wK]
theorem Tm(l:List Int):Lc l l.length=wK l:=by simp[Lc]
theorem S.kF(e:Elem)(h0:0<e.counts.length)(he:e.counts.length<2^30):aj Tryz.prog 98 [.dat (.elem e)] (.dat (.elem (ES e))):=by
 refine aj.of Bd.kF (by simp) rfl rfl ?_
 conv=>whnf
 have hm:=Ld (n:=e.counts.length) (by omega)
 rw[hm]
 conv=>whnf
 refine .mk (by omega) ?_
 conv=>whnf
 refine aX.Tn 15 [2,3,14,15] (fun i:Nat=>[(16,.int i)]) (fun i=>[(0,.box 50 3 (.dat (.elem e))),(1,.box 50 3 (.agg [.int 0,.row 0 true .nil])),(7,He (Lc e.counts i)),(9,.box 50 3 (.agg [.int e.value,.own 7]))]) (fun i=>i<=e.counts.length) (fun i=>e.counts.length-i) 0 [0,1,7,9] rfl (by decide) (fun _=>rfl) (Nat.zero_le _) ?_ ?_ ?_
 ·exact⟨⟨_,rfl,.eq rfl⟩,trivial⟩
 ·exact⟨okF rfl nofun rfl rfl rfl ⟨rfl,rfl⟩ rfl,okF rfl nofun rfl rfl rfl ⟨rfl,rfl⟩ rfl,okF rfl nofun rfl rfl rfl ⟨rfl,rfl⟩ rfl,⟨rfl,nofun,rfl,rfl,_,rfl,rfl,rfl,jf.of_eq rfl⟩,trivial⟩
 conv=>whnf
 refine⟨⟨⟨_,rfl,.eq rfl⟩,⟨_,rfl,.eq rfl⟩,⟨_,rfl,.eq rfl⟩,⟨_,rfl,.eq rfl⟩,trivial⟩,rfl,?_⟩
 rintro i hi
 have hRl:=Tj e.counts i hi
 conv=>whnf
 refine⟨fun g1=>?_,fun g1=>?_⟩
 ·have hi':i<e.counts.length:=by simpa using g1
  conv=>whnf
  repeat(refine VC.mk (by first|(simp only[Rw.rng,Int.toNat_natCast]; omega)|(simp only[okI,Int.toNat_natCast] at *; omega)) ?_; conv=>whnf)
  refine⟨i+1,[0,1,7,9],by omega,by omega,⟨⟨_,rfl,.eq rfl⟩,trivial⟩,⟨⟨_,rfl,.eq rfl⟩,⟨_,rfl,.eq rfl⟩,⟨_,rfl,.eq rfl⟩,⟨_,rfl,.eq rfl⟩,trivial⟩,okF rfl nofun rfl rfl rfl ⟨rfl,rfl⟩ rfl,okF rfl nofun rfl rfl rfl ⟨rfl,rfl⟩ rfl,okF rfl nofun rfl rfl rfl ⟨rfl,rfl⟩ ?_,⟨rfl,nofun,rfl,rfl,_,rfl,rfl,rfl,jf.of_eq rfl⟩,trivial⟩
  rw[<- QO hi']; rfl
 ·have hi':i=e.counts.length:=by
   have: ¬ ((i:Int)<(e.counts.length:Int)):=of_decide_eq_false g1
   omega
  subst hi'
  rw[Tm]
  conv=>whnf
  exact ak.elem rfl
def CO(l:List Int)(i:Nat):List Int:=wK (l.take i)++l.drop i
theorem Tq(l:List Int)(i:Nat):(CO l i).length=l.length:=by simp[CO,wK]; omega
theorem Tt{l:List Int}{i:Nat}(hi:i<l.length):(CO l i).getD i 0=l.getD i 0:=by
 unfold CO
 have h:(wK (l.take i)).length=i:=by simp[wK]; omega
 rw[List.getD_eq_getElem?_getD,List.getElem?_append_right (by omega),h,Nat.sub_self,List.getElem?_drop]
 simp[List.getD_eq_getElem?_getD]
theorem QS{l:List Int}{i:Nat}(hi:i<l.length):(CO l i).set i (min ((CO l i).getD i 0) 2)=CO l (i+1):=by
 rw[Tt hi]
 have e2:l.take (i+1)=l.take i++[l.getD i 0]:=by rw[List.take_add_one]; simp[hi]
 have h:(wK (l.take i)).length=i:=by simp[wK]; omega
 unfold CO
 rw[List.drop_eq_getElem_cons hi,List.set_append_right _ _ (by omega),h,Nat.sub_self,List.set_cons_zero,e2]
 simp[wK]
theorem Tv(l:List Int):CO l l.length=wK l:=by simp[CO]
theorem S.lY(e:Elem)(he:e.counts.length<2^30):aj Tryz.prog 46 [.dat (.elem e)] (.dat (.elem (ES e))):=by
 refine aj.of Bd.lY (by simp) rfl rfl ?_
 conv=>whnf
 refine ah.heap (rE.frame (S.Ic e he) _ _) ?_
 rintro t hp' ⟨rfl,rfl⟩
 refine⟨.agg [.int e.value,.own 3],(3,some (He e.counts))::_,rfl,PO,?_⟩
 conv=>whnf
 refine aX.Tn 7 [2,3] (fun i:Nat=>[(4,.int i)]) (fun i=>[(0,.box 50 3 (.dat (.elem e))),(1,.box 50 3 (.agg [.int 0,.row 0 true .nil])),(3,He (CO e.counts i)),(4,.box 50 3 (.agg [.int e.value,.own 3]))]) (fun i=>i<=e.counts.length) (fun i=>e.counts.length-i) 0 [0,1,3,4] rfl (by decide) (fun _=>rfl) (Nat.zero_le _) ?_ ?_ ?_
 ·exact⟨⟨_,rfl,.eq rfl⟩,trivial⟩
 ·exact⟨okF rfl nofun rfl rfl rfl ⟨rfl,rfl⟩ rfl,okF rfl nofun rfl rfl rfl ⟨rfl,rfl⟩ rfl,okF rfl nofun rfl rfl rfl ⟨rfl,rfl⟩ rfl,⟨rfl,nofun,rfl,rfl,_,rfl,rfl,rfl,jf.of_eq rfl⟩,trivial⟩
 conv=>whnf
 refine⟨⟨⟨_,rfl,.eq rfl⟩,⟨_,rfl,.eq rfl⟩,trivial⟩,rfl,?_⟩
 rintro i hi
 have hRl:=Tq e.counts i
 conv=>whnf
 refine⟨fun g1=>?_,fun g1=>?_⟩
 ·have hi':i<e.counts.length:=by
   have:(i:Int)<((CO e.counts i).length:Int):=of_decide_eq_true g1
   omega
  conv=>whnf
  repeat(refine VC.mk (by first|(simp only[Rw.rng,Int.toNat_natCast]; omega)|(simp only[okI] at *; omega)) ?_; conv=>whnf)
  refine⟨i+1,[0,1,3,4],by omega,by omega,⟨⟨_,rfl,.eq rfl⟩,trivial⟩,⟨⟨_,rfl,.eq rfl⟩,⟨_,rfl,.eq rfl⟩,trivial⟩,okF rfl nofun rfl rfl rfl ⟨rfl,rfl⟩ rfl,okF rfl nofun rfl rfl rfl ⟨rfl,rfl⟩ rfl,okF rfl nofun rfl rfl rfl ⟨rfl,rfl⟩ ?_,⟨rfl,nofun,rfl,rfl,_,rfl,rfl,rfl,jf.of_eq rfl⟩,trivial⟩
  rw[<- QS hi']; rfl
 ·have hi':i=e.counts.length:=by
   have: ¬ ((i:Int)<((CO e.counts i).length:Int)):=of_decide_eq_false g1
   omega
  subst hi'
  rw[Tv]
  conv=>whnf
  exact ak.elem rfl
def z9:Elem:=⟨0,[]⟩
theorem ak.Tz{c:Int}{h:Hz}:ak (.iF [.dat (.elem z9),.int c]) (.iF [.agg [.int 0,.row 0 true .nil],.int c]) h:=⟨by
 refine⟨⟨fQ _,?_,trivial⟩,fQ _,trivial⟩
 simp only[Go.Ab.ints,z9,List.map_nil,V.aG,Rw.bQ,T.sub]
 exact⟨.inl trivial,.inl trivial,fun h=>by cases h⟩⟩
def PS(p:aJ)(e:Elem):Elem:=bif rD p e==0 then ES e else z9
def WQ(p:aJ)(e:Elem):V:=.iF [.dat (.elem (PS p e)),.int (rD p e)]
theorem WR{p:aJ}{e:Elem}(h:sF p e=false):0<e.counts.length:=by
 unfold sF at h
 rw[Bool.or_eq_false_iff] at h
 have h2:uY e≠0:=by simpa using h.2
 unfold uY at h2
 rcases Nat.eq_zero_or_pos e.counts.length with h0|h0
 ·rw[List.eq_nil_of_length_eq_zero h0] at h2; simp at h2
 ·exact h0
theorem S.jm(p:aJ)(e:Elem)(hp:dA p)(he:e.counts.length<2^30):aj Tryz.prog 44 [.dat (.iC p),.dat (.elem e)] (WQ p e):=by
 refine aj.of Bd.jm (by simp) rfl rfl ?_
 conv=>whnf
 refine ah.pure (S.dH p hp) rfl ?_
 conv=>whnf
 refine⟨fun h1=>?_,fun h1=>?_⟩
 ·conv=>whnf
  have hc:rD p e=qG p:=by rw[rD,h1]; rfl
  rw[WQ,PS,hc,show(qG p==0)=false by simpa using h1]
  exact ak.Tz
 have hc:qG p=0:=by simpa using h1
 conv=>whnf
 refine ah.pure (S.dN p e hp he) rfl ?_
 conv=>whnf
 refine VC.mk id ?_
 conv=>whnf
 refine ah.eY (fun _=>S.jl e (by omega)) rfl ?_
 conv=>whnf
 repeat(refine VC.mk (by first|exact id|(intro h; rw[h]; rfl)) ?_; conv=>whnf)
 refine⟨fun h2=>?_,fun h2=>?_⟩
 ·have h2:WO p e=true:=h2
  rw[ER hc] at h2
  conv=>whnf
  have hc:rD p e=1:=by rw[rD,h1,h2]; rfl
  rw[WQ,PS,hc]
  exact ak.Tz
 ·have h2:WO p e=false:=h2
  rw[ER hc] at h2
  conv=>whnf
  refine ah.pure (S.kF e (WR h2) he) rfl ?_
  conv=>whnf
  have hc:rD p e=0:=by rw[rD,h1,h2]; rfl
  rw[WQ,PS,hc]
  exact ak.eqv rfl
theorem S.lq(p:aJ)(e:Elem)(hp:dA p)(he:e.counts.length<2^30):aj Tryz.prog 47 [.dat (.iC p),.dat (.elem e)] (WQ p e):=by
 refine aj.of Bd.lq (by simp) rfl rfl ?_
 conv=>whnf
 refine ah.pure (S.jS p e hp he) rfl ?_
 conv=>whnf
 refine⟨fun h1=>?_,fun h1=>?_⟩
 ·conv=>whnf
  rw[WQ,PS,show(rD p e==0)=false by simpa using h1]
  exact ak.Tz
 ·conv=>whnf
  refine ah.pure (S.lY e he) rfl ?_
  conv=>whnf
  rw[WQ,PS,show rD p e=0 by simpa using h1]
  exact ak.eqv rfl
def ET(p:aJ)(a e:Elem):Int:=bif CJ p a !=0 then CJ p a else rD p e
def NU(p:aJ)(a e:Elem):Bool:=(ET p a e==0)&&(AO a (ES e)==0)
theorem S.iW(p:aJ)(a e:Elem)(hp:dA p)(ha:a.counts.length<2^30)(he:e.counts.length<2^30):aj Tryz.prog 48 [.dat (.iC p),.dat (.elem a),.dat (.elem e)] (.iF [.bool (NU p a e),.int (ET p a e)]):=by
 have hz:(PS p e).counts.length<2^30:=by
  unfold PS; cases (rD p e==0)<;>simp[z9,ES,wK]<;>omega
 refine aj.of Bd.iW (by simp) rfl rfl ?_
 conv=>whnf
 refine ah.pure (S.gZ p a hp ha) rfl ?_
 conv=>whnf
 refine⟨fun h1=>?_,fun h1=>?_⟩
 ·conv=>whnf
  refine ak.eqv ?_
  have hr:ET p a e=CJ p a:=by rw[ET,h1]; rfl
  rw[NU,hr,show(CJ p a==0)=false by simpa using h1]; rfl
 have hr:ET p a e=rD p e:=by rw[ET,h1]; rfl
 conv=>whnf
 refine ah.pure (S.jm p e hp he) rfl ?_
 conv=>whnf
 refine .mk (by exact fun h=>⟨h,h⟩) ?_
 conv=>whnf
 refine ah.eY (fun _=>S.jo a (PS p e) (by omega) (by omega)) rfl ?_
 conv=>whnf
 repeat(refine VC.mk id ?_; conv=>whnf)
 refine ak.eqv ?_
 rw[NU,hr]
 cases h2:(rD p e==0) with
 |true=>rw[show rD p e=0 by simpa using h2]; simp[PS,show rD p e=0 by simpa using h2]; rfl
 |false=>simp[]; rfl
theorem S.jy(p:aJ)(a e:Elem)(hp:dA p)(ha:a.counts.length<2^30)(he:e.counts.length<2^30):aj Tryz.prog 49 [.dat (.iC p),.dat (.elem a),.dat (.elem e)] (.iF [.bool (NU p a e),.int (ET p a e)]):=by
 have hz:(ES e).counts.length<2^30:=by simp[ES,wK]; omega
 refine aj.of Bd.jy (by simp) rfl rfl ?_
 conv=>whnf
 refine ah.pure (S.iM p a hp ha) rfl ?_
 conv=>whnf
 refine⟨fun h1=>?_,fun h1=>?_⟩
 ·conv=>whnf
  refine ak.eqv ?_
  have hr:ET p a e=CJ p a:=by rw[ET,h1]; rfl
  rw[NU,hr,show(CJ p a==0)=false by simpa using h1]; rfl
 have hr:ET p a e=rD p e:=by rw[ET,h1]; rfl
 conv=>whnf
 refine ah.pure (S.jS p e hp he) rfl ?_
 conv=>whnf
 refine⟨fun h2=>?_,fun h2=>?_⟩
 ·conv=>whnf
  refine ak.eqv ?_
  rw[NU,hr,show(rD p e==0)=false by simpa using h2]; rfl
 ·conv=>whnf
  refine ah.pure (S.lY e he) rfl ?_
  conv=>whnf
  refine ah.pure (S.kT (ES e) a (by omega) (by omega)) rfl ?_
  conv=>whnf
  refine ak.eqv ?_
  rw[NU,hr,show rD p e=0 by simpa using h2]
  have:(AO (ES e) a==0)=(AO a (ES e)==0):=by
   rw[Bool.eq_iff_iff,beq_iff_eq,beq_iff_eq,Jf,Jf]; exact eq_comm
  rw[this]; rfl
def NV(n:Int):Bool:= !(decide (n<0)||decide (6<n))
def G6(p:aJ)(w:List Int):Bool:=bif (w.length:Int) !=p.states.length then false else w.all NV
theorem Eo{p:aJ}{w:List Int}(h:G6 p w=true):w.length=p.states.length/\w.all NV=true:=by
 unfold G6 at h
 cases hc:((w.length:Int) !=p.states.length) with
 |true=>rw[hc] at h; cases h
 |false=>rw[hc] at h; exact⟨by have:(w.length:Int)=p.states.length:=(by simpa using hc); omega,h⟩
theorem Ep{w:List Int}(h:w.all NV=true)(i:Nat):0<=w.getD i 0/\w.getD i 0<=6:=by
 rw[List.getD_eq_getElem?_getD]
 cases hg:w[i]? with
 |none=>simp
 |some x =>
  have:=List.all_eq_true.1 h x (List.mem_of_getElem? hg)
  simp[NV] at this
  simp; omega
theorem S.gG(p:aJ)(w:List Int)(f:Bool)(hw:w.length<2^30):aj Tryz.prog 66 [.dat (.iC p),.row 0 f (.ints w)] (.bool (G6 p w)):=by
 refine aj.of Bd.gG (by simp) rfl rfl ?_
 conv=>whnf
 refine⟨fun h1=>?_,fun h1=>?_⟩
 ·conv=>whnf
  exact ak.bool (by rw[G6,h1]; rfl)
 conv=>whnf
 refine aX.same [13,14] (fun i:Nat=>[(15,.int i)]) (fun i=>i<=w.length/\(w.take i).all NV=true) (fun i=>w.length-i) 0 rfl (by decide) rfl (fun _=>rfl) ⟨by omega,by simp⟩ ⟨⟨_,rfl,rfl⟩,trivial⟩ ?_
 conv=>whnf
 refine⟨rfl,?_⟩
 rintro i ⟨hi,hall⟩
 conv=>whnf
 refine⟨fun h3=>?_,fun h3=>?_⟩
 ·have hi':i<w.length:=by simpa using h3
  conv=>whnf
  repeat(refine VC.mk (by first|exact id|(intro h; rw[h]; rfl)|(simp only[Rw.rng] at *; first|omega|(simp_all; done)|(simp_all; omega))) ?_; conv=>whnf)
  refine⟨fun h4=>?_,fun h4=>?_⟩
  ·conv=>whnf
   refine ak.bool ?_
   rw[G6,h1,nY (d:=0) hi' (congrArg Bool.not h4)]; rfl
  ·conv=>whnf
   refine .mk (by simp only[okI] at *; first|omega|(simp_all; done)|(simp_all; omega)) ?_
   conv=>whnf
   refine⟨i+1,⟨by omega,?_⟩,by omega,⟨⟨_,rfl,rfl⟩,trivial⟩,?_,rfl⟩
   ·rw[pI (d:=0) hi' hall]; exact congrArg Bool.not h4
   ·repeat' (first|exact trivial|exact⟨_,rfl,rfl⟩|constructor)
 ·have hi':w.length<=i:=by simpa using h3
  rw[List.take_of_length_le hi'] at hall
  conv=>whnf
  exact ak.bool (by rw[G6,h1,hall]; rfl)
theorem S.kU(p:aJ)(w:List Int)(f:Bool)(hw:w.length<2^30):aj Tryz.prog 23 [.dat (.iC p),.row 0 f (.ints w)] (.bool (G6 p w)):=by
 refine aj.of Bd.kU (by simp) rfl rfl ?_
 conv=>whnf
 refine⟨fun h1=>?_,fun h1=>?_⟩
 ·conv=>whnf
  exact ak.bool (by rw[G6,h1]; rfl)
 conv=>whnf
 refine aX.same [1] (fun i:Nat=>[(5,.int i)]) (fun i=>i<=w.length/\(w.take i).all NV=true) (fun i=>w.length-i) 0 rfl (by decide) rfl (fun _=>rfl) ⟨by omega,by simp⟩ ⟨⟨_,rfl,rfl⟩,trivial⟩ ?_
 conv=>whnf
 refine⟨rfl,?_⟩
 rintro i ⟨hi,hall⟩
 conv=>whnf
 refine⟨fun h3=>?_,fun h3=>?_⟩
 ·have hi':i<w.length:=by simpa using h3
  conv=>whnf
  repeat(refine VC.mk (by first|exact id|(intro h; rw[h]; rfl)|(intro h; (repeat' apply And.intro)<;>first|exact h|omega|(simp only[Rw.qV]; omega)|(simp only[Rw.rng]; omega))|(simp only[Rw.rng] at *; first|omega|(simp_all; done)|(simp_all; omega))) ?_; conv=>whnf)
  refine⟨fun h4=>?_,fun h4=>?_⟩
  ·conv=>whnf
   refine ak.bool ?_
   rw[G6,h1,nY (d:=0) hi' (congrArg Bool.not h4)]; rfl
  ·conv=>whnf
   refine .mk (by simp only[okI] at *; first|omega|(simp_all; done)|(simp_all; omega)) ?_
   conv=>whnf
   refine⟨i+1,⟨by omega,?_⟩,by omega,⟨⟨_,rfl,rfl⟩,trivial⟩,?_,rfl⟩
   ·rw[pI (d:=0) hi' hall]; exact congrArg Bool.not h4
   ·repeat' (first|exact trivial|exact⟨_,rfl,rfl⟩|constructor)
 ·have hi':w.length<=i:=by simpa using h3
  rw[List.take_of_length_le hi'] at hall
  conv=>whnf
  exact ak.bool (by rw[G6,h1,hall]; rfl)
structure NQ(n:Nat)(r:Rule):Prop where
 place:NW n r
 acg:r.response.length<=n
 ach:pJ n r.response
 aci:r.kind≠3->r.response=[]
theorem acj{p:aJ}{i:Nat}(hv:Jg p)(ht:p.topology=1)(hi:i<p.rules.length):NQ p.states.length (p.rules.getD i default):=by
 have hF:=aa0 hv ht hi
 have hn:(p.rules.getD i default).kind≠3->(p.rules.getD i default).response=[]:=by
  have h:=hv.rule i hi
  simp only[gq,nR] at h
  generalize (p.rules.getD i default)=r at h ⊢
  obtain⟨_,h⟩:=bz (fun _=>by decide) h
  obtain⟨hb,h⟩:=bz (fun _=>by decide) h
  rw[ht,Bool.or_eq_false_iff] at hb
  have hk:=Ie (show qH r.kind 1=true by simpa using hb.1)
  have hu:jT r 1=false:=by rw[sG (by omega)]; exact hb.2
  intro k3
  simp only[jT,Jh,Bool.or_eq_false_iff] at hu
  have h4:=hu.2.2.2.1
  simp only[beq_eq_false_iff_ne.2 k3,Bool.not_false,Bool.true_and] at h4
  exact len_nil h4.1
 refine⟨hF.place,?_,?_,hn⟩
 ·by_cases k:(p.rules.getD i default).kind=3
  ·rw[(hF.place.rsp k).1]; exact Nat.le_refl _
  ·rw[hn k]; exact Nat.zero_le _
 ·by_cases k:(p.rules.getD i default).kind=3
  ·exact(hF.place.rsp k).2
  ·rw[hn k]; intro q hq; cases hq
theorem wtR{p:aJ}(h:qG p=0){i:Nat}(hi:i<p.rules.length):NQ p.states.length (p.rules.getD i default):=by
 obtain⟨h1,h2⟩:=yN (EP h)
 exact acj (Ji h1) (QT h2) hi
def wt(w:List Int)(x:Int):Int:=w.getD x.toNat 0
def xP(r:Rule)(w:List Int):Int:=bif r.kind==2 then(wt w r.to-wt w r.fr)+(wt w r.zB-wt w r.ig) else wt w r.to-wt w r.fr
theorem xZ{w:List Int}(h:w.all NV=true)(x:Int):0<=wt w x/\wt w x<=6:=Ep h _
theorem S.kV(r:Rule)(w:List Int)(f:Bool)(hw:w.all NV=true)(hr:NQ w.length r):aj Tryz.prog 156 [.dat (.rule r),.row 0 f (.ints w)] (.int (xP r w)):=by
 have a:=xZ hw r.to; have b:=xZ hw r.fr; have c:=xZ hw r.zB; have d:=xZ hw r.ig
 have p1:=hr.place.src; have p2:=hr.place.dst; have p3:=hr.place.TA; have p4:=hr.place.TB
 unfold wt at a b c d
 refine aj.of Bd.kV (by simp) rfl rfl ?_
 conv=>whnf
 repeat(refine VC.mk (by simp only[okI,Rw.rng] at *; first|omega|(simp_all; done)|(simp_all; omega)) ?_; conv=>whnf)
 refine⟨fun h1=>?_,fun h1=>?_⟩
 ·conv=>whnf
  repeat(refine VC.mk (by simp only[okI,Rw.rng] at *; first|omega|(simp_all; done)|(simp_all; omega)) ?_; conv=>whnf)
  exact ak.int (by rw[xP,h1]; rfl)
 ·conv=>whnf
  exact ak.int (by rw[xP,h1]; rfl)
theorem S.lu(r:Rule)(w:List Int)(f:Bool)(hw:w.all NV=true)(hr:NQ w.length r):aj Tryz.prog 157 [.dat (.rule r),.row 0 f (.ints w)] (.int (xP r w)):=by
 have a:=xZ hw r.to; have b:=xZ hw r.fr; have c:=xZ hw r.zB; have d:=xZ hw r.ig
 have p1:=hr.place.src; have p2:=hr.place.dst; have p3:=hr.place.TA; have p4:=hr.place.TB
 unfold wt at a b c d
 refine aj.of Bd.lu (by simp) rfl rfl ?_
 conv=>whnf
 repeat(refine VC.mk (by simp only[okI,Rw.rng] at *; first|omega|(simp_all; done)|(simp_all; omega)) ?_; conv=>whnf)
 refine⟨fun h1=>?_,fun h1=>?_⟩
 ·conv=>whnf
  repeat(refine VC.mk (by simp only[okI,Rw.rng] at *; first|omega|(simp_all; done)|(simp_all; omega)) ?_; conv=>whnf)
  exact ak.int (by rw[xP,h1]; rfl)
 ·conv=>whnf
  exact ak.int (by rw[xP,h1]; rfl)
def TD(r:Rule)(w:List Int)(x:Nat):Bool:=decide (w.getD x 0<wt w (r.response.getD x 0))
def Zf(r:Rule)(w:List Int)(i:Nat):Bool:=(List.range i).any (TD r w)
def xQ(r:Rule)(w:List Int):Bool:=Zf r w r.response.length||decide (0<xP r w)
theorem Le{r:Rule}{w:List Int}{i:Nat}(h:Zf r w i=false):Zf r w (i+1)=TD r w i:=by
 unfold Zf at h ⊢
 rw[List.range_succ,List.any_append,h]; simp
theorem NY{r:Rule}{w:List Int}{i n:Nat}(hi:i<n)(h:TD r w i=true):Zf r w n=true:=List.any_eq_true.2 ⟨i,List.mem_range.2 hi,h⟩
theorem yO{n:Nat}{l:List Int}(h:pJ n l){i:Nat}(hi:i<l.length):0<=l.getD i 0/\l.getD i 0<n:=by
 rw[List.getD_eq_getElem?_getD,List.getElem?_eq_getElem hi]; exact h _ (List.getElem_mem hi)
theorem S.jU(r:Rule)(w:List Int)(f:Bool)(hw:w.all NV=true)(hr:NQ w.length r)(hl:w.length<2^30):aj Tryz.prog 107 [.dat (.rule r),.row 0 f (.ints w)] (.bool (xQ r w)):=by
 have hrl:=hr.acg
 refine aj.of Bd.jU (by simp) rfl rfl ?_
 conv=>whnf
 refine aX.same [1,2,8,9] (fun i:Nat=>[(10,.int i)]) (fun i=>i<=r.response.length/\Zf r w i=false) (fun i=>r.response.length-i) 0 rfl (by decide) rfl (fun _=>rfl) ⟨by omega,rfl⟩ ⟨⟨_,rfl,rfl⟩,trivial⟩ ?_
 conv=>whnf
 refine⟨rfl,?_⟩
 rintro i ⟨hi,hno⟩
 conv=>whnf
 refine⟨fun h3=>?_,fun h3=>?_⟩
 ·have hi':i<r.response.length:=by simpa using h3
  have hpl:=yO hr.ach hi'
  conv=>whnf
  repeat(refine VC.mk (by simp only[Rw.rng,Int.toNat_natCast]; omega) ?_; conv=>whnf)
  refine⟨fun h4=>?_,fun h4=>?_⟩
  ·conv=>whnf
   exact ak.bool (by rw[xQ,NY hi' h4]; rfl)
  ·conv=>whnf
   refine .mk (by simp only[okI] at *; first|omega|(simp_all; done)|(simp_all; omega)) ?_
   conv=>whnf
   refine⟨i+1,⟨by omega,?_⟩,by omega,⟨⟨_,rfl,rfl⟩,trivial⟩,?_,rfl⟩
   ·rw[Le hno]; exact h4
   ·repeat' (first|exact trivial|exact⟨_,rfl,rfl⟩|constructor)
 ·have hi':i=r.response.length:=by
   have: ¬ ((i:Int)<(r.response.length:Int)):=of_decide_eq_false h3
   omega
  subst hi'
  conv=>whnf
  refine ah.pure (S.kV r w f hw hr) rfl ?_
  conv=>whnf
  exact ak.bool (by rw[xQ,hno]; rfl)
theorem S.kW(r:Rule)(w:List Int)(f:Bool)(hw:w.all NV=true)(hr:NQ w.length r)(hl:w.length<2^30):aj Tryz.prog 110 [.dat (.rule r),.row 0 f (.ints w)] (.bool (xQ r w)):=by
 refine aj.of Bd.kW (by simp) rfl rfl ?_
 conv=>whnf
 refine⟨fun h1=>?_,fun h1=>?_⟩
 ·have hk:r.kind=3:=by simpa using h1
  obtain⟨hrl,hrp⟩:=hr.place.rsp hk
  conv=>whnf
  refine aX.same [1,2] (fun i:Nat=>[(5,.int i)]) (fun i=>i<=w.length/\Zf r w i=false) (fun i=>w.length-i) 0 rfl (by decide) rfl (fun _=>rfl) ⟨by omega,rfl⟩ ⟨⟨_,rfl,rfl⟩,trivial⟩ ?_
  conv=>whnf
  refine⟨rfl,?_⟩
  rintro i ⟨hi,hno⟩
  conv=>whnf
  refine⟨fun h3=>?_,fun h3=>?_⟩
  ·have hi':i<w.length:=by simpa using h3
   have hpl:=yO hrp (show i<r.response.length by omega)
   conv=>whnf
   repeat(refine VC.mk (by simp only[Rw.rng,Int.toNat_natCast]; omega) ?_; conv=>whnf)
   refine⟨fun h4=>?_,fun h4=>?_⟩
   ·conv=>whnf
    exact ak.bool (by rw[xQ,NY (show i<r.response.length by omega) h4]; rfl)
   ·conv=>whnf
    refine .mk (by simp only[okI] at *; first|omega|(simp_all; done)|(simp_all; omega)) ?_
    conv=>whnf
    refine⟨i+1,⟨by omega,?_⟩,by omega,⟨⟨_,rfl,rfl⟩,trivial⟩,?_,rfl⟩
    ·rw[Le hno]; exact h4
    ·repeat' (first|exact trivial|exact⟨_,rfl,rfl⟩|constructor)
  ·have hi':i=r.response.length:=by
    have: ¬ ((i:Int)<(w.length:Int)):=of_decide_eq_false h3
    omega
   conv=>whnf
   refine ah.pure (S.lu r w f hw hr) rfl ?_
   conv=>whnf
   rw[hi'] at hno
   exact ak.bool (by rw[xQ,hno]; rfl)
 ·have hk:r.kind≠3:=by simpa using h1
  conv=>whnf
  refine ah.pure (S.lu r w f hw hr) rfl ?_
  conv=>whnf
  exact ak.bool (by rw[xQ,hr.aci hk]; rfl)
def Ef(r:Rule)(w:List Int):Bool:= !(xQ r w)&&decide (xP r w<0)
theorem S.kG(r:Rule)(w:List Int)(f:Bool)(hw:w.all NV=true)(hr:NQ w.length r)(hl:w.length<2^30):aj Tryz.prog 108 [.dat (.rule r),.row 0 f (.ints w)] (.bool (Ef r w)):=by
 refine aj.of Bd.kG (by simp) rfl rfl ?_
 conv=>whnf
 refine ah.pure (S.jU r w f hw hr hl) rfl ?_
 conv=>whnf
 refine .mk (by exact fun h=>⟨h,h⟩) ?_
 conv=>whnf
 refine ah.eY (fun _=>S.kV r w f hw hr) rfl ?_
 conv=>whnf
 repeat(refine VC.mk id ?_; conv=>whnf)
 exact ak.bool rfl
theorem S.lC(r:Rule)(w:List Int)(f:Bool)(hw:w.all NV=true)(hr:NQ w.length r)(hl:w.length<2^30):aj Tryz.prog 111 [.dat (.rule r),.row 0 f (.ints w)] (.bool (Ef r w)):=by
 refine aj.of Bd.lC (by simp) rfl rfl ?_
 conv=>whnf
 refine ah.pure (S.kW r w f hw hr hl) rfl ?_
 conv=>whnf
 refine .mk (by exact fun h=>⟨h,h⟩) ?_
 conv=>whnf
 refine ah.eY (fun _=>S.lu r w f hw hr) rfl ?_
 conv=>whnf
 repeat(refine VC.mk id ?_; conv=>whnf)
 exact ak.bool rfl
def Zg(r:Rule)(x:Int):Bool:=((x==r.fr)||((r.kind==2)&&(x==r.ig)))||((r.kind==3)&&(r.response.getD x.toNat 0 !=x))
theorem S.nZ(r:Rule)(x:Int)(n:Nat)(hr:NQ n r)(hx:0<=x/\x<n):aj Tryz.prog 112 [.dat (.rule r),.int x] (.bool (Zg r x)):=by
 have hk:=hr.place.rsp
 refine aj.of Bd.nZ (by simp) rfl rfl ?_
 conv=>whnf
 repeat(refine VC.mk (by first|exact id|exact fun h=>⟨h,h⟩|(intro h; rw[h]; rfl)|(intro h; simp[h]; done)|(intro h; simp_all; done)|(simp only[Rw.rng] at *; first|omega|(simp_all; done)|(simp_all; omega))) ?_; conv=>whnf)
 exact ak.bool rfl
theorem S.pK(r:Rule)(x:Int)(n:Nat)(hr:NQ n r)(hx:0<=x/\x<n):aj Tryz.prog 113 [.dat (.rule r),.int x] (.bool (Zg r x)):=by
 have hk:=hr.place.rsp
 refine aj.of Bd.pK (by simp) rfl rfl ?_
 conv=>whnf
 repeat(refine VC.mk (by first|exact id|exact fun h=>⟨h,h⟩|(intro h; rw[h]; rfl)|(intro h; simp[h]; done)|(intro h; simp_all; done)|(simp only[Rw.rng] at *; first|omega|(simp_all; done)|(simp_all; omega))) ?_; conv=>whnf)
 exact ak.bool rfl
def sumW(c w:List Int)(i:Nat):Int:=(List.range i).foldl (fun a j=>a+c.getD j 0*w.getD j 0) 0
theorem mW{c w:List Int}{i:Nat}:sumW c w (i+1)=sumW c w i+c.getD i 0*w.getD i 0:=by
 unfold sumW; rw[List.range_succ,List.foldl_append]; rfl
theorem Jj{a b:Int}(ha:0<=a/\a<=1048576)(hb:0<=b/\b<=6):0<=a*b/\a*b<=6291456:=by
 refine⟨Int.mul_nonneg ha.1 hb.1,?_⟩
 calc a*b<=1048576*b:=Int.mul_le_mul_of_nonneg_right ha.2 hb.1
  _<=6291456:=by omega
theorem Lh{c w:List Int}(hc:TF c)(hw:w.all NV=true): ∀ {i:Nat},i<=c.length->0<=sumW c w i/\sumW c w i<=6291456*i:=by
 intro i
 induction i with
 |zero=>intro _; simp[sumW]
 |succ i ih =>
  intro hi
  have h1:=ih (by omega)
  have h2:=Jj (hc.get (show i<c.length by omega)) (Ep hw i)
  rw[mW]; omega
def pF(p:aJ)(w:List Int):Int:=bif (qG p==0)&& !(G6 p w) then 1 else qG p
def Jk(p:aJ)(w:List Int)(e:Elem):Int:=bif qG p !=0 then qG p else bif !(G6 p w) then 1 else bif sF p e then 1 else 0
def Tf(p:aJ)(w:List Int)(e:Elem):Int:=bif Jk p w e==0 then sumW e.counts w w.length else 0
theorem TG{p:aJ}{w:List Int}(h:pF p w=0):qG p=0/\G6 p w=true:=by
 unfold pF at h
 by_cases h0:qG p=0
 ·rw[h0] at h
  refine⟨h0,?_⟩
  cases hv:G6 p w with
  |true=>rfl
  |false=>rw[hv] at h; simp at h
 ·have:(qG p==0)=false:=by simpa using h0
  rw[this] at h; exact absurd h h0
theorem PU{p:aJ}{w:List Int}{e:Elem}(h:pF p w≠0):Jk p w e=pF p w:=by
 unfold pF at h ⊢
 unfold Jk
 by_cases h0:qG p=0
 ·simp only[h0] at h ⊢
  cases hv:G6 p w with
  |true=>rw[hv] at h; exact absurd rfl h
  |false=>rfl
 ·have a:(qG p==0)=false:=by simpa using h0
  have b:(qG p !=0)=true:=by simpa using h0
  rw[a,b]; rfl
theorem PV{p:aJ}{w:List Int}{e:Elem}(h1:qG p=0)(h2:G6 p w=true):Jk p w e=bif sF p e then 1 else 0:=by
 rw[Jk,h1,h2]; rfl
theorem NZ{p:aJ}{e:Elem}(h:sF p e=false):e.counts.length=p.states.length/\TF e.counts:=by
 unfold sF at h
 rw[Bool.or_eq_false_iff] at h
 have:=N7 h.1
 exact⟨this.1,this.2.1⟩
theorem S.dY(p:aJ)(w:List Int)(f:Bool)(hp:dA p)(hw:w.length<2^30):aj Tryz.prog 106 [.dat (.iC p),.row 0 f (.ints w)] (.int (pF p w)):=by
 refine aj.of Bd.dY (by simp) rfl rfl ?_
 conv=>whnf
 refine ah.pure (S.dH p hp) rfl ?_
 conv=>whnf
 refine .mk (by exact fun h=>⟨h,h⟩) ?_
 conv=>whnf
 refine ah.eY (fun _=>S.gG p w f hw) rfl ?_
 conv=>whnf
 repeat(refine VC.mk id ?_; conv=>whnf)
 refine⟨fun h1=>?_,fun h1=>?_⟩
 ·conv=>whnf
  exact ak.int (by rw[pF,h1]; rfl)
 ·conv=>whnf
  exact ak.int (by rw[pF,h1]; rfl)
theorem S.jV(p:aJ)(w:List Int)(e:Elem)(f:Bool)(hp:dA p)(hw:w.length<2^30)(he:e.counts.length<2^30):aj Tryz.prog 59 [.dat (.iC p),.row 0 f (.ints w),.dat (.elem e)] (.iF [.int (Tf p w e),.int (Jk p w e)]):=by
 refine aj.of Bd.jV (by simp) rfl rfl ?_
 conv=>whnf
 refine ah.pure (S.dY p w f hp hw) rfl ?_
 conv=>whnf
 refine⟨fun h1=>?_,fun h1=>?_⟩
 ·have h1:pF p w≠0:=by simpa using h1
  conv=>whnf
  refine ak.eqv ?_
  have h0:(Jk p w e==0)=false:=by rw[PU h1]; simpa using h1
  rw[Tf,h0,PU h1]; rfl
 have h1:pF p w=0:=by simpa using h1
 obtain⟨hc,hv⟩:=TG h1
 obtain⟨hwl,hwo⟩:=Eo hv
 conv=>whnf
 refine ah.pure (S.dN p e hp he) rfl ?_
 conv=>whnf
 refine VC.mk id ?_
 conv=>whnf
 refine ah.eY (fun _=>S.jl e (by omega)) rfl ?_
 conv=>whnf
 repeat(refine VC.mk (by first|exact id|(intro h; rw[h]; rfl)) ?_; conv=>whnf)
 refine⟨fun h2=>?_,fun h2=>?_⟩
 ·have h2:WO p e=true:=h2
  rw[ER hc] at h2
  conv=>whnf
  refine ak.eqv ?_
  have hw1:Jk p w e=1:=by rw[PV hc hv,h2]; rfl
  rw[Tf,hw1]; rfl
 have h2:WO p e=false:=h2
 rw[ER hc] at h2
 obtain⟨hel,hok⟩:=NZ h2
 have hst:=(Ji (yN (EP hc)).1).states
 have hw0:Jk p w e=0:=by rw[PV hc hv,h2]; rfl
 conv=>whnf
 refine aX.same [1,28,29] (fun i:Nat=>[(30,.int i),(9,.int (sumW e.counts w i))]) (fun i=>i<=e.counts.length) (fun i=>e.counts.length-i) 0 rfl (by decide) rfl (fun _=>rfl) (Nat.zero_le _) ⟨⟨_,rfl,rfl⟩,⟨_,rfl,rfl⟩,trivial⟩ ?_
 conv=>whnf
 refine⟨rfl,?_⟩
 rintro i hi
 have hs:=Lh hok hwo hi
 conv=>whnf
 refine⟨fun h3=>?_,fun h3=>?_⟩
 ·have hi':i<e.counts.length:=by simpa using h3
  have hm:=Jj (hok.get hi') (Ep hwo i)
  conv=>whnf
  repeat(refine VC.mk (by first|(simp only[Rw.rng,Int.toNat_natCast]; omega)|(simp only[okI,Int.toNat_natCast] at *; omega)) ?_; conv=>whnf)
  refine⟨i+1,by omega,by omega,⟨⟨_,rfl,rfl⟩,⟨_,rfl,?_⟩,trivial⟩,?_,rfl⟩
  ·rw[mW]; rfl
  ·repeat' (first|exact trivial|exact⟨_,rfl,rfl⟩|constructor)
 ·have hi':i=e.counts.length:=by
   have: ¬ ((i:Int)<(e.counts.length:Int)):=of_decide_eq_false h3
   omega
  subst hi'
  conv=>whnf
  refine ak.eqv ?_
  rw[Tf,hw0,hwl,hel]; rfl
theorem S.og(p:aJ)(w:List Int)(e:Elem)(f:Bool)(hp:dA p)(hw:w.length<2^30)(he:e.counts.length<2^30):aj Tryz.prog 60 [.dat (.iC p),.row 0 f (.ints w),.dat (.elem e)] (.iF [.int (Tf p w e),.int (Jk p w e)]):=by
 refine aj.of Bd.og (by simp) rfl rfl ?_
 conv=>whnf
 refine ah.pure (S.iU p hp) rfl ?_
 conv=>whnf
 refine⟨fun h1=>?_,fun h1=>?_⟩
 ·have h1':qG p≠0:=by simpa using h1
  conv=>whnf
  refine ak.eqv ?_
  have hw1:Jk p w e=qG p:=by rw[Jk,h1]; rfl
  have h0:(qG p==0)=false:=by simpa using h1'
  rw[Tf,hw1,h0]; rfl
 have hc:qG p=0:=by simpa using h1
 conv=>whnf
 refine ah.pure (S.kU p w f hw) rfl ?_
 conv=>whnf
 refine .mk (by exact fun h=>⟨h,h⟩) ?_
 conv=>whnf
 refine ah.eY (fun _=>S.nK p e hp he) rfl ?_
 conv=>whnf
 repeat(refine VC.mk (by first|exact id|(intro h; rw[h]; rfl)) ?_; conv=>whnf)
 refine ah.eY (fun _=>S.mV e (by omega)) rfl ?_
 conv=>whnf
 repeat(refine VC.mk (by first|exact id|(intro h; rw[h]; rfl)) ?_; conv=>whnf)
 refine⟨fun h2=>?_,fun h2=>?_⟩
 ·conv=>whnf
  refine ak.eqv ?_
  have hw1:Jk p w e=1:=by
   rw[Jk,hc]
   cases hv:G6 p w with
   |false=>rfl
   |true =>
    have:sF p e=true:=by unfold sF; simpa [hv] using h2
    rw[this]; rfl
  rw[Tf,hw1]; rfl
 have hvc:G6 p w=true/\sF p e=false:=by unfold sF; simpa [and_assoc] using h2
 obtain⟨hv,h2⟩:=hvc
 obtain⟨hwl,hwo⟩:=Eo hv
 obtain⟨hel,hok⟩:=NZ h2
 have hst:=(Ji (yN (EP hc)).1).states
 have hw0:Jk p w e=0:=by rw[PV hc hv,h2]; rfl
 conv=>whnf
 refine aX.same [1,5] (fun i:Nat=>[(10,.int i),(9,.int (sumW e.counts w i))]) (fun i=>i<=w.length) (fun i=>w.length-i) 0 rfl (by decide) rfl (fun _=>rfl) (Nat.zero_le _) ⟨⟨_,rfl,rfl⟩,⟨_,rfl,rfl⟩,trivial⟩ ?_
 conv=>whnf
 refine⟨rfl,?_⟩
 rintro i hi
 have hs:=Lh hok hwo (show i<=e.counts.length by omega)
 conv=>whnf
 refine⟨fun h3=>?_,fun h3=>?_⟩
 ·have hi':i<w.length:=by simpa using h3
  have hm:=Jj (hok.get (show i<e.counts.length by omega)) (Ep hwo i)
  conv=>whnf
  repeat(refine VC.mk (by first|(simp only[Rw.rng,Int.toNat_natCast]; omega)|(simp only[okI,Int.toNat_natCast] at *; omega)) ?_; conv=>whnf)
  refine⟨i+1,by omega,by omega,⟨⟨_,rfl,rfl⟩,⟨_,rfl,?_⟩,trivial⟩,?_,rfl⟩
  ·rw[mW]; rfl
  ·repeat' (first|exact trivial|exact⟨_,rfl,rfl⟩|constructor)
 ·have hi':i=w.length:=by
   have: ¬ ((i:Int)<(w.length:Int)):=of_decide_eq_false h3
   omega
  subst hi'
  conv=>whnf
  refine ak.eqv ?_
  rw[Tf,hw0]; rfl
def qI(p:aJ)(w:List Int)(r:Int):Int:=bif pF p w !=0 then pF p w else zS p r
theorem TI{p:aJ}{r:Int}(hc:qG p=0)(h:zS p r=0):0<=r/\r.toNat<p.rules.length/\r<p.rules.length:=by
 unfold zS at h
 rw[hc] at h
 cases hb:(decide (r<0)||decide (r>=(p.rules.length:Int))) with
 |true=>rw[hb] at h; cases h
 |false=>rw[Bool.or_eq_false_iff,decide_eq_false_iff_not,decide_eq_false_iff_not] at hb; omega
theorem TJ{p:aJ}{w:List Int}{r:Int}(h1:pF p w=0)(h2:zS p r=0):NQ w.length (p.rules.getD r.toNat default)/\w.all NV=true/\0<=r/\r<p.rules.length:=by
 obtain⟨hc,hv⟩:=TG h1
 obtain⟨hwl,hwo⟩:=Eo hv
 obtain⟨a,b,c⟩:=TI hc h2
 exact⟨by rw[hwl]; exact wtR hc b,hwo,a,c⟩
def Jl(p:aJ)(w:List Int)(r:Int):Bool:=(qI p w r==0)&&xQ (p.rules.getD r.toNat default) w
def Jm(p:aJ)(w:List Int)(r:Int):Bool:=(qI p w r==0)&&Ef (p.rules.getD r.toNat default) w
theorem S.jW(p:aJ)(w:List Int)(r:Int)(f:Bool)(hp:dA p)(hw:w.length<2^30):aj Tryz.prog 57 [.dat (.iC p),.row 0 f (.ints w),.int r] (.iF [.bool (Jl p w r),.int (qI p w r)]):=by
 refine aj.of Bd.jW (by simp) rfl rfl ?_
 conv=>whnf
 refine ah.pure (S.dY p w f hp hw) rfl ?_
 conv=>whnf
 refine⟨fun h1=>?_,fun h1=>?_⟩
 ·conv=>whnf
  refine ak.eqv ?_
  have h0:(pF p w==0)=false:=by simpa using h1
  have hw1:qI p w r=pF p w:=by rw[qI,h1]; rfl
  rw[Jl,hw1,h0]; rfl
 have hw1:qI p w r=zS p r:=by rw[qI,h1]; rfl
 conv=>whnf
 refine ah.pure (S.gB p r hp) rfl ?_
 conv=>whnf
 refine⟨fun h2=>?_,fun h2=>?_⟩
 ·conv=>whnf
  refine ak.eqv ?_
  have h0:(zS p r==0)=false:=by simpa using h2
  rw[Jl,hw1,h0]; rfl
 obtain⟨hr,hwo,r1,r2⟩:=TJ (show pF p w=0 by simpa using h1) (show zS p r=0 by simpa using h2)
 conv=>whnf
 refine .mk (by simp only[Rw.rng]; omega) ?_
 conv=>whnf
 refine ah.pure (S.jU (p.rules.getD r.toNat default) w f hwo hr hw) rfl ?_
 conv=>whnf
 refine ak.eqv ?_
 rw[Jl,hw1,show zS p r=0 by simpa using h2]; rfl
theorem S.jq(p:aJ)(w:List Int)(r:Int)(f:Bool)(hp:dA p)(hw:w.length<2^30):aj Tryz.prog 58 [.dat (.iC p),.row 0 f (.ints w),.int r] (.iF [.bool (Jm p w r),.int (qI p w r)]):=by
 refine aj.of Bd.jq (by simp) rfl rfl ?_
 conv=>whnf
 refine ah.pure (S.dY p w f hp hw) rfl ?_
 conv=>whnf
 refine⟨fun h1=>?_,fun h1=>?_⟩
 ·conv=>whnf
  refine ak.eqv ?_
  have h0:(pF p w==0)=false:=by simpa using h1
  have hw1:qI p w r=pF p w:=by rw[qI,h1]; rfl
  rw[Jm,hw1,h0]; rfl
 have hw1:qI p w r=zS p r:=by rw[qI,h1]; rfl
 conv=>whnf
 refine ah.pure (S.gB p r hp) rfl ?_
 conv=>whnf
 refine⟨fun h2=>?_,fun h2=>?_⟩
 ·conv=>whnf
  refine ak.eqv ?_
  have h0:(zS p r==0)=false:=by simpa using h2
  rw[Jm,hw1,h0]; rfl
 obtain⟨hr,hwo,r1,r2⟩:=TJ (show pF p w=0 by simpa using h1) (show zS p r=0 by simpa using h2)
 conv=>whnf
 refine .mk (by simp only[Rw.rng]; omega) ?_
 conv=>whnf
 refine ah.pure (S.kG (p.rules.getD r.toNat default) w f hwo hr hw) rfl ?_
 conv=>whnf
 refine ak.eqv ?_
 rw[Jm,hw1,show zS p r=0 by simpa using h2]; rfl
theorem S.kX(p:aJ)(w:List Int)(r:Int)(f:Bool)(hp:dA p)(hw:w.length<2^30):aj Tryz.prog 109 [.dat (.iC p),.row 0 f (.ints w),.int r] (.int (qI p w r)):=by
 refine aj.of Bd.kX (by simp) rfl rfl ?_
 conv=>whnf
 refine ah.pure (S.iU p hp) rfl ?_
 conv=>whnf
 refine⟨fun h1=>?_,fun h1=>?_⟩
 ·conv=>whnf
  have h0:(qG p==0)=false:=by simpa using h1
  have hc:pF p w=qG p:=by rw[pF,h0]; rfl
  exact ak.int (by rw[qI,hc,h1]; rfl)
 have hc:qG p=0:=by simpa using h1
 conv=>whnf
 refine ah.pure (S.kU p w f hw) rfl ?_
 conv=>whnf
 refine⟨fun h2=>?_,fun h2=>?_⟩
 ·conv=>whnf
  have:pF p w=1:=by rw[pF,hc,show G6 p w=false by simpa using h2]; rfl
  exact ak.int (by rw[qI,this]; rfl)
 have hc0:pF p w=0:=by rw[pF,hc,show G6 p w=true by simpa using h2]; rfl
 conv=>whnf
 repeat(refine VC.mk (by first|exact id|exact fun h=>⟨h,h⟩|(intro h; rw[h]; rfl)) ?_; conv=>whnf)
 refine⟨fun h3=>?_,fun h3=>?_⟩
 ·conv=>whnf
  exact ak.int (by rw[qI,hc0,zS,hc,show(decide (r<0)||decide (r>=(p.rules.length:Int)))=true from h3]; rfl)
 ·conv=>whnf
  exact ak.int (by rw[qI,hc0,zS,hc,show(decide (r<0)||decide (r>=(p.rules.length:Int)))=false from h3]; rfl)
theorem CP{p:aJ}{w:List Int}{r:Int}(h:qI p w r=0):pF p w=0/\zS p r=0:=by
 unfold qI at h
 by_cases h0:pF p w=0
 ·rw[h0] at h; exact⟨h0,h⟩
 ·have:(pF p w !=0)=true:=by simpa using h0
  rw[this] at h; exact absurd h h0
theorem S.lZ(p:aJ)(w:List Int)(r:Int)(f:Bool)(hp:dA p)(hw:w.length<2^30):aj Tryz.prog 61 [.dat (.iC p),.row 0 f (.ints w),.int r] (.iF [.bool (Jl p w r),.int (qI p w r)]):=by
 refine aj.of Bd.lZ (by simp) rfl rfl ?_
 conv=>whnf
 refine ah.pure (S.kX p w r f hp hw) rfl ?_
 conv=>whnf
 refine⟨fun h1=>?_,fun h1=>?_⟩
 ·conv=>whnf
  refine ak.eqv ?_
  rw[Jl,show(qI p w r==0)=false by simpa using h1]; rfl
 have h0:qI p w r=0:=by simpa using h1
 obtain⟨hr,hwo,r1,r2⟩:=TJ (CP h0).1 (CP h0).2
 conv=>whnf
 refine .mk (by simp only[Rw.rng]; omega) ?_
 conv=>whnf
 refine ah.pure (S.kW (p.rules.getD r.toNat default) w f hwo hr hw) rfl ?_
 conv=>whnf
 refine ak.eqv ?_
 rw[Jl,h0]; rfl
theorem S.lD(p:aJ)(w:List Int)(r:Int)(f:Bool)(hp:dA p)(hw:w.length<2^30):aj Tryz.prog 62 [.dat (.iC p),.row 0 f (.ints w),.int r] (.iF [.bool (Jm p w r),.int (qI p w r)]):=by
 refine aj.of Bd.lD (by simp) rfl rfl ?_
 conv=>whnf
 refine ah.pure (S.kX p w r f hp hw) rfl ?_
 conv=>whnf
 refine⟨fun h1=>?_,fun h1=>?_⟩
 ·conv=>whnf
  refine ak.eqv ?_
  rw[Jm,show(qI p w r==0)=false by simpa using h1]; rfl
 have h0:qI p w r=0:=by simpa using h1
 obtain⟨hr,hwo,r1,r2⟩:=TJ (CP h0).1 (CP h0).2
 conv=>whnf
 refine .mk (by simp only[Rw.rng]; omega) ?_
 conv=>whnf
 refine ah.pure (S.lC (p.rules.getD r.toNat default) w f hwo hr hw) rfl ?_
 conv=>whnf
 refine ak.eqv ?_
 rw[Jm,h0]; rfl
def x8(p:aJ)(r x:Int):Int:=bif zS p r !=0 then zS p r else bif decide (x<0)||decide (x>=(p.states.length:Int)) then 5 else 0
def Jo(p:aJ)(r x:Int):Bool:=(x8 p r x==0)&&Zg (p.rules.getD r.toNat default) x
theorem aa1{p:aJ}{r:Int}(h:zS p r=0):qG p=0:=by
 by_cases h0:qG p=0
 ·exact h0
 ·unfold zS at h
  rw[show(qG p==0)=false by simpa using h0] at h; exact absurd h h0
theorem S.oh(p:aJ)(r x:Int)(hp:dA p):aj Tryz.prog 63 [.dat (.iC p),.int r,.int x] (.iF [.bool (Jo p r x),.int (x8 p r x)]):=by
 refine aj.of Bd.oh (by simp) rfl rfl ?_
 conv=>whnf
 refine ah.pure (S.gB p r hp) rfl ?_
 conv=>whnf
 refine⟨fun h1=>?_,fun h1=>?_⟩
 ·conv=>whnf
  refine ak.eqv ?_
  have h0:(zS p r==0)=false:=by simpa using h1
  have:x8 p r x=zS p r:=by rw[x8,h1]; rfl
  rw[Jo,this,h0]; rfl
 have hr0:zS p r=0:=by simpa using h1
 have hc:=aa1 hr0
 obtain⟨r1,r2,r3⟩:=TI hc hr0
 conv=>whnf
 repeat(refine VC.mk (by first|exact id|exact fun h=>⟨h,h⟩|(intro h; rw[h]; rfl)) ?_; conv=>whnf)
 refine⟨fun h2=>?_,fun h2=>?_⟩
 ·conv=>whnf
  refine ak.eqv ?_
  have:x8 p r x=5:=by rw[x8,h1,show(decide (x<0)||decide (x>=(p.states.length:Int)))=true from h2]; rfl
  rw[Jo,this]; rfl
 have hx:0<=x/\x<p.states.length:=by
  have h2:(decide (x<0)||decide (x>=(p.states.length:Int)))=false:=h2
  rw[Bool.or_eq_false_iff,decide_eq_false_iff_not,decide_eq_false_iff_not] at h2; omega
 conv=>whnf
 refine .mk (by simp only[Rw.rng]; omega) ?_
 conv=>whnf
 refine ah.pure (S.nZ (p.rules.getD r.toNat default) x p.states.length (wtR hc r2) hx) rfl ?_
 conv=>whnf
 refine ak.eqv ?_
 have:x8 p r x=0:=by rw[x8,h1,show(decide (x<0)||decide (x>=(p.states.length:Int)))=false from h2]; rfl
 rw[Jo,this]; rfl
theorem S.pO(p:aJ)(r x:Int)(hp:dA p):aj Tryz.prog 64 [.dat (.iC p),.int r,.int x] (.iF [.bool (Jo p r x),.int (x8 p r x)]):=by
 refine aj.of Bd.pO (by simp) rfl rfl ?_
 conv=>whnf
 refine ah.pure (S.iU p hp) rfl ?_
 conv=>whnf
 refine⟨fun h1=>?_,fun h1=>?_⟩
 ·conv=>whnf
  refine ak.eqv ?_
  have h0:(qG p==0)=false:=by simpa using h1
  have h2:zS p r=qG p:=by rw[zS,h0]; rfl
  have:x8 p r x=qG p:=by rw[x8,h2,h1]; rfl
  rw[Jo,this,h0]; rfl
 have hc:qG p=0:=by simpa using h1
 conv=>whnf
 repeat(refine VC.mk (by first|exact id|exact fun h=>⟨h,h⟩|(intro h; rw[h]; rfl)) ?_; conv=>whnf)
 refine⟨fun h3=>?_,fun h3=>?_⟩
 ·conv=>whnf
  refine ak.eqv ?_
  have h2:zS p r=6:=by rw[zS,hc,show(decide (r<0)||decide (r>=(p.rules.length:Int)))=true from h3]; rfl
  have:x8 p r x=6:=by rw[x8,h2]; rfl
  rw[Jo,this]; rfl
 have hr0:zS p r=0:=by rw[zS,hc,show(decide (r<0)||decide (r>=(p.rules.length:Int)))=false from h3]; rfl
 obtain⟨r1,r2,r3⟩:=TI hc hr0
 conv=>whnf
 repeat(refine VC.mk (by first|exact id|exact fun h=>⟨h,h⟩|(intro h; rw[h]; rfl)) ?_; conv=>whnf)
 refine⟨fun h2=>?_,fun h2=>?_⟩
 ·conv=>whnf
  refine ak.eqv ?_
  have:x8 p r x=5:=by rw[x8,hr0,show(decide (x<0)||decide (x>=(p.states.length:Int)))=true from h2]; rfl
  rw[Jo,this]; rfl
 have hx:0<=x/\x<p.states.length:=by
  have h2:(decide (x<0)||decide (x>=(p.states.length:Int)))=false:=h2
  rw[Bool.or_eq_false_iff,decide_eq_false_iff_not,decide_eq_false_iff_not] at h2; omega
 conv=>whnf
 refine .mk (by simp only[Rw.rng]; omega) ?_
 conv=>whnf
 refine ah.pure (S.pK (p.rules.getD r.toNat default) x p.states.length (wtR hc r2) hx) rfl ?_
 conv=>whnf
 refine ak.eqv ?_
 have:x8 p r x=0:=by rw[x8,hr0,show(decide (x<0)||decide (x>=(p.states.length:Int)))=false from h2]; rfl
 rw[Jo,this]; rfl
def YE(l:List Elem):Bool:=l.any fun e=>decide (8<e.counts.length)
theorem S.mg(l:List Elem)(f:Bool)(hl:l.length<2^40)(_hs:N8 l):aj Tryz.prog 29 [.row 3 f (.elems l)] (.bool (YE l)):=by
 refine aj.of Bd.mg (by simp) rfl rfl ?_
 conv=>whnf
 refine aX.same [0] (fun i:Nat=>[(3,.int i)]) (fun i=>i<=l.length/\YE (l.take i)=false) (fun i=>l.length-i) 0 rfl (by decide) rfl (fun _=>rfl) ⟨Nat.zero_le _,rfl⟩ ⟨⟨_,rfl,rfl⟩,trivial⟩ ?_
 conv=>whnf
 refine⟨rfl,?_⟩
 rintro i ⟨hi,hno⟩
 conv=>whnf
 refine⟨fun h3=>?_,fun h3=>?_⟩
 ·have hi':i<l.length:=by simpa using h3
  have hc:decide (8<(l.getD i default).counts.length)=decide ((8:Int)<((l.getD i default).counts.length:Int)):=by
   rw[decide_eq_decide]; omega
  conv=>whnf
  refine .mk (by simp only[Rw.rng] at *; first|omega|(simp_all; done)|(simp_all; omega)) ?_
  conv=>whnf
  refine⟨fun h4=>?_,fun h4=>?_⟩
  ·conv=>whnf
   exact ak.bool (iY (p:=fun e:Elem=>decide (8<e.counts.length)) (d:=default) hi' (hc.trans h4))
  ·conv=>whnf
   refine .mk (by simp only[okI] at *; first|omega|(simp_all; done)|(simp_all; omega)) ?_
   conv=>whnf
   refine⟨i+1,⟨by omega,(kL (p:=fun e:Elem=>decide (8<e.counts.length)) (d:=default) hi' hno).trans (hc.trans h4)⟩,by omega,⟨⟨_,rfl,rfl⟩,trivial⟩,?_,rfl⟩
   repeat' (first|exact trivial|exact⟨_,rfl,rfl⟩|constructor)
 ·have hi':l.length<=i:=by simpa using h3
  rw[List.take_of_length_le hi'] at hno
  conv=>whnf
  exact ak.bool hno
theorem TK{h:Hz}{j:Nat}{l:List Elem}{vs:List V}{Z:Nat->Prop}(hz:Z j)(q:h.get j=some (.row 50 3 .nil vs))(e:V.bQ vs=l.map uj):T.sub Z h.aI (V.row 3 false (.elems l)).aG (V.own j).aG:=by
 show T.sub Z h.aI (.sl 3 false (l.map uj)) (.own j)
 simp only[T.sub]
 exact⟨trivial,hz,N9 l,by decide,50,by rw[<- e]; exact cu q⟩
theorem EU{c:List Int}{i j:Nat}{v:Int}(hi:i<c.length):(c.set i v).getD j 0=if j=i then v else c.getD j 0:=by
 rw[List.getD_eq_getElem?_getD,List.getD_eq_getElem?_getD]
 by_cases e:j=i
 ·subst e; simp[hi]
 ·rw[if_neg e,List.getElem?_set_ne (fun h=>e h.symm)]
theorem Lj{c w:List Int}{i:Nat}{v:Int}(hi:i<c.length): ∀ {n:Nat},sumW (c.set i v) w n=sumW c w n+(if i<n then(v-c.getD i 0)*w.getD i 0 else 0):=by
 intro n
 induction n with
 |zero=>simp[sumW]
 |succ n ih =>
  rw[mW,mW,ih,EU hi]
  by_cases e:n=i
  ·subst e
   rw[if_pos rfl,if_neg (Nat.lt_irrefl _),if_pos (Nat.lt_succ_self _),Int.sub_mul]; omega
  ·rw[if_neg e]
   by_cases h:i<n
   ·rw[if_pos h,if_pos (by omega)]; omega
   ·rw[if_neg h,if_neg (by omega)]; omega
theorem Ll{c w:List Int}{i d:Int}(hi:0<=i/\i<c.length):sumW (kM c i d) w c.length=sumW c w c.length+d*wt w i:=by
 unfold kM wt
 rw[Lj (by omega),if_pos (by omega)]
 have:c.getD i.toNat 0+d-c.getD i.toNat 0=d:=by omega
 rw[this]
theorem AP{c w:List Int}{i:Int}(hi:0<=i/\i<c.length):sumW (dn c i) w c.length=sumW c w c.length-wt w i:=by
 unfold dn wt
 rw[Lj (by omega),if_pos (by omega)]
 have:c.getD i.toNat 0-1-c.getD i.toNat 0= -1:=by omega
 rw[this]; omega
def Lm(r:Rule)(c w:List Int)(k:Nat):Int:=(List.range k).foldl (fun a j=>a+c.getD j 0*wt w (r.response.getD j 0)) 0
theorem CQ{r:Rule}{c w:List Int}{k:Nat}:Lm r c w (k+1)=Lm r c w k+c.getD k 0*wt w (r.response.getD k 0):=by
 unfold Lm; rw[List.range_succ,List.foldl_append]; rfl
theorem QU{n w:Nat}{l:List Int}:sumW (List.replicate n 0) l w=0:=by
 induction w with
 |zero=>rfl
 |succ w ih =>
  rw[mW,ih,List.getD_eq_getElem?_getD]
  have:((List.replicate n (0:Int))[w]?.getD 0)=0:=by
   rw[List.getElem?_replicate]; split<;>rfl
  rw[this]; simp
theorem TL{r:Rule}{c w:List Int}(hr:pJ c.length r.response): ∀ {k:Nat},k<=r.response.length->sumW (qX r c k) w c.length=Lm r c w k:=by
 intro k
 induction k with
 |zero=>intro _; exact QU
 |succ k ih =>
  intro hk
  have hl:=vg (r:=r) (c:=c) (i:=k)
  have:=Ll (c:=qX r c k) (w:=w) (i:=r.response.getD k 0) (d:=c.getD k 0) (by rw[hl]; exact yO hr (by omega))
  rw[hl] at this
  rw[yQ,this,ih (by omega),CQ]
theorem WS{r:Rule}{c w:List Int}(hc: ∀ j,0<=c.getD j 0): ∀ {k:Nat},(∀ j,j<k->wt w (r.response.getD j 0)<=w.getD j 0)->Lm r c w k<=sumW c w k:=by
 intro k
 induction k with
 |zero=>intro _; simp[Lm,sumW]
 |succ k ih =>
  intro h
  rw[CQ,mW]
  have h1:=ih fun j hj=>h j (by omega)
  have h2:=Int.mul_le_mul_of_nonneg_left (h k (by omega)) (hc k)
  omega
theorem Lp{r:Rule}{e x:Elem}(w:List Int)(hr:NQ e.counts.length r)(hx:kN r e=some x):sumW x.counts w e.counts.length =
  if r.kind=3 then Lm r (dn e.counts r.fr) w e.counts.length+wt w r.to else sumW e.counts w e.counts.length+xP r w:=by
 have p1:=hr.place.src; have p2:=hr.place.dst; have p3:=hr.place.TA; have p4:=hr.place.TB
 have d1:=AP (w:=w) p1
 have l1:(dn e.counts r.fr).length=e.counts.length:=pR
 have a1: ∀ {c:List Int} {i d:Int},c.length=e.counts.length->0<=i/\i<e.counts.length->sumW (kM c i d) w e.counts.length=sumW c w e.counts.length+d*wt w i:=by
  intro c i d hl hi
  have:=Ll (c:=c) (w:=w) (d:=d) (by rw[hl]; exact hi)
  rw[hl] at this; exact this
 have b1: ∀ {c:List Int} {i:Int},c.length=e.counts.length->0<=i/\i<e.counts.length->sumW (dn c i) w e.counts.length=sumW c w e.counts.length-wt w i:=by
  intro c i hl hi
  have:=AP (c:=c) (w:=w) (by rw[hl]; exact hi)
  rw[hl] at this; exact this
 unfold kN at hx
 simp only at hx
 cases h0:(decide (0<=r.read)&&e.value !=r.read||e.counts.getD r.fr.toNat 0==0) with
 |true=>rw[h0] at hx; cases hx
 |false =>
  rw[h0] at hx
  simp only[cond_false] at hx
  cases k1:r.kind==1 with
  |true =>
   have k1':r.kind=1:=by simpa using k1
   rw[k1] at hx
   simp only[cond_true] at hx
   cases ha:Jp r (dn e.counts r.fr) with
   |false=>rw[ha] at hx; cases hx
   |true =>
    rw[ha] at hx
    simp only[Bool.not_true,cond_false,Option.some.injEq] at hx
    subst hx
    rw[if_neg (by omega),a1 l1 p2,b1 rfl p1,xP,show(r.kind==2)=false by rw[k1']; rfl]
    simp only[cond_false]; omega
  |false =>
   rw[k1] at hx
   simp only[cond_false] at hx
   cases k2:r.kind==2 with
   |true =>
    have k2':r.kind=2:=by simpa using k2
    rw[k2] at hx
    simp only[cond_true] at hx
    cases ha:((dn e.counts r.fr).getD r.ig.toNat 0==0) with
    |true=>rw[ha] at hx; cases hx
    |false =>
     rw[ha] at hx
     simp only[cond_false,Option.some.injEq] at hx
     subst hx
     have l2:(dn (dn e.counts r.fr) r.ig).length=e.counts.length:=by rw[pR,l1]
     rw[if_neg (by omega),a1 (by rw[CS,l2]) p2,a1 l2 p4,b1 l1 p3,b1 rfl p1,xP,k2]
     simp only[cond_true]; omega
   |false =>
    rw[k2] at hx
    simp only[cond_false] at hx
    cases k3:r.kind==3 with
    |true =>
     have k3':r.kind=3:=by simpa using k3
     obtain⟨q1,q2⟩:=hr.place.rsp k3'
     rw[k3] at hx
     simp only[cond_true,Option.some.injEq] at hx
     subst hx
     have hs:=TL (c:=dn e.counts r.fr) (w:=w) (by rw[l1]; exact q2) (k:=e.counts.length) (by omega)
     rw[l1] at hs
     rw[if_pos k3',a1 (by rw[vg,l1]) p2,l1,hs]; omega
    |false =>
     have k3':r.kind≠3:=by simpa using k3
     rw[k3] at hx
     simp only[cond_false,Option.some.injEq] at hx
     subst hx
     rw[if_neg k3',a1 l1 p2,b1 rfl p1,xP,k2]
     simp only[cond_false]; omega
theorem QV{r:Rule}{e x:Elem}{w:List Int}(hr:NQ e.counts.length r)(hc:TF e.counts)(hx:kN r e=some x)(hu:xQ r w=false):sumW x.counts w e.counts.length<=sumW e.counts w e.counts.length+xP r w:=by
 unfold xQ at hu
 rw[Bool.or_eq_false_iff] at hu
 rw[Lp w hr hx]
 split
 ·rename_i k3
  obtain⟨q1,q2⟩:=hr.place.rsp k3
  have h0:(decide (0<=r.read)&&e.value !=r.read||e.counts.getD r.fr.toNat 0==0)=false:=by
   cases h0:(decide (0<=r.read)&&e.value !=r.read||e.counts.getD r.fr.toNat 0==0) with
   |false=>rfl
   |true=>unfold kN at hx; simp only[h0,cond_true] at hx; cases hx
  have hle:=WS (r:=r) (w:=w) (c:=dn e.counts r.fr) (PW hc h0) (k:=e.counts.length) (fun j hj=>by
   have hn: ¬ TD r w j=true:=fun h=>by
    have:=NY (show j<r.response.length by omega) h
    rw[this] at hu; cases hu.1
   unfold TD at hn
   simpa using hn)
  have hd:=AP (w:=w) hr.place.src
  have hch:xP r w=wt w r.to-wt w r.fr:=by rw[xP,k3]; rfl
  rw[hch]; omega
 ·exact Int.le_refl _
theorem EW{n:Nat}: ∀ {c:List Int} {k:Nat},k<=n->k<=c.length->sumW c (List.replicate n 1) k=(c.take k).sum:=by
 intro c k
 induction k with
 |zero=>intro _ _; simp[sumW]
 |succ k ih =>
  intro h1 h2
  have e1:(List.replicate n (1:Int)).getD k 0=1:=by
   rw[List.getD_eq_getElem?_getD,List.getElem?_replicate,if_pos (by omega)]; rfl
  rw[mW,ih (by omega) (by omega),EX (by omega),e1,Int.mul_one]
theorem AQ{n:Nat}{x:Int}(h:0<=x/\x<n):wt (List.replicate n 1) x=1:=by
 unfold wt
 rw[List.getD_eq_getElem?_getD,List.getElem?_replicate,if_pos (by omega)]; rfl
theorem QW{r:Rule}{c:List Int}{n:Nat}(hr:pJ n r.response): ∀ {k:Nat},k<=r.response.length->k<=n->Lm r c (List.replicate n 1) k=sumW c (List.replicate n 1) k:=by
 intro k
 induction k with
 |zero=>intro _ _; rfl
 |succ k ih =>
  intro h1 h2
  have e1:(List.replicate n (1:Int)).getD k 0=1:=by
   rw[List.getD_eq_getElem?_getD,List.getElem?_replicate,if_pos (by omega)]; rfl
  rw[CQ,mW,ih (by omega) (by omega),AQ (yO hr (by omega)),e1]
theorem Oa{r:Rule}{e x:Elem}(hr:NQ e.counts.length r)(hx:kN r e=some x):x.counts.sum=e.counts.sum:=by
 have h:=Lp (List.replicate e.counts.length 1) hr hx
 have hl:=Ig hx
 rw[EW (Nat.le_refl _) (by omega),EW (Nat.le_refl _) (Nat.le_refl _),List.take_of_length_le (by omega),List.take_of_length_le (Nat.le_refl _)] at h
 rw[h]
 have p1:=AQ hr.place.src; have p2:=AQ hr.place.dst; have p3:=AQ hr.place.TA; have p4:=AQ hr.place.TB
 split
 ·rename_i k3
  obtain⟨q1,q2⟩:=hr.place.rsp k3
  have hd:=AP (w:=List.replicate e.counts.length 1) hr.place.src
  rw[QW q2 (by omega) (Nat.le_refl _),p2,hd,p1,EW (Nat.le_refl _) (Nat.le_refl _),List.take_of_length_le (Nat.le_refl _)]; omega
 ·unfold xP
  rw[p1,p2,p3,p4]
  cases r.kind==2<;>simp
theorem PX{e:Elem}(hl:e.counts.length<=6)(h:e.counts.all CG=true):uY e=e.counts.sum:=by
 rw[uY,if_neg (by omega),if_pos h]
theorem TM{p:aJ}{e:Elem}(h:uM p e=false):e.counts.all CG=true:=by
 simp only[uM,Bool.or_eq_false_iff] at h
 simpa using h.1.1.2
theorem TN{p:aJ}{r:Rule}{e x:Elem}(hst:p.states.length<=6)(hr:NQ e.counts.length r)(he:sF p e=false)(hx:kN r e=some x)(hv:uM p x=false):sF p x=false:=by
 unfold sF at he ⊢
 rw[Bool.or_eq_false_iff] at he ⊢
 refine⟨hv,?_⟩
 have h1:=(N7 he.1).1
 have h2:=(N7 hv).1
 have t1:=PX (by omega) (TM he.1)
 have t2:=PX (by omega) (TM hv)
 rw[t2,Oa hr hx,<- t1]; exact he.2
end Go.Proofs.YtkomllaebngbfaaGreatDoor
