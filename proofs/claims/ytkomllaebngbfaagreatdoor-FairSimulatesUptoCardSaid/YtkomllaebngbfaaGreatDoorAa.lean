/-
 fair and its reference: families, kinds, rules. No condition.
-/
import Derived.Test.YtkomllaebngbfaaGreatDoorFa
import Derived.Test.YtkomllaebngbfaaGreatDoorRb
namespace Go.Proofs.YtkomllaebngbfaaGreatDoor
open Go.Ab Go.Proofs
set_option maxRecDepth 100000
def zX(p:aN):Int:=bif bY p !=0 then bY p else bif (nD p).monadic then 0 else 7
theorem cf1(p:aN):zX p=bif ((bY p==0)&& !(bif bY p !=0 then KY else nD p).monadic) then 7 else bY p:=by
 unfold zX bne
 cases hz:bY p==0 with
 |true =>
  simp only[Bool.not_true,cond_false,Bool.true_and]
  cases (nD p).monadic<;>simp[show bY p=0 from beq_iff_eq.1 hz]
 |false=>rfl
def wE(p:aN)(q:Prop'):Int:=bif jO p q !=0 then jO p q else zX p
def Ho(p:aN)(r:Int):Int:=bif (zX p==0)&&(decide (r<0)||decide (r>=(p.rules.length:Int))) then 6 else zX p
theorem S.eH(p:aN)(hp:dH p):aj Tryz.prog 95 [.dat (.iY p)] (.int (zX p)):=by
 refine aj.of Bd.eH (by simp) rfl rfl ?_
 conv=>whnf
 refine ah.pure (S.fU p hp) rfl ?_
 conv=>whnf
 repeat(refine VC.mk id ?_; conv=>whnf)
 refine⟨fun h1=>?_,fun h1=>?_⟩
 ·conv=>whnf
  exact ak.int (by rw[cf1,h1]; rfl)
 ·conv=>whnf
  exact ak.int (by rw[cf1,h1]; rfl)
theorem S.pz(p:aN)(q:Prop')(hp:dH p)(hq:qM q):aj Tryz.prog 50 [.dat (.iY p),.dat (.prop q)] (.int (wE p q)):=by
 refine aj.of Bd.pz (by simp) rfl rfl ?_
 conv=>whnf
 refine ah.pure (S.dh p q hp hq) rfl ?_
 conv=>whnf
 refine⟨fun h1=>?_,fun h1=>?_⟩
 ·conv=>whnf
  exact ak.int (by rw[wE,h1]; rfl)
 ·conv=>whnf
  refine ah.pure (S.eH p hp) rfl ?_
  conv=>whnf
  exact ak.int (by rw[wE,h1]; rfl)
theorem S.jl(p:aN)(r:Int)(hp:dH p):aj Tryz.prog 78 [.dat (.iY p),.int r] (.int (Ho p r)):=by
 refine aj.of Bd.jl (by simp) rfl rfl ?_
 conv=>whnf
 refine ah.pure (S.eH p hp) rfl ?_
 conv=>whnf
 repeat(refine VC.mk (by first|exact id|exact fun h=>⟨h,h⟩|(intro h; simp[h]; done)) ?_; conv=>whnf)
 refine⟨fun h1=>?_,fun h1=>?_⟩
 ·conv=>whnf
  exact ak.int (by rw[Ho,h1]; rfl)
 ·conv=>whnf
  exact ak.int (by rw[Ho,h1]; rfl)
theorem S.nK(p:aN)(hp:dH p):aj Tryz.prog 103 [.dat (.iY p)] (.int (zX p)):=by
 refine aj.of Bd.nK (by simp) rfl rfl ?_
 conv=>whnf
 refine ah.pure (S.kR p hp) rfl ?_
 conv=>whnf
 refine⟨fun h1=>?_,fun h1=>?_⟩
 ·conv=>whnf
  exact ak.int (by rw[zX,h1]; rfl)
 ·conv=>whnf
  refine⟨fun h2=>?_,fun h2=>?_⟩
  ·conv=>whnf
   exact ak.int (by rw[h1] at h2; rw[zX,h1]; simp only[cond_false] at h2 ⊢; rw[show(nD p).monadic=false by simpa using h2]; rfl)
  ·conv=>whnf
   exact ak.int (by rw[h1] at h2; rw[zX,h1]; simp only[cond_false] at h2 ⊢; rw[show(nD p).monadic=true by simpa using h2]; rfl)
theorem S.rF(p:aN)(q:Prop')(hp:dH p)(hq:qM q):aj Tryz.prog 51 [.dat (.iY p),.dat (.prop q)] (.int (wE p q)):=by
 refine aj.of Bd.rF (by simp) rfl rfl ?_
 conv=>whnf
 refine ah.pure (S.dW p q hp hq) rfl ?_
 conv=>whnf
 refine⟨fun h1=>?_,fun h1=>?_⟩
 ·conv=>whnf
  exact ak.int (by rw[wE,h1]; rfl)
 ·conv=>whnf
  refine ah.pure (S.nK p hp) rfl ?_
  conv=>whnf
  exact ak.int (by rw[wE,h1]; rfl)
def Rq(n:Int):Bool:= !(decide (2<n))
def cvB(p:aN)(e:Elem):Bool:=(KZ p e !=0)||(oN e==0)
def yX(p:aN)(a:Elem):Int:=bif cvB p a then 1 else bif a.counts.all Rq then 0 else 1
def MX(p:aN)(a:Elem):Int:=bif zX p !=0 then zX p else yX p a
theorem S.gI(p:aN)(a:Elem)(hp:dH p)(ha:a.counts.length<2^30):aj Tryz.prog 79 [.dat (.iY p),.dat (.elem a)] (.int (yX p a)):=by
 refine aj.of Bd.gI (by simp) rfl rfl ?_
 conv=>whnf
 refine ah.pure (S.fF p a hp ha) rfl ?_
 conv=>whnf
 refine VC.mk id ?_
 conv=>whnf
 refine ah.fD (fun _=>S.jP a (by omega)) rfl ?_
 conv=>whnf
 repeat(refine VC.mk (by first|exact id|(intro h; rw[h]; rfl)) ?_; conv=>whnf)
 refine⟨fun h1=>?_,fun h1=>?_⟩
 ·conv=>whnf
  exact ak.int (by rw[yX,show cvB p a=true from h1]; rfl)
 have hc:cvB p a=false:=h1
 conv=>whnf
 refine aK.same [2,3,17,18] (fun i:Nat=>[(19,.int i)]) (fun i=>i<=a.counts.length/\(a.counts.take i).all Rq=true) (fun i=>a.counts.length-i) 0 rfl (by decide) rfl (fun _=>rfl) ⟨by omega,by simp⟩ ⟨⟨_,rfl,rfl⟩,trivial⟩ ?_
 conv=>whnf
 refine⟨rfl,?_⟩
 rintro i ⟨hi,hall⟩
 conv=>whnf
 refine⟨fun h3=>?_,fun h3=>?_⟩
 ·have hi':i<a.counts.length:=by simpa using h3
  conv=>whnf
  refine .mk (by simp only[Rw.rng] at *; first|omega|(simp_all; done)|(simp_all; omega)) ?_
  conv=>whnf
  refine⟨fun h4=>?_,fun h4=>?_⟩
  ·conv=>whnf
   refine ak.int ?_
   rw[yX,hc,uV (d:=0) hi' (by simpa [Rq] using h4)]; rfl
  ·conv=>whnf
   refine .mk (by simp only[okI] at *; first|omega|(simp_all; done)|(simp_all; omega)) ?_
   conv=>whnf
   refine⟨i+1,⟨by omega,?_⟩,by omega,⟨⟨_,rfl,rfl⟩,trivial⟩,?_,rfl⟩
   ·rw[xO (d:=0) hi' hall]; simpa [Rq] using h4
   ·repeat' (first|exact trivial|exact⟨_,rfl,rfl⟩|constructor)
 ·have hi':a.counts.length<=i:=by simpa using h3
  conv=>whnf
  refine ak.int ?_
  rw[List.take_of_length_le hi'] at hall
  rw[yX,hc,hall]; rfl
theorem S.jA(p:aN)(a:Elem)(hp:dH p)(ha:a.counts.length<2^30):aj Tryz.prog 52 [.dat (.iY p),.dat (.elem a)] (.int (MX p a)):=by
 refine aj.of Bd.jA (by simp) rfl rfl ?_
 conv=>whnf
 refine ah.pure (S.eH p hp) rfl ?_
 conv=>whnf
 refine⟨fun h1=>?_,fun h1=>?_⟩
 ·conv=>whnf
  exact ak.int (by rw[MX,h1]; rfl)
 ·conv=>whnf
  refine ah.pure (S.gI p a hp ha) rfl ?_
  conv=>whnf
  exact ak.int (by rw[MX,h1]; rfl)
def OW(p:aN)(a:Elem):Bool:=bif xP p a then false else bif a.counts.all Rq then decide (0<oN a) else false
theorem RD(e:Elem):0<=oN e:=by
 unfold oN
 split
 ·omega
 ·split
  ·rename_i h; exact(uH h).1
  ·omega
theorem Fz{p:aN}(h:zX p=0):MZ p=0:=by
 unfold zX at h
 unfold MZ
 cases hv:(bY p !=0) with
 |true=>rw[hv] at h; simp only[cond_true] at h; rw[h] at hv; simp at hv
 |false =>
  rw[hv] at h
  simp only[cond_false] at h ⊢
  cases hm:(nD p).monadic with
  |true=>simp
  |false=>rw[hm] at h; cases h
theorem acF{p:aN}(h:zX p=0)(e:Elem):KZ p e=fE (xP p e) 1:=by
 rw[KZ,Fz h]; rfl
def xQ(p:aN)(e:Elem):Bool:=xP p e||(oN e==0)
theorem FB{p:aN}(h:zX p=0)(e:Elem):cvB p e=xQ p e:=by
 unfold cvB xQ
 rw[acF h]
 cases xP p e<;>rfl
theorem Ul{p:aN}(h:zX p=0)(a:Elem):yX p a=bif OW p a then 0 else 1:=by
 unfold yX OW
 rw[FB h]
 unfold xQ
 have:=RD a
 cases xP p a with
 |true=>rfl
 |false =>
  simp only[Bool.false_or,cond_false]
  by_cases h0:oN a=0
  ·simp[h0]
  ·have h1:(oN a==0)=false:=by simpa using h0
   have h2:decide (0<oN a)=true:=by simp; omega
   rw[h1,h2]; cases a.counts.all Rq<;>rfl
theorem S.lV(p:aN)(a:Elem)(hp:dH p)(ha:a.counts.length<2^30):aj Tryz.prog 85 [.dat (.iY p),.dat (.elem a)] (.bool (OW p a)):=by
 refine aj.of Bd.lV (by simp) rfl rfl ?_
 conv=>whnf
 refine ah.pure (S.sO p a hp ha) rfl ?_
 conv=>whnf
 refine⟨fun h1=>?_,fun h1=>?_⟩
 ·conv=>whnf
  exact ak.bool (by rw[OW,show xP p a=true by simpa using h1]; rfl)
 have hv:xP p a=false:=by simpa using h1
 conv=>whnf
 refine aK.same [2,3] (fun i:Nat=>[(5,.int i)]) (fun i=>i<=a.counts.length/\(a.counts.take i).all Rq=true) (fun i=>a.counts.length-i) 0 rfl (by decide) rfl (fun _=>rfl) ⟨by omega,by simp⟩ ⟨⟨_,rfl,rfl⟩,trivial⟩ ?_
 conv=>whnf
 refine⟨rfl,?_⟩
 rintro i ⟨hi,hall⟩
 conv=>whnf
 refine⟨fun h3=>?_,fun h3=>?_⟩
 ·have hi':i<a.counts.length:=by simpa using h3
  conv=>whnf
  refine .mk (by simp only[Rw.rng] at *; first|omega|(simp_all; done)|(simp_all; omega)) ?_
  conv=>whnf
  refine⟨fun h4=>?_,fun h4=>?_⟩
  ·conv=>whnf
   refine ak.bool ?_
   rw[OW,hv,uV (d:=0) hi' (by simpa [Rq] using h4)]; rfl
  ·conv=>whnf
   refine .mk (by simp only[okI] at *; first|omega|(simp_all; done)|(simp_all; omega)) ?_
   conv=>whnf
   refine⟨i+1,⟨by omega,?_⟩,by omega,⟨⟨_,rfl,rfl⟩,trivial⟩,?_,rfl⟩
   ·rw[xO (d:=0) hi' hall]; simpa [Rq] using h4
   ·repeat' (first|exact trivial|exact⟨_,rfl,rfl⟩|constructor)
 ·have hi':a.counts.length<=i:=by simpa using h3
  rw[List.take_of_length_le hi'] at hall
  conv=>whnf
  refine ah.pure (S.nZ a (by omega)) rfl ?_
  conv=>whnf
  exact ak.bool (by rw[OW,hv,hall]; rfl)
def zY(p:aN)(e:Elem):Int:=bif zX p !=0 then zX p else bif xQ p e then 1 else 0
def mY(p:aN)(r:Int)(a:Elem):Int:=bif Ho p r !=0 then Ho p r else yX p a
def mZ(l:List Int):List Int:=l.map fun n=>min n 2
def jq(e:Elem):Elem:=⟨e.value,mZ e.counts⟩
def OX(l:List Int)(i:Nat):List Int:=mZ (l.take i)++List.replicate (l.length-i) 0
theorem Xt(l:List Int)(i:Nat)(hi:i<=l.length):(OX l i).length=l.length:=by simp[OX,mZ]; omega
theorem Vs{l:List Int}{i:Nat}(hi:i<l.length):(OX l i).set i (min (l.getD i 0) 2)=OX l (i+1):=by
 have e1:l.length-i=(l.length-(i+1))+1:=by omega
 have e2:l.take (i+1)=l.take i++[l.getD i 0]:=by rw[List.take_add_one]; simp[hi]
 unfold OX
 rw[e1,List.replicate_succ,List.set_append_right _ _ (by simp[mZ]; omega)]
 have:i-(mZ (l.take i)).length=0:=by simp[mZ]; omega
 rw[this,List.set_cons_zero,e2]
 simp[mZ]
theorem Xu(l:List Int):OX l l.length=mZ l:=by simp[OX]
theorem S.jQ(e:Elem)(h0:0<e.counts.length)(he:e.counts.length<2^30):aj Tryz.prog 98 [.dat (.elem e)] (.dat (.elem (jq e))):=by
 refine aj.of Bd.jQ (by simp) rfl rfl ?_
 conv=>whnf
 have hm:=DV (n:=e.counts.length) (by omega)
 rw[hm]
 conv=>whnf
 refine .mk (by omega) ?_
 conv=>whnf
 refine aK.wJ 15 [2,3,14,15] (fun i:Nat=>[(16,.int i)]) (fun i=>[(0,.box 50 3 (.dat (.elem e))),(1,.box 50 3 (.agg [.int 0,.row 0 true .nil])),(7,xR (OX e.counts i)),(9,.box 50 3 (.agg [.int e.value,.own 7]))]) (fun i=>i<=e.counts.length) (fun i=>e.counts.length-i) 0 [0,1,7,9] rfl (by decide) (fun _=>rfl) (Nat.zero_le _) ?_ ?_ ?_
 ·exact⟨⟨_,rfl,.eq rfl⟩,trivial⟩
 ·exact⟨okF rfl nofun rfl rfl rfl ⟨rfl,rfl⟩ rfl,okF rfl nofun rfl rfl rfl ⟨rfl,rfl⟩ rfl,okF rfl nofun rfl rfl rfl ⟨rfl,rfl⟩ rfl,⟨rfl,nofun,rfl,rfl,_,rfl,rfl,rfl,fM.of_eq rfl⟩,trivial⟩
 conv=>whnf
 refine⟨⟨⟨_,rfl,.eq rfl⟩,⟨_,rfl,.eq rfl⟩,⟨_,rfl,.eq rfl⟩,⟨_,rfl,.eq rfl⟩,trivial⟩,rfl,?_⟩
 rintro i hi
 have hRl:=Xt e.counts i hi
 conv=>whnf
 refine⟨fun g1=>?_,fun g1=>?_⟩
 ·have hi':i<e.counts.length:=by simpa using g1
  conv=>whnf
  repeat(refine VC.mk (by first|(simp only[Rw.rng,Int.toNat_natCast]; omega)|(simp only[okI,Int.toNat_natCast] at *; omega)) ?_; conv=>whnf)
  refine⟨i+1,[0,1,7,9],by omega,by omega,⟨⟨_,rfl,.eq rfl⟩,trivial⟩,⟨⟨_,rfl,.eq rfl⟩,⟨_,rfl,.eq rfl⟩,⟨_,rfl,.eq rfl⟩,⟨_,rfl,.eq rfl⟩,trivial⟩,okF rfl nofun rfl rfl rfl ⟨rfl,rfl⟩ rfl,okF rfl nofun rfl rfl rfl ⟨rfl,rfl⟩ rfl,okF rfl nofun rfl rfl rfl ⟨rfl,rfl⟩ ?_,⟨rfl,nofun,rfl,rfl,_,rfl,rfl,rfl,fM.of_eq rfl⟩,trivial⟩
  rw[<- Vs hi']; rfl
 ·have hi':i=e.counts.length:=by
   have: ¬ ((i:Int)<(e.counts.length:Int)):=of_decide_eq_false g1
   omega
  subst hi'
  rw[Xu]
  conv=>whnf
  exact ak.elem rfl
def FC(l:List Int)(i:Nat):List Int:=mZ (l.take i)++l.drop i
theorem Xv(l:List Int)(i:Nat):(FC l i).length=l.length:=by simp[FC,mZ]; omega
theorem Xw{l:List Int}{i:Nat}(hi:i<l.length):(FC l i).getD i 0=l.getD i 0:=by
 unfold FC
 have h:(mZ (l.take i)).length=i:=by simp[mZ]; omega
 rw[List.getD_eq_getElem?_getD,List.getElem?_append_right (by omega),h,Nat.sub_self,List.getElem?_drop]
 simp[List.getD_eq_getElem?_getD]
theorem Vt{l:List Int}{i:Nat}(hi:i<l.length):(FC l i).set i (min ((FC l i).getD i 0) 2)=FC l (i+1):=by
 rw[Xw hi]
 have e2:l.take (i+1)=l.take i++[l.getD i 0]:=by rw[List.take_add_one]; simp[hi]
 have h:(mZ (l.take i)).length=i:=by simp[mZ]; omega
 unfold FC
 rw[List.drop_eq_getElem_cons hi,List.set_append_right _ _ (by omega),h,Nat.sub_self,List.set_cons_zero,e2]
 simp[mZ]
theorem Xx(l:List Int):FC l l.length=mZ l:=by simp[FC]
theorem S.lW(e:Elem)(he:e.counts.length<2^30):aj Tryz.prog 46 [.dat (.elem e)] (.dat (.elem (jq e))):=by
 refine aj.of Bd.lW (by simp) rfl rfl ?_
 conv=>whnf
 refine ah.heap (rC.frame (S.FD e he) _ _) ?_
 rintro t hp' ⟨rfl,rfl⟩
 refine⟨.agg [.int e.value,.own 3],(3,some (xR e.counts))::_,rfl,Na,?_⟩
 conv=>whnf
 refine aK.wJ 7 [2,3] (fun i:Nat=>[(4,.int i)]) (fun i=>[(0,.box 50 3 (.dat (.elem e))),(1,.box 50 3 (.agg [.int 0,.row 0 true .nil])),(3,xR (FC e.counts i)),(4,.box 50 3 (.agg [.int e.value,.own 3]))]) (fun i=>i<=e.counts.length) (fun i=>e.counts.length-i) 0 [0,1,3,4] rfl (by decide) (fun _=>rfl) (Nat.zero_le _) ?_ ?_ ?_
 ·exact⟨⟨_,rfl,.eq rfl⟩,trivial⟩
 ·exact⟨okF rfl nofun rfl rfl rfl ⟨rfl,rfl⟩ rfl,okF rfl nofun rfl rfl rfl ⟨rfl,rfl⟩ rfl,okF rfl nofun rfl rfl rfl ⟨rfl,rfl⟩ rfl,⟨rfl,nofun,rfl,rfl,_,rfl,rfl,rfl,fM.of_eq rfl⟩,trivial⟩
 conv=>whnf
 refine⟨⟨⟨_,rfl,.eq rfl⟩,⟨_,rfl,.eq rfl⟩,trivial⟩,rfl,?_⟩
 rintro i hi
 have hRl:=Xv e.counts i
 conv=>whnf
 refine⟨fun g1=>?_,fun g1=>?_⟩
 ·have hi':i<e.counts.length:=by
   have:(i:Int)<((FC e.counts i).length:Int):=of_decide_eq_true g1
   omega
  conv=>whnf
  repeat(refine VC.mk (by first|(simp only[Rw.rng,Int.toNat_natCast]; omega)|(simp only[okI] at *; omega)) ?_; conv=>whnf)
  refine⟨i+1,[0,1,3,4],by omega,by omega,⟨⟨_,rfl,.eq rfl⟩,trivial⟩,⟨⟨_,rfl,.eq rfl⟩,⟨_,rfl,.eq rfl⟩,trivial⟩,okF rfl nofun rfl rfl rfl ⟨rfl,rfl⟩ rfl,okF rfl nofun rfl rfl rfl ⟨rfl,rfl⟩ rfl,okF rfl nofun rfl rfl rfl ⟨rfl,rfl⟩ ?_,⟨rfl,nofun,rfl,rfl,_,rfl,rfl,rfl,fM.of_eq rfl⟩,trivial⟩
  rw[<- Vt hi']; rfl
 ·have hi':i=e.counts.length:=by
   have: ¬ ((i:Int)<((FC e.counts i).length:Int)):=of_decide_eq_false g1
   omega
  subst hi'
  rw[Xx]
  conv=>whnf
  exact ak.elem rfl
def z9:Elem:=⟨0,[]⟩
theorem ak.abY{c:Int}{h:Hz}:ak (.fV [.dat (.elem z9),.int c]) (.fV [.agg [.int 0,.row 0 true .nil],.int c]) h:=⟨by
 refine⟨⟨fG _,?_,trivial⟩,fG _,trivial⟩
 simp only[Go.Ab.ints,z9,List.map_nil,V.aH,Rw.bg,T.sub]
 exact⟨.inl trivial,.inl trivial,fun h=>by cases h⟩⟩
def abE(p:aN)(e:Elem):Elem:=bif zY p e==0 then jq e else z9
def abV(p:aN)(e:Elem):V:=.fV [.dat (.elem (abE p e)),.int (zY p e)]
theorem aai{p:aN}{e:Elem}(h:xQ p e=false):0<e.counts.length:=by
 unfold xQ at h
 rw[Bool.or_eq_false_iff] at h
 have h2:oN e≠0:=by simpa using h.2
 unfold oN at h2
 rcases Nat.eq_zero_or_pos e.counts.length with h0|h0
 ·rw[List.eq_nil_of_length_eq_zero h0] at h2; simp at h2
 ·exact h0
theorem S.jR(p:aN)(e:Elem)(hp:dH p)(he:e.counts.length<2^30):aj Tryz.prog 44 [.dat (.iY p),.dat (.elem e)] (abV p e):=by
 refine aj.of Bd.jR (by simp) rfl rfl ?_
 conv=>whnf
 refine ah.pure (S.eH p hp) rfl ?_
 conv=>whnf
 refine⟨fun h1=>?_,fun h1=>?_⟩
 ·conv=>whnf
  have hc:zY p e=zX p:=by rw[zY,h1]; rfl
  rw[abV,abE,hc,show(zX p==0)=false by simpa using h1]
  exact ak.abY
 have hc:zX p=0:=by simpa using h1
 conv=>whnf
 refine ah.pure (S.fF p e hp he) rfl ?_
 conv=>whnf
 refine VC.mk id ?_
 conv=>whnf
 refine ah.fD (fun _=>S.jP e (by omega)) rfl ?_
 conv=>whnf
 repeat(refine VC.mk (by first|exact id|(intro h; rw[h]; rfl)) ?_; conv=>whnf)
 refine⟨fun h2=>?_,fun h2=>?_⟩
 ·have h2:cvB p e=true:=h2
  rw[FB hc] at h2
  conv=>whnf
  have hc:zY p e=1:=by rw[zY,h1,h2]; rfl
  rw[abV,abE,hc]
  exact ak.abY
 ·have h2:cvB p e=false:=h2
  rw[FB hc] at h2
  conv=>whnf
  refine ah.pure (S.jQ e (aai h2) he) rfl ?_
  conv=>whnf
  have hc:zY p e=0:=by rw[zY,h1,h2]; rfl
  rw[abV,abE,hc]
  exact ak.eqv rfl
def Nb(p:aN)(a e:Elem):Int:=bif MX p a !=0 then MX p a else zY p e
def Xy(p:aN)(a e:Elem):Bool:=(Nb p a e==0)&&(jh a (jq e)==0)
theorem S.jB(p:aN)(a e:Elem)(hp:dH p)(ha:a.counts.length<2^30)(he:e.counts.length<2^30):aj Tryz.prog 48 [.dat (.iY p),.dat (.elem a),.dat (.elem e)] (.fV [.bool (Xy p a e),.int (Nb p a e)]):=by
 have hz:(abE p e).counts.length<2^30:=by
  unfold abE; cases (zY p e==0)<;>simp[z9,jq,mZ]<;>omega
 refine aj.of Bd.jB (by simp) rfl rfl ?_
 conv=>whnf
 refine ah.pure (S.jA p a hp ha) rfl ?_
 conv=>whnf
 refine⟨fun h1=>?_,fun h1=>?_⟩
 ·conv=>whnf
  refine ak.eqv ?_
  have hr:Nb p a e=MX p a:=by rw[Nb,h1]; rfl
  rw[Xy,hr,show(MX p a==0)=false by simpa using h1]; rfl
 have hr:Nb p a e=zY p e:=by rw[Nb,h1]; rfl
 conv=>whnf
 refine ah.pure (S.jR p e hp he) rfl ?_
 conv=>whnf
 refine .mk (by exact fun h=>⟨h,h⟩) ?_
 conv=>whnf
 refine ah.fD (fun _=>S.gy a (abE p e) (by omega) (by omega)) rfl ?_
 conv=>whnf
 repeat(refine VC.mk id ?_; conv=>whnf)
 refine ak.eqv ?_
 rw[Xy,hr]
 cases h2:(zY p e==0) with
 |true=>rw[show zY p e=0 by simpa using h2]; simp[abE,show zY p e=0 by simpa using h2]; rfl
 |false=>simp[]; rfl
structure WtR(n:Nat)(r:Rule):Prop where
 place:rG n r
 agp:r.response.length<=n
 agq:tV n r.response
 agr:r.kind≠3->r.response=[]
theorem afD{p:aN}{i:Nat}(hv:Nc p)(ht:p.topology=1)(hi:i<p.rules.length):WtR p.states.length (p.rules.getD i default):=by
 have hF:=aek hv ht hi
 have hn:(p.rules.getD i default).kind≠3->(p.rules.getD i default).response=[]:=by
  have h:=hv.rule i hi
  simp only[iC,o8] at h
  generalize (p.rules.getD i default)=r at h ⊢
  obtain⟨_,h⟩:=bz (fun _=>by decide) h
  obtain⟨hb,h⟩:=bz (fun _=>by decide) h
  rw[ht,Bool.or_eq_false_iff] at hb
  have hk:=La (show sQ r.kind 1=true by simpa using hb.1)
  have hu:kS r 1=false:=by rw[uX (by omega)]; exact hb.2
  intro k3
  simp only[kS,Nh,Bool.or_eq_false_iff] at hu
  have h4:=hu.2.2.2.1
  simp only[beq_eq_false_iff_ne.2 k3,Bool.not_false,Bool.true_and] at h4
  exact len_nil h4.1
 refine⟨hF.place,?_,?_,hn⟩
 ·by_cases k:(p.rules.getD i default).kind=3
  ·rw[(hF.place.rsp k).1]; exact Nat.le_refl _
  ·rw[hn k]; exact Nat.zero_le _
 ·by_cases k:(p.rules.getD i default).kind=3
  ·exact(hF.place.rsp k).2
  ·rw[hn k]; intro q hq; cases hq
theorem wtR{p:aN}(h:zX p=0){i:Nat}(hi:i<p.rules.length):WtR p.states.length (p.rules.getD i default):=by
 obtain⟨h1,h2⟩:=xU (Fz h)
 exact afD (yY h1) (Vu h2) hi
theorem Vw{n:Nat}{l:List Int}(h:tV n l){i:Nat}(hi:i<l.length):0<=l.getD i 0/\l.getD i 0<n:=by
 rw[List.getD_eq_getElem?_getD,List.getElem?_eq_getElem hi]; exact h _ (List.getElem_mem hi)
theorem RF{p:aN}{e:Elem}(h:xQ p e=false):e.counts.length=p.states.length/\Bj e.counts:=by
 unfold xQ at h
 rw[Bool.or_eq_false_iff] at h
 have:=RG h.1
 exact⟨this.1,this.2.1⟩
theorem abZ{p:aN}{r:Int}(hc:zX p=0)(h:Ho p r=0):0<=r/\r.toNat<p.rules.length/\r<p.rules.length:=by
 unfold Ho at h
 rw[hc] at h
 cases hb:(decide (r<0)||decide (r>=(p.rules.length:Int))) with
 |true=>rw[hb] at h; cases h
 |false=>rw[Bool.or_eq_false_iff,decide_eq_false_iff_not,decide_eq_false_iff_not] at hb; omega
theorem ael{p:aN}{r:Int}(h:Ho p r=0):zX p=0:=by
 by_cases h0:zX p=0
 ·exact h0
 ·unfold Ho at h
  rw[show(zX p==0)=false by simpa using h0] at h; exact absurd h h0
def ab1(l:List Elem):Bool:=l.any fun e=>decide (8<e.counts.length)
theorem S.pF(l:List Elem)(f:Bool)(hl:l.length<2^40)(_hs:kM l):aj Tryz.prog 29 [.row 3 f (.elems l)] (.bool (ab1 l)):=by
 refine aj.of Bd.pF (by simp) rfl rfl ?_
 conv=>whnf
 refine aK.same [0] (fun i:Nat=>[(3,.int i)]) (fun i=>i<=l.length/\ab1 (l.take i)=false) (fun i=>l.length-i) 0 rfl (by decide) rfl (fun _=>rfl) ⟨Nat.zero_le _,rfl⟩ ⟨⟨_,rfl,rfl⟩,trivial⟩ ?_
 conv=>whnf
 refine⟨rfl,?_⟩
 rintro i ⟨hi,hno⟩
 conv=>whnf
 refine⟨fun h3=>?_,fun h3=>?_⟩
 ·have hi':i<l.length:=by simpa using h3
  have hc:decide (8<(l.getD i default).counts.length)=decide ((8:Int)<((l.getD i default).counts.length:Int)):=by
   rw[decide_eq_decide]; omega
  conv=>whnf
  refine .mk (by simp only[Rw.rng] at *; first|omega|(simp_all; done)|(simp_all; omega)) ?_
  conv=>whnf
  refine⟨fun h4=>?_,fun h4=>?_⟩
  ·conv=>whnf
   exact ak.bool (iZ (p:=fun e:Elem=>decide (8<e.counts.length)) (d:=default) hi' (hc.trans h4))
  ·conv=>whnf
   refine .mk (by simp only[okI] at *; first|omega|(simp_all; done)|(simp_all; omega)) ?_
   conv=>whnf
   refine⟨i+1,⟨by omega,(kT (p:=fun e:Elem=>decide (8<e.counts.length)) (d:=default) hi' hno).trans (hc.trans h4)⟩,by omega,⟨⟨_,rfl,rfl⟩,trivial⟩,?_,rfl⟩
   repeat' (first|exact trivial|exact⟨_,rfl,rfl⟩|constructor)
 ·have hi':l.length<=i:=by simpa using h3
  rw[List.take_of_length_le hi'] at hno
  conv=>whnf
  exact ak.bool hno
theorem acG{h:Hz}{j:Nat}{l:List Elem}{vs:List V}{Z:Nat->Prop}(hz:Z j)(q:h.get j=some (.row 50 3 .nil vs))(e:V.bg vs=l.map fH):T.sub Z h.aA (V.row 3 false (.elems l)).aH (V.own j).aH:=by
 show T.sub Z h.aA (.sl 3 false (l.map fH)) (.own j)
 simp only[T.sub]
 exact⟨trivial,hz,uY l,by decide,50,by rw[<- e]; exact aX q⟩
theorem Ah{c:List Int}{i j:Nat}{v:Int}(hi:i<c.length):(c.set i v).getD j 0=if j=i then v else c.getD j 0:=by
 rw[List.getD_eq_getElem?_getD,List.getD_eq_getElem?_getD]
 by_cases e:j=i
 ·subst e; simp[hi]
 ·rw[if_neg e,List.getElem?_set_ne (fun h=>e h.symm)]
theorem yZ{e:Elem}(hl:e.counts.length<=6)(h:e.counts.all DW=true):oN e=e.counts.sum:=by
 rw[oN,if_neg (by omega),if_pos h]
end Go.Proofs.YtkomllaebngbfaaGreatDoor
