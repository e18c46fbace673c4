/-
 fair and its reference: families, kinds, rules. No condition.
-/
import Derived.Test.YtkomllaebngbfaaGreatDoorFa
import Derived.Test.YtkomllaebngbfaaGreatDoorRb
namespace Go.Proofs.YtkomllaebngbfaaGreatDoor
open Go.Ab Go.Proofs
set_option maxRecDepth 100000
def Dw(p:aN):Int:=bif dw p !=0 then dw p else bif (nV p).monadic then 0 else 7
theorem cf1(p:aN):Dw p=bif ((dw p==0)&& !(bif dw p !=0 then OM else nV p).monadic) then 7 else dw p:=by
 unfold Dw bne
 cases hz:dw p==0 with
 |true =>
  simp only[Bool.not_true,cond_false,Bool.true_and]
  cases (nV p).monadic<;>simp[show dw p=0 from beq_iff_eq.1 hz]
 |false=>rfl
def uo(p:aN)(q:Prop'):Int:=bif jI p q !=0 then jI p q else Dw p
def OH(p:aN)(q:Prop')(k:Int):Int:=bif (uo p q==0)&&(q.kind !=k) then 7 else uo p q
theorem S.jc(p:aN)(hp:dP p):aj Tryz.prog 95 [.dat (.jA p)] (.int (Dw p)):=by
 refine aj.of Bd.jc (by simp) rfl rfl ?_
 conv=>whnf
 refine ah.pure (S.fP p hp) rfl ?_
 conv=>whnf
 repeat(refine VC.mk id ?_; conv=>whnf)
 refine⟨fun h1=>?_,fun h1=>?_⟩
 ·conv=>whnf
  exact ak.int (by rw[cf1,h1]; rfl)
 ·conv=>whnf
  exact ak.int (by rw[cf1,h1]; rfl)
theorem S.nH(p:aN)(q:Prop')(hp:dP p)(hq:jd q):aj Tryz.prog 50 [.dat (.jA p),.dat (.prop q)] (.int (uo p q)):=by
 refine aj.of Bd.nH (by simp) rfl rfl ?_
 conv=>whnf
 refine ah.pure (S.dA p q hp hq) rfl ?_
 conv=>whnf
 refine⟨fun h1=>?_,fun h1=>?_⟩
 ·conv=>whnf
  exact ak.int (by rw[uo,h1]; rfl)
 ·conv=>whnf
  refine ah.pure (S.jc p hp) rfl ?_
  conv=>whnf
  exact ak.int (by rw[uo,h1]; rfl)
theorem S.jR(p:aN)(q:Prop')(k:Int)(hp:dP p)(hq:jd q):aj Tryz.prog 65 [.dat (.jA p),.dat (.prop q),.int k] (.int (OH p q k)):=by
 refine aj.of Bd.jR (by simp) rfl rfl ?_
 conv=>whnf
 refine ah.pure (S.nH p q hp hq) rfl ?_
 conv=>whnf
 repeat(refine VC.mk (by first|exact id|exact fun h=>⟨h,h⟩) ?_; conv=>whnf)
 refine⟨fun h1=>?_,fun h1=>?_⟩
 ·conv=>whnf
  exact ak.int (by rw[OH,h1]; rfl)
 ·conv=>whnf
  exact ak.int (by rw[OH,h1]; rfl)
theorem S.o7(p:aN)(hp:dP p):aj Tryz.prog 103 [.dat (.jA p)] (.int (Dw p)):=by
 refine aj.of Bd.o7 (by simp) rfl rfl ?_
 conv=>whnf
 refine ah.pure (S.lN p hp) rfl ?_
 conv=>whnf
 refine⟨fun h1=>?_,fun h1=>?_⟩
 ·conv=>whnf
  exact ak.int (by rw[Dw,h1]; rfl)
 ·conv=>whnf
  refine⟨fun h2=>?_,fun h2=>?_⟩
  ·conv=>whnf
   exact ak.int (by rw[h1] at h2; rw[Dw,h1]; simp only[cond_false] at h2 ⊢; rw[show(nV p).monadic=false by simpa using h2]; rfl)
  ·conv=>whnf
   exact ak.int (by rw[h1] at h2; rw[Dw,h1]; simp only[cond_false] at h2 ⊢; rw[show(nV p).monadic=true by simpa using h2]; rfl)
theorem S.pX(p:aN)(q:Prop')(hp:dP p)(hq:jd q):aj Tryz.prog 51 [.dat (.jA p),.dat (.prop q)] (.int (uo p q)):=by
 refine aj.of Bd.pX (by simp) rfl rfl ?_
 conv=>whnf
 refine ah.pure (S.dY p q hp hq) rfl ?_
 conv=>whnf
 refine⟨fun h1=>?_,fun h1=>?_⟩
 ·conv=>whnf
  exact ak.int (by rw[uo,h1]; rfl)
 ·conv=>whnf
  refine ah.pure (S.o7 p hp) rfl ?_
  conv=>whnf
  exact ak.int (by rw[uo,h1]; rfl)
theorem S.uY(p:aN)(q:Prop')(k:Int)(hp:dP p)(hq:jd q):aj Tryz.prog 69 [.dat (.jA p),.dat (.prop q),.int k] (.int (OH p q k)):=by
 refine aj.of Bd.uY (by simp) rfl rfl ?_
 conv=>whnf
 refine ah.pure (S.pX p q hp hq) rfl ?_
 conv=>whnf
 repeat(refine VC.mk (by first|exact id|exact fun h=>⟨h,h⟩) ?_; conv=>whnf)
 refine⟨fun h1=>?_,fun h1=>?_⟩
 ·conv=>whnf
  exact ak.int (by rw[OH,h1]; rfl)
 ·conv=>whnf
  exact ak.int (by rw[OH,h1]; rfl)
def OO(n:Int):Bool:= !(decide (2<n))
def cvB(p:aN)(e:Elem):Bool:=(KD p e !=0)||(sS e==0)
def H7(p:aN)(a:Elem):Int:=bif cvB p a then 1 else bif a.counts.all OO then 0 else 1
theorem S.jB(p:aN)(a:Elem)(hp:dP p)(ha:a.counts.length<2^30):aj Tryz.prog 79 [.dat (.jA p),.dat (.elem a)] (.int (H7 p a)):=by
 refine aj.of Bd.jB (by simp) rfl rfl ?_
 conv=>whnf
 refine ah.pure (S.gK p a hp ha) rfl ?_
 conv=>whnf
 refine VC.mk id ?_
 conv=>whnf
 refine ah.gG (fun _=>S.kL a (by omega)) rfl ?_
 conv=>whnf
 repeat(refine VC.mk (by first|exact id|(intro h; rw[h]; rfl)) ?_; conv=>whnf)
 refine⟨fun h1=>?_,fun h1=>?_⟩
 ·conv=>whnf
  exact ak.int (by rw[H7,show cvB p a=true from h1]; rfl)
 have hc:cvB p a=false:=h1
 conv=>whnf
 refine aI.same [2,3,17,18] (fun i:Nat=>[(19,.int i)]) (fun i=>i<=a.counts.length/\(a.counts.take i).all OO=true) (fun i=>a.counts.length-i) 0 rfl (by decide) rfl (fun _=>rfl) ⟨by omega,by simp⟩ ⟨⟨_,rfl,rfl⟩,trivial⟩ ?_
 conv=>whnf
 refine⟨rfl,?_⟩
 rintro i ⟨hi,hall⟩
 conv=>whnf
 refine⟨fun h3=>?_,fun h3=>?_⟩
 ·have hi':i<a.counts.length:=by simpa using h3
  conv=>whnf
  refine .mk (by simp only[Rw.rng] at *; first|omega|(simp_all; done)|(simp_all; omega)) ?_
  conv=>whnf
  refine⟨fun h4=>?_,fun h4=>?_⟩
  ·conv=>whnf
   refine ak.int ?_
   rw[H7,hc,uZ (d:=0) hi' (by simpa [OO] using h4)]; rfl
  ·conv=>whnf
   refine .mk (by simp only[okI] at *; first|omega|(simp_all; done)|(simp_all; omega)) ?_
   conv=>whnf
   refine⟨i+1,⟨by omega,?_⟩,by omega,⟨⟨_,rfl,rfl⟩,trivial⟩,?_,rfl⟩
   ·rw[xI (d:=0) hi' hall]; simpa [OO] using h4
   ·repeat' (first|exact trivial|exact⟨_,rfl,rfl⟩|constructor)
 ·have hi':a.counts.length<=i:=by simpa using h3
  conv=>whnf
  refine ak.int ?_
  rw[List.take_of_length_le hi'] at hall
  rw[H7,hc,hall]; rfl
def OQ(p:aN)(a:Elem):Bool:=bif Dz p a then false else bif a.counts.all OO then decide (0<sS a) else false
theorem ac9(e:Elem):0<=sS e:=by
 unfold sS
 split
 ·omega
 ·split
  ·rename_i h; exact(uJ h).1
  ·omega
theorem vg{p:aN}(h:Dw p=0):MN p=0:=by
 unfold Dw at h
 unfold MN
 cases hv:(dw p !=0) with
 |true=>rw[hv] at h; simp only[cond_true] at h; rw[h] at hv; simp at hv
 |false =>
  rw[hv] at h
  simp only[cond_false] at h ⊢
  cases hm:(nV p).monadic with
  |true=>simp
  |false=>rw[hm] at h; cases h
theorem ada{p:aN}(h:Dw p=0)(e:Elem):KD p e=fG (Dz p e) 1:=by
 rw[KD,vg h]; rfl
def adb(p:aN)(e:Elem):Bool:=Dz p e||(sS e==0)
theorem ade{p:aN}(h:Dw p=0)(e:Elem):cvB p e=adb p e:=by
 unfold cvB adb
 rw[ada h]
 cases Dz p e<;>rfl
theorem aaH{p:aN}(h:Dw p=0)(a:Elem):H7 p a=bif OQ p a then 0 else 1:=by
 unfold H7 OQ
 rw[ade h]
 unfold adb
 have:=ac9 a
 cases Dz p a with
 |true=>rfl
 |false =>
  simp only[Bool.false_or,cond_false]
  by_cases h0:sS a=0
  ·simp[h0]
  ·have h1:(sS a==0)=false:=by simpa using h0
   have h2:decide (0<sS a)=true:=by simp; omega
   rw[h1,h2]; cases a.counts.all OO<;>rfl
theorem S.lQ(p:aN)(a:Elem)(hp:dP p)(ha:a.counts.length<2^30):aj Tryz.prog 85 [.dat (.jA p),.dat (.elem a)] (.bool (OQ p a)):=by
 refine aj.of Bd.lQ (by simp) rfl rfl ?_
 conv=>whnf
 refine ah.pure (S.vk p a hp ha) rfl ?_
 conv=>whnf
 refine⟨fun h1=>?_,fun h1=>?_⟩
 ·conv=>whnf
  exact ak.bool (by rw[OQ,show Dz p a=true by simpa using h1]; rfl)
 have hv:Dz p a=false:=by simpa using h1
 conv=>whnf
 refine aI.same [2,3] (fun i:Nat=>[(5,.int i)]) (fun i=>i<=a.counts.length/\(a.counts.take i).all OO=true) (fun i=>a.counts.length-i) 0 rfl (by decide) rfl (fun _=>rfl) ⟨by omega,by simp⟩ ⟨⟨_,rfl,rfl⟩,trivial⟩ ?_
 conv=>whnf
 refine⟨rfl,?_⟩
 rintro i ⟨hi,hall⟩
 conv=>whnf
 refine⟨fun h3=>?_,fun h3=>?_⟩
 ·have hi':i<a.counts.length:=by simpa using h3
  conv=>whnf
  refine .mk (by simp only[Rw.rng] at *; first|omega|(simp_all; done)|(simp_all; omega)) ?_
  conv=>whnf
  refine⟨fun h4=>?_,fun h4=>?_⟩
  ·conv=>whnf
   refine ak.bool ?_
   rw[OQ,hv,uZ (d:=0) hi' (by simpa [OO] using h4)]; rfl
  ·conv=>whnf
   refine .mk (by simp only[okI] at *; first|omega|(simp_all; done)|(simp_all; omega)) ?_
   conv=>whnf
   refine⟨i+1,⟨by omega,?_⟩,by omega,⟨⟨_,rfl,rfl⟩,trivial⟩,?_,rfl⟩
   ·rw[xI (d:=0) hi' hall]; simpa [OO] using h4
   ·repeat' (first|exact trivial|exact⟨_,rfl,rfl⟩|constructor)
 ·have hi':a.counts.length<=i:=by simpa using h3
  rw[List.take_of_length_le hi'] at hall
  conv=>whnf
  refine ah.pure (S.pY a (by omega)) rfl ?_
  conv=>whnf
  exact ak.bool (by rw[OQ,hv,hall]; rfl)
def qA(l:List Int):List Int:=l.map fun n=>min n 2
def RF(e:Elem):Elem:=⟨e.value,qA e.counts⟩
def OT(l:List Int)(i:Nat):List Int:=qA (l.take i)++List.replicate (l.length-i) 0
theorem XD(l:List Int)(i:Nat)(hi:i<=l.length):(OT l i).length=l.length:=by simp[OT,qA]; omega
theorem Vt{l:List Int}{i:Nat}(hi:i<l.length):(OT l i).set i (min (l.getD i 0) 2)=OT l (i+1):=by
 have e1:l.length-i=(l.length-(i+1))+1:=by omega
 have e2:l.take (i+1)=l.take i++[l.getD i 0]:=by rw[List.take_add_one]; simp[hi]
 unfold OT
 rw[e1,List.replicate_succ,List.set_append_right _ _ (by simp[qA]; omega)]
 have:i-(qA (l.take i)).length=0:=by simp[qA]; omega
 rw[this,List.set_cons_zero,e2]
 simp[qA]
theorem XE(l:List Int):OT l l.length=qA l:=by simp[OT]
theorem S.lg(e:Elem)(h0:0<e.counts.length)(he:e.counts.length<2^30):aj Tryz.prog 98 [.dat (.elem e)] (.dat (.elem (RF e))):=by
 refine aj.of Bd.lg (by simp) rfl rfl ?_
 conv=>whnf
 have hm:=DC (n:=e.counts.length) (by omega)
 rw[hm]
 conv=>whnf
 refine .mk (by omega) ?_
 conv=>whnf
 refine aI.qg 15 [2,3,14,15] (fun i:Nat=>[(16,.int i)]) (fun i=>[(0,.box 50 3 (.dat (.elem e))),(1,.box 50 3 (.agg [.int 0,.row 0 true .nil])),(7,xJ (OT e.counts i)),(9,.box 50 3 (.agg [.int e.value,.own 7]))]) (fun i=>i<=e.counts.length) (fun i=>e.counts.length-i) 0 [0,1,7,9] rfl (by decide) (fun _=>rfl) (Nat.zero_le _) ?_ ?_ ?_
 ·exact⟨⟨_,rfl,.eq rfl⟩,trivial⟩
 ·exact⟨okF rfl nofun rfl rfl rfl ⟨rfl,rfl⟩ rfl,okF rfl nofun rfl rfl rfl ⟨rfl,rfl⟩ rfl,okF rfl nofun rfl rfl rfl ⟨rfl,rfl⟩ rfl,⟨rfl,nofun,rfl,rfl,_,rfl,rfl,rfl,dQ.of_eq rfl⟩,trivial⟩
 conv=>whnf
 refine⟨⟨⟨_,rfl,.eq rfl⟩,⟨_,rfl,.eq rfl⟩,⟨_,rfl,.eq rfl⟩,⟨_,rfl,.eq rfl⟩,trivial⟩,rfl,?_⟩
 rintro i hi
 have hRl:=XD e.counts i hi
 conv=>whnf
 refine⟨fun g1=>?_,fun g1=>?_⟩
 ·have hi':i<e.counts.length:=by simpa using g1
  conv=>whnf
  repeat(refine VC.mk (by first|(simp only[Rw.rng,Int.toNat_natCast]; omega)|(simp only[okI,Int.toNat_natCast] at *; omega)) ?_; conv=>whnf)
  refine⟨i+1,[0,1,7,9],by omega,by omega,⟨⟨_,rfl,.eq rfl⟩,trivial⟩,⟨⟨_,rfl,.eq rfl⟩,⟨_,rfl,.eq rfl⟩,⟨_,rfl,.eq rfl⟩,⟨_,rfl,.eq rfl⟩,trivial⟩,okF rfl nofun rfl rfl rfl ⟨rfl,rfl⟩ rfl,okF rfl nofun rfl rfl rfl ⟨rfl,rfl⟩ rfl,okF rfl nofun rfl rfl rfl ⟨rfl,rfl⟩ ?_,⟨rfl,nofun,rfl,rfl,_,rfl,rfl,rfl,dQ.of_eq rfl⟩,trivial⟩
  rw[<- Vt hi']; rfl
 ·have hi':i=e.counts.length:=by
   have: ¬ ((i:Int)<(e.counts.length:Int)):=of_decide_eq_false g1
   omega
  subst hi'
  rw[XE]
  conv=>whnf
  exact ak.elem rfl
def EW(l:List Int)(i:Nat):List Int:=qA (l.take i)++l.drop i
theorem XF(l:List Int)(i:Nat):(EW l i).length=l.length:=by simp[EW,qA]; omega
theorem XG{l:List Int}{i:Nat}(hi:i<l.length):(EW l i).getD i 0=l.getD i 0:=by
 unfold EW
 have h:(qA (l.take i)).length=i:=by simp[qA]; omega
 rw[List.getD_eq_getElem?_getD,List.getElem?_append_right (by omega),h,Nat.sub_self,List.getElem?_drop]
 simp[List.getD_eq_getElem?_getD]
theorem Vu{l:List Int}{i:Nat}(hi:i<l.length):(EW l i).set i (min ((EW l i).getD i 0) 2)=EW l (i+1):=by
 rw[XG hi]
 have e2:l.take (i+1)=l.take i++[l.getD i 0]:=by rw[List.take_add_one]; simp[hi]
 have h:(qA (l.take i)).length=i:=by simp[qA]; omega
 unfold EW
 rw[List.drop_eq_getElem_cons hi,List.set_append_right _ _ (by omega),h,Nat.sub_self,List.set_cons_zero,e2]
 simp[qA]
theorem XI(l:List Int):EW l l.length=qA l:=by simp[EW]
theorem S.o8(e:Elem)(he:e.counts.length<2^30):aj Tryz.prog 46 [.dat (.elem e)] (.dat (.elem (RF e))):=by
 refine aj.of Bd.o8 (by simp) rfl rfl ?_
 conv=>whnf
 refine ah.heap (qY.frame (S.EX e he) _ _) ?_
 rintro t hp' ⟨rfl,rfl⟩
 refine⟨.agg [.int e.value,.own 3],(3,some (xJ e.counts))::_,rfl,MO,?_⟩
 conv=>whnf
 refine aI.qg 7 [2,3] (fun i:Nat=>[(4,.int i)]) (fun i=>[(0,.box 50 3 (.dat (.elem e))),(1,.box 50 3 (.agg [.int 0,.row 0 true .nil])),(3,xJ (EW e.counts i)),(4,.box 50 3 (.agg [.int e.value,.own 3]))]) (fun i=>i<=e.counts.length) (fun i=>e.counts.length-i) 0 [0,1,3,4] rfl (by decide) (fun _=>rfl) (Nat.zero_le _) ?_ ?_ ?_
 ·exact⟨⟨_,rfl,.eq rfl⟩,trivial⟩
 ·exact⟨okF rfl nofun rfl rfl rfl ⟨rfl,rfl⟩ rfl,okF rfl nofun rfl rfl rfl ⟨rfl,rfl⟩ rfl,okF rfl nofun rfl rfl rfl ⟨rfl,rfl⟩ rfl,⟨rfl,nofun,rfl,rfl,_,rfl,rfl,rfl,dQ.of_eq rfl⟩,trivial⟩
 conv=>whnf
 refine⟨⟨⟨_,rfl,.eq rfl⟩,⟨_,rfl,.eq rfl⟩,trivial⟩,rfl,?_⟩
 rintro i hi
 have hRl:=XF e.counts i
 conv=>whnf
 refine⟨fun g1=>?_,fun g1=>?_⟩
 ·have hi':i<e.counts.length:=by
   have:(i:Int)<((EW e.counts i).length:Int):=of_decide_eq_true g1
   omega
  conv=>whnf
  repeat(refine VC.mk (by first|(simp only[Rw.rng,Int.toNat_natCast]; omega)|(simp only[okI] at *; omega)) ?_; conv=>whnf)
  refine⟨i+1,[0,1,3,4],by omega,by omega,⟨⟨_,rfl,.eq rfl⟩,trivial⟩,⟨⟨_,rfl,.eq rfl⟩,⟨_,rfl,.eq rfl⟩,trivial⟩,okF rfl nofun rfl rfl rfl ⟨rfl,rfl⟩ rfl,okF rfl nofun rfl rfl rfl ⟨rfl,rfl⟩ rfl,okF rfl nofun rfl rfl rfl ⟨rfl,rfl⟩ ?_,⟨rfl,nofun,rfl,rfl,_,rfl,rfl,rfl,dQ.of_eq rfl⟩,trivial⟩
  rw[<- Vu hi']; rfl
 ·have hi':i=e.counts.length:=by
   have: ¬ ((i:Int)<((EW e.counts i).length:Int)):=of_decide_eq_false g1
   omega
  subst hi'
  rw[XI]
  conv=>whnf
  exact ak.elem rfl
end Go.Proofs.YtkomllaebngbfaaGreatDoor
namespace Go.Proofs.YtkomllaebngbfaaGreatDoor
open Go.Ab Go.Proofs
set_option maxRecDepth 100000
structure WtR(n:Nat)(r:Rule):Prop where
 place:zN n r
 agZ:r.response.length<=n
 ag0:rE n r.response
 ag1:r.kind≠3->r.response=[]
theorem agc{p:aN}{i:Nat}(hv:MP p)(ht:p.topology=1)(hi:i<p.rules.length):WtR p.states.length (p.rules.getD i default):=by
 have hF:=acE hv ht hi
 have hn:(p.rules.getD i default).kind≠3->(p.rules.getD i default).response=[]:=by
  have h:=hv.rule i hi
  simp only[iC,oV] at h
  generalize (p.rules.getD i default)=r at h ⊢
  obtain⟨_,h⟩:=bz (fun _=>by decide) h
  obtain⟨hb,h⟩:=bz (fun _=>by decide) h
  rw[ht,Bool.or_eq_false_iff] at hb
  have hk:=KE (show sU r.kind 1=true by simpa using hb.1)
  have hu:kM r 1=false:=by rw[vw (by omega)]; exact hb.2
  intro k3
  simp only[kM,MQ,Bool.or_eq_false_iff] at hu
  have h4:=hu.2.2.2.1
  simp only[beq_eq_false_iff_ne.2 k3,Bool.not_false,Bool.true_and] at h4
  exact len_nil h4.1
 refine⟨hF.place,?_,?_,hn⟩
 ·by_cases k:(p.rules.getD i default).kind=3
  ·rw[(hF.place.rsp k).1]; exact Nat.le_refl _
  ·rw[hn k]; exact Nat.zero_le _
 ·by_cases k:(p.rules.getD i default).kind=3
  ·exact(hF.place.rsp k).2
  ·rw[hn k]; intro q hq; cases hq
theorem wtR{p:aN}(h:Dw p=0){i:Nat}(hi:i<p.rules.length):WtR p.states.length (p.rules.getD i default):=by
 obtain⟨h1,h2⟩:=mO (vg h)
 exact agc (rF h1) (KF h2) hi
def wt(w:List Int)(x:Int):Int:=w.getD x.toNat 0
def XJ(r:Rule)(w:List Int):Int:=bif r.kind==2 then(wt w r.to-wt w r.fr)+(wt w r.AO-wt w r.gI) else wt w r.to-wt w r.fr
theorem KG{n:Nat}{l:List Int}(h:rE n l){i:Nat}(hi:i<l.length):0<=l.getD i 0/\l.getD i 0<n:=by
 rw[List.getD_eq_getElem?_getD,List.getElem?_eq_getElem hi]; exact h _ (List.getElem_mem hi)
def sumW(c w:List Int)(i:Nat):Int:=(List.range i).foldl (fun a j=>a+c.getD j 0*w.getD j 0) 0
theorem xK{c w:List Int}{i:Nat}:sumW c w (i+1)=sumW c w i+c.getD i 0*w.getD i 0:=by
 unfold sumW; rw[List.range_succ,List.foldl_append]; rfl
def acF(l:List Elem):Bool:=l.any fun e=>decide (8<e.counts.length)
theorem S.o9(l:List Elem)(f:Bool)(hl:l.length<2^40)(_hs:eH l):aj Tryz.prog 29 [.row 3 f (.elems l)] (.bool (acF l)):=by
 refine aj.of Bd.o9 (by simp) rfl rfl ?_
 conv=>whnf
 refine aI.same [0] (fun i:Nat=>[(3,.int i)]) (fun i=>i<=l.length/\acF (l.take i)=false) (fun i=>l.length-i) 0 rfl (by decide) rfl (fun _=>rfl) ⟨Nat.zero_le _,rfl⟩ ⟨⟨_,rfl,rfl⟩,trivial⟩ ?_
 conv=>whnf
 refine⟨rfl,?_⟩
 rintro i ⟨hi,hno⟩
 conv=>whnf
 refine⟨fun h3=>?_,fun h3=>?_⟩
 ·have hi':i<l.length:=by simpa using h3
  have hc:decide (8<(l.getD i default).counts.length)=decide ((8:Int)<((l.getD i default).counts.length:Int)):=by
   rw[decide_eq_decide]; omega
  conv=>whnf
  refine .mk (by simp only[Rw.rng] at *; first|omega|(simp_all; done)|(simp_all; omega)) ?_
  conv=>whnf
  refine⟨fun h4=>?_,fun h4=>?_⟩
  ·conv=>whnf
   exact ak.bool (iF (p:=fun e:Elem=>decide (8<e.counts.length)) (d:=default) hi' (hc.trans h4))
  ·conv=>whnf
   refine .mk (by simp only[okI] at *; first|omega|(simp_all; done)|(simp_all; omega)) ?_
   conv=>whnf
   refine⟨i+1,⟨by omega,(jS (p:=fun e:Elem=>decide (8<e.counts.length)) (d:=default) hi' hno).trans (hc.trans h4)⟩,by omega,⟨⟨_,rfl,rfl⟩,trivial⟩,?_,rfl⟩
   repeat' (first|exact trivial|exact⟨_,rfl,rfl⟩|constructor)
 ·have hi':l.length<=i:=by simpa using h3
  rw[List.take_of_length_le hi'] at hno
  conv=>whnf
  exact ak.bool hno
theorem adf{h:Hz}{j:Nat}{l:List Elem}{vs:List V}{Z:Nat->Prop}(hz:Z j)(q:h.get j=some (.row 50 3 .nil vs))(e:V.bn vs=l.map dZ):T.sub Z h.ay (V.row 3 false (.elems l)).aG (V.own j).aG:=by
 show T.sub Z h.ay (.sl 3 false (l.map dZ)) (.own j)
 simp only[T.sub]
 exact⟨trivial,hz,rG l,by decide,50,by rw[<- e]; exact aV q⟩
theorem DF{c:List Int}{i j:Nat}{v:Int}(hi:i<c.length):(c.set i v).getD j 0=if j=i then v else c.getD j 0:=by
 rw[List.getD_eq_getElem?_getD,List.getD_eq_getElem?_getD]
 by_cases e:j=i
 ·subst e; simp[hi]
 ·rw[if_neg e,List.getElem?_set_ne (fun h=>e h.symm)]
theorem OU{c w:List Int}{i:Nat}{v:Int}(hi:i<c.length): ∀ {n:Nat},sumW (c.set i v) w n=sumW c w n+(if i<n then(v-c.getD i 0)*w.getD i 0 else 0):=by
 intro n
 induction n with
 |zero=>simp[sumW]
 |succ n ih =>
  rw[xK,xK,ih,DF hi]
  by_cases e:n=i
  ·subst e
   rw[if_pos rfl,if_neg (Nat.lt_irrefl _),if_pos (Nat.lt_succ_self _),Int.sub_mul]; omega
  ·rw[if_neg e]
   by_cases h:i<n
   ·rw[if_pos h,if_pos (by omega)]; omega
   ·rw[if_neg h,if_neg (by omega)]; omega
theorem OW{c w:List Int}{i d:Int}(hi:0<=i/\i<c.length):sumW (gX c i d) w c.length=sumW c w c.length+d*wt w i:=by
 unfold gX wt
 rw[OU (by omega),if_pos (by omega)]
 have:c.getD i.toNat 0+d-c.getD i.toNat 0=d:=by omega
 rw[this]
theorem H8{c w:List Int}{i:Int}(hi:0<=i/\i<c.length):sumW (aQ c i) w c.length=sumW c w c.length-wt w i:=by
 unfold aQ wt
 rw[OU (by omega),if_pos (by omega)]
 have:c.getD i.toNat 0-1-c.getD i.toNat 0= -1:=by omega
 rw[this]; omega
def Vw(r:Rule)(c w:List Int)(k:Nat):Int:=(List.range k).foldl (fun a j=>a+c.getD j 0*wt w (r.response.getD j 0)) 0
theorem KH{r:Rule}{c w:List Int}{k:Nat}:Vw r c w (k+1)=Vw r c w k+c.getD k 0*wt w (r.response.getD k 0):=by
 unfold Vw; rw[List.range_succ,List.foldl_append]; rfl
theorem Vx{n w:Nat}{l:List Int}:sumW (List.replicate n 0) l w=0:=by
 induction w with
 |zero=>rfl
 |succ w ih =>
  rw[xK,ih,List.getD_eq_getElem?_getD]
  have:((List.replicate n (0:Int))[w]?.getD 0)=0:=by
   rw[List.getElem?_replicate]; split<;>rfl
  rw[this]; simp
theorem XK{r:Rule}{c w:List Int}(hr:rE c.length r.response): ∀ {k:Nat},k<=r.response.length->sumW (oK r c k) w c.length=Vw r c w k:=by
 intro k
 induction k with
 |zero=>intro _; exact Vx
 |succ k ih =>
  intro hk
  have hl:=qH (r:=r) (c:=c) (i:=k)
  have:=OW (c:=oK r c k) (w:=w) (i:=r.response.getD k 0) (d:=c.getD k 0) (by rw[hl]; exact KG hr (by omega))
  rw[hl] at this
  rw[uK,this,ih (by omega),KH]
theorem XL{r:Rule}{e x:Elem}(w:List Int)(hr:WtR e.counts.length r)(hx:gJ r e=some x):sumW x.counts w e.counts.length =
  if r.kind=3 then Vw r (aQ e.counts r.fr) w e.counts.length+wt w r.to else sumW e.counts w e.counts.length+XJ r w:=by
 have p1:=hr.place.src; have p2:=hr.place.dst; have p3:=hr.place.aaI; have p4:=hr.place.aaJ
 have d1:=H8 (w:=w) p1
 have l1:(aQ e.counts r.fr).length=e.counts.length:=nX
 have a1: ∀ {c:List Int} {i d:Int},c.length=e.counts.length->0<=i/\i<e.counts.length->sumW (gX c i d) w e.counts.length=sumW c w e.counts.length+d*wt w i:=by
  intro c i d hl hi
  have:=OW (c:=c) (w:=w) (d:=d) (by rw[hl]; exact hi)
  rw[hl] at this; exact this
 have b1: ∀ {c:List Int} {i:Int},c.length=e.counts.length->0<=i/\i<e.counts.length->sumW (aQ c i) w e.counts.length=sumW c w e.counts.length-wt w i:=by
  intro c i hl hi
  have:=H8 (c:=c) (w:=w) (by rw[hl]; exact hi)
  rw[hl] at this; exact this
 unfold gJ at hx
 simp only at hx
 cases h0:(decide (0<=r.read)&&e.value !=r.read||e.counts.getD r.fr.toNat 0==0) with
 |true=>rw[h0] at hx; cases hx
 |false =>
  rw[h0] at hx
  simp only[cond_false] at hx
  cases k1:r.kind==1 with
  |true =>
   have k1':r.kind=1:=by simpa using k1
   rw[k1] at hx
   simp only[cond_true] at hx
   cases ha:xg r (aQ e.counts r.fr) with
   |false=>rw[ha] at hx; cases hx
   |true =>
    rw[ha] at hx
    simp only[Bool.not_true,cond_false,Option.some.injEq] at hx
    subst hx
    rw[if_neg (by omega),a1 l1 p2,b1 rfl p1,XJ,show(r.kind==2)=false by rw[k1']; rfl]
    simp only[cond_false]; omega
  |false =>
   rw[k1] at hx
   simp only[cond_false] at hx
   cases k2:r.kind==2 with
   |true =>
    have k2':r.kind=2:=by simpa using k2
    rw[k2] at hx
    simp only[cond_true] at hx
    cases ha:((aQ e.counts r.fr).getD r.gI.toNat 0==0) with
    |true=>rw[ha] at hx; cases hx
    |false =>
     rw[ha] at hx
     simp only[cond_false,Option.some.injEq] at hx
     subst hx
     have l2:(aQ (aQ e.counts r.fr) r.gI).length=e.counts.length:=by rw[nX,l1]
     rw[if_neg (by omega),a1 (by rw[EY,l2]) p2,a1 l2 p4,b1 l1 p3,b1 rfl p1,XJ,k2]
     simp only[cond_true]; omega
   |false =>
    rw[k2] at hx
    simp only[cond_false] at hx
    cases k3:r.kind==3 with
    |true =>
     have k3':r.kind=3:=by simpa using k3
     obtain⟨q1,q2⟩:=hr.place.rsp k3'
     rw[k3] at hx
     simp only[cond_true,Option.some.injEq] at hx
     subst hx
     have hs:=XK (c:=aQ e.counts r.fr) (w:=w) (by rw[l1]; exact q2) (k:=e.counts.length) (by omega)
     rw[l1] at hs
     rw[if_pos k3',a1 (by rw[qH,l1]) p2,l1,hs]; omega
    |false =>
     have k3':r.kind≠3:=by simpa using k3
     rw[k3] at hx
     simp only[cond_false,Option.some.injEq] at hx
     subst hx
     rw[if_neg k3',a1 l1 p2,b1 rfl p1,XJ,k2]
     simp only[cond_false]; omega
theorem H9{n:Nat}: ∀ {c:List Int} {k:Nat},k<=n->k<=c.length->sumW c (List.replicate n 1) k=(c.take k).sum:=by
 intro c k
 induction k with
 |zero=>intro _ _; simp[sumW]
 |succ k ih =>
  intro h1 h2
  have e1:(List.replicate n (1:Int)).getD k 0=1:=by
   rw[List.getD_eq_getElem?_getD,List.getElem?_replicate,if_pos (by omega)]; rfl
  rw[xK,ih (by omega) (by omega),Ia (by omega),e1,Int.mul_one]
theorem DI{n:Nat}{x:Int}(h:0<=x/\x<n):wt (List.replicate n 1) x=1:=by
 unfold wt
 rw[List.getD_eq_getElem?_getD,List.getElem?_replicate,if_pos (by omega)]; rfl
theorem Vy{r:Rule}{c:List Int}{n:Nat}(hr:rE n r.response): ∀ {k:Nat},k<=r.response.length->k<=n->Vw r c (List.replicate n 1) k=sumW c (List.replicate n 1) k:=by
 intro k
 induction k with
 |zero=>intro _ _; rfl
 |succ k ih =>
  intro h1 h2
  have e1:(List.replicate n (1:Int)).getD k 0=1:=by
   rw[List.getD_eq_getElem?_getD,List.getElem?_replicate,if_pos (by omega)]; rfl
  rw[KH,xK,ih (by omega) (by omega),DI (KG hr (by omega)),e1]
theorem RG{r:Rule}{e x:Elem}(hr:WtR e.counts.length r)(hx:gJ r e=some x):x.counts.sum=e.counts.sum:=by
 have h:=XL (List.replicate e.counts.length 1) hr hx
 have hl:=xM hx
 rw[H9 (Nat.le_refl _) (by omega),H9 (Nat.le_refl _) (Nat.le_refl _),List.take_of_length_le (by omega),List.take_of_length_le (Nat.le_refl _)] at h
 rw[h]
 have p1:=DI hr.place.src; have p2:=DI hr.place.dst; have p3:=DI hr.place.aaI; have p4:=DI hr.place.aaJ
 split
 ·rename_i k3
  obtain⟨q1,q2⟩:=hr.place.rsp k3
  have hd:=H8 (w:=List.replicate e.counts.length 1) hr.place.src
  rw[Vy q2 (by omega) (Nat.le_refl _),p2,hd,p1,H9 (Nat.le_refl _) (Nat.le_refl _),List.take_of_length_le (Nat.le_refl _)]; omega
 ·unfold XJ
  rw[p1,p2,p3,p4]
  cases r.kind==2<;>simp
theorem DJ{e:Elem}(hl:e.counts.length<=6)(h:e.counts.all EZ=true):sS e=e.counts.sum:=by
 rw[sS,if_neg (by omega),if_pos h]
end Go.Proofs.YtkomllaebngbfaaGreatDoor
