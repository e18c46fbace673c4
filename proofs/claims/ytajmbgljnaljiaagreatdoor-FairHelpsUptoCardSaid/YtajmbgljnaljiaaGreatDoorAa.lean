/-
 fair and its reference: families, kinds, rules. No condition.
-/
import Derived.Test.YtajmbgljnaljiaaGreatDoorFa
import Derived.Test.YtajmbgljnaljiaaGreatDoorRb
namespace Go.Proofs.YtajmbgljnaljiaaGreatDoor
open Go.Ab Go.Proofs
set_option maxRecDepth 100000
def AZ(p:aC):Int:=bif dw p !=0 then dw p else bif (oJ p).monadic then 0 else 7
theorem cf1(p:aC):AZ p=bif ((dw p==0)&& !(bif dw p !=0 then Qs else oJ p).monadic) then 7 else dw p:=by
 unfold AZ bne
 cases hz:dw p==0 with
 |true =>
  simp only[Bool.not_true,cond_false,Bool.true_and]
  cases (oJ p).monadic<;>simp[show dw p=0 from beq_iff_eq.1 hz]
 |false=>rfl
def uU(p:aC)(q:Prop'):Int:=bif jy p q !=0 then jy p q else AZ p
def Bg(p:aC)(q:Prop')(k:Int):Int:=bif (uU p q==0)&&(q.kind !=k) then 7 else uU p q
def V8(p:aC)(r:Int):Int:=bif (AZ p==0)&&(decide (r<0)||decide (r>=(p.rules.length:Int))) then 6 else AZ p
theorem S.jG(p:aC)(hp:dJ p):aj Tryz.prog 69 [.dat (.gW p)] (.int (AZ p)):=by
 refine aj.of Bd.jG (by simp) rfl rfl ?_
 conv=>whnf
 refine ah.pure (S.jh p hp) rfl ?_
 conv=>whnf
 repeat(refine VC.mk id ?_; conv=>whnf)
 refine⟨fun h1=>?_,fun h1=>?_⟩
 ·conv=>whnf
  exact ak.int (by rw[cf1,h1]; rfl)
 ·conv=>whnf
  exact ak.int (by rw[cf1,h1]; rfl)
theorem S.wu(p:aC)(q:Prop')(hp:dJ p)(hq:gG q):aj Tryz.prog 41 [.dat (.gW p),.dat (.prop q)] (.int (uU p q)):=by
 refine aj.of Bd.wu (by simp) rfl rfl ?_
 conv=>whnf
 refine ah.pure (S.eu p q hp hq) rfl ?_
 conv=>whnf
 refine⟨fun h1=>?_,fun h1=>?_⟩
 ·conv=>whnf
  exact ak.int (by rw[uU,h1]; rfl)
 ·conv=>whnf
  refine ah.pure (S.jG p hp) rfl ?_
  conv=>whnf
  exact ak.int (by rw[uU,h1]; rfl)
theorem S.jL(p:aC)(q:Prop')(k:Int)(hp:dJ p)(hq:gG q):aj Tryz.prog 22 [.dat (.gW p),.dat (.prop q),.int k] (.int (Bg p q k)):=by
 refine aj.of Bd.jL (by simp) rfl rfl ?_
 conv=>whnf
 refine ah.pure (S.wu p q hp hq) rfl ?_
 conv=>whnf
 repeat(refine VC.mk (by first|exact id|exact fun h=>⟨h,h⟩) ?_; conv=>whnf)
 refine⟨fun h1=>?_,fun h1=>?_⟩
 ·conv=>whnf
  exact ak.int (by rw[Bg,h1]; rfl)
 ·conv=>whnf
  exact ak.int (by rw[Bg,h1]; rfl)
theorem S.nU(p:aC)(r:Int)(hp:dJ p):aj Tryz.prog 55 [.dat (.gW p),.int r] (.int (V8 p r)):=by
 refine aj.of Bd.nU (by simp) rfl rfl ?_
 conv=>whnf
 refine ah.pure (S.jG p hp) rfl ?_
 conv=>whnf
 repeat(refine VC.mk (by first|exact id|exact fun h=>⟨h,h⟩|(intro h; simp[h]; done)) ?_; conv=>whnf)
 refine⟨fun h1=>?_,fun h1=>?_⟩
 ·conv=>whnf
  exact ak.int (by rw[V8,h1]; rfl)
 ·conv=>whnf
  exact ak.int (by rw[V8,h1]; rfl)
theorem S.wz(p:aC)(hp:dJ p):aj Tryz.prog 82 [.dat (.gW p)] (.int (AZ p)):=by
 refine aj.of Bd.wz (by simp) rfl rfl ?_
 conv=>whnf
 refine ah.pure (S.rD p hp) rfl ?_
 conv=>whnf
 refine⟨fun h1=>?_,fun h1=>?_⟩
 ·conv=>whnf
  exact ak.int (by rw[AZ,h1]; rfl)
 ·conv=>whnf
  refine⟨fun h2=>?_,fun h2=>?_⟩
  ·conv=>whnf
   exact ak.int (by rw[h1] at h2; rw[AZ,h1]; simp only[cond_false] at h2 ⊢; rw[show(oJ p).monadic=false by simpa using h2]; rfl)
  ·conv=>whnf
   exact ak.int (by rw[h1] at h2; rw[AZ,h1]; simp only[cond_false] at h2 ⊢; rw[show(oJ p).monadic=true by simpa using h2]; rfl)
theorem S.yF(p:aC)(q:Prop')(hp:dJ p)(hq:gG q):aj Tryz.prog 50 [.dat (.gW p),.dat (.prop q)] (.int (uU p q)):=by
 refine aj.of Bd.yF (by simp) rfl rfl ?_
 conv=>whnf
 refine ah.pure (S.gZ p q hp hq) rfl ?_
 conv=>whnf
 refine⟨fun h1=>?_,fun h1=>?_⟩
 ·conv=>whnf
  exact ak.int (by rw[uU,h1]; rfl)
 ·conv=>whnf
  refine ah.pure (S.wz p hp) rfl ?_
  conv=>whnf
  exact ak.int (by rw[uU,h1]; rfl)
theorem S.yG(p:aC)(q:Prop')(k:Int)(hp:dJ p)(hq:gG q):aj Tryz.prog 25 [.dat (.gW p),.dat (.prop q),.int k] (.int (Bg p q k)):=by
 refine aj.of Bd.yG (by simp) rfl rfl ?_
 conv=>whnf
 refine ah.pure (S.yF p q hp hq) rfl ?_
 conv=>whnf
 repeat(refine VC.mk (by first|exact id|exact fun h=>⟨h,h⟩) ?_; conv=>whnf)
 refine⟨fun h1=>?_,fun h1=>?_⟩
 ·conv=>whnf
  exact ak.int (by rw[Bg,h1]; rfl)
 ·conv=>whnf
  exact ak.int (by rw[Bg,h1]; rfl)
def XO(n:Int):Bool:= !(decide (2<n))
def cvB(p:aC)(e:Elem):Bool:=(MQ p e !=0)||(xJ e==0)
def LW(p:aC)(a:Elem):Int:=bif cvB p a then 1 else bif a.counts.all XO then 0 else 1
theorem S.lZ(p:aC)(a:Elem)(hp:dJ p)(ha:a.counts.length<2^30):aj Tryz.prog 56 [.dat (.gW p),.dat (.elem a)] (.int (LW p a)):=by
 refine aj.of Bd.lZ (by simp) rfl rfl ?_
 conv=>whnf
 refine ah.pure (S.jM p a hp ha) rfl ?_
 conv=>whnf
 refine VC.mk id ?_
 conv=>whnf
 refine ah.dL (fun _=>S.qJ a (by omega)) rfl ?_
 conv=>whnf
 repeat(refine VC.mk (by first|exact id|(intro h; rw[h]; rfl)) ?_; conv=>whnf)
 refine⟨fun h1=>?_,fun h1=>?_⟩
 ·conv=>whnf
  exact ak.int (by rw[LW,show cvB p a=true from h1]; rfl)
 have hc:cvB p a=false:=h1
 conv=>whnf
 refine aB.same [2,3,17,18] (fun i:Nat=>[(19,.int i)]) (fun i=>i<=a.counts.length/\(a.counts.take i).all XO=true) (fun i=>a.counts.length-i) 0 rfl (by decide) rfl (fun _=>rfl) ⟨by omega,by simp⟩ ⟨⟨_,rfl,rfl⟩,trivial⟩ ?_
 conv=>whnf
 refine⟨rfl,?_⟩
 rintro i ⟨hi,hall⟩
 conv=>whnf
 refine⟨fun h3=>?_,fun h3=>?_⟩
 ·have hi':i<a.counts.length:=by simpa using h3
  conv=>whnf
  refine .mk (by simp only[Rw.rng] at *; first|omega|(simp_all; done)|(simp_all; omega)) ?_
  conv=>whnf
  refine⟨fun h4=>?_,fun h4=>?_⟩
  ·conv=>whnf
   refine ak.int ?_
   rw[LW,hc,qp (d:=0) hi' (by simpa [XO] using h4)]; rfl
  ·conv=>whnf
   refine .mk (by simp only[okI] at *; first|omega|(simp_all; done)|(simp_all; omega)) ?_
   conv=>whnf
   refine⟨i+1,⟨by omega,?_⟩,by omega,⟨⟨_,rfl,rfl⟩,trivial⟩,?_,rfl⟩
   ·rw[sW (d:=0) hi' hall]; simpa [XO] using h4
   ·repeat' (first|exact trivial|exact⟨_,rfl,rfl⟩|constructor)
 ·have hi':a.counts.length<=i:=by simpa using h3
  conv=>whnf
  refine ak.int ?_
  rw[List.take_of_length_le hi'] at hall
  rw[LW,hc,hall]; rfl
theorem aeG(e:Elem):0<=xJ e:=by
 unfold xJ
 split
 ·omega
 ·split
  ·rename_i h; exact(vJ h).1
  ·omega
theorem nV{p:aC}(h:AZ p=0):OC p=0:=by
 unfold AZ at h
 unfold OC
 cases hv:(dw p !=0) with
 |true=>rw[hv] at h; simp only[cond_true] at h; rw[h] at hv; simp at hv
 |false =>
  rw[hv] at h
  simp only[cond_false] at h ⊢
  cases hm:(oJ p).monadic with
  |true=>simp
  |false=>rw[hm] at h; cases h
theorem aeH{p:aC}(h:AZ p=0)(e:Elem):MQ p e=fF (OD p e) 1:=by
 rw[MQ,nV h]; rfl
def ZH(p:aC)(e:Elem):Bool:=OD p e||(xJ e==0)
theorem aeI{p:aC}(h:AZ p=0)(e:Elem):cvB p e=ZH p e:=by
 unfold cvB ZH
 rw[aeH h]
 cases OD p e<;>rfl
def Jz(p:aC)(r:Int)(a:Elem):Int:=bif V8 p r !=0 then V8 p r else LW p a
def qW(l:List Int):List Int:=l.map fun n=>min n 2
def Qu(e:Elem):Elem:=⟨e.value,qW e.counts⟩
def Qv(l:List Int)(i:Nat):List Int:=qW (l.take i)++List.replicate (l.length-i) 0
theorem ZI(l:List Int)(i:Nat)(hi:i<=l.length):(Qv l i).length=l.length:=by simp[Qv,qW]; omega
theorem XP{l:List Int}{i:Nat}(hi:i<l.length):(Qv l i).set i (min (l.getD i 0) 2)=Qv l (i+1):=by
 have e1:l.length-i=(l.length-(i+1))+1:=by omega
 have e2:l.take (i+1)=l.take i++[l.getD i 0]:=by rw[List.take_add_one]; simp[hi]
 unfold Qv
 rw[e1,List.replicate_succ,List.set_append_right _ _ (by simp[qW]; omega)]
 have:i-(qW (l.take i)).length=0:=by simp[qW]; omega
 rw[this,List.set_cons_zero,e2]
 simp[qW]
theorem ZJ(l:List Int):Qv l l.length=qW l:=by simp[Qv]
theorem S.pG(e:Elem)(h0:0<e.counts.length)(he:e.counts.length<2^30):aj Tryz.prog 77 [.dat (.elem e)] (.dat (.elem (Qu e))):=by
 refine aj.of Bd.pG (by simp) rfl rfl ?_
 conv=>whnf
 have hm:=Bj (n:=e.counts.length) (by omega)
 rw[hm]
 conv=>whnf
 refine .mk (by omega) ?_
 conv=>whnf
 refine aB.nH 15 [2,3,14,15] (fun i:Nat=>[(16,.int i)]) (fun i=>[(0,.box 54 3 (.dat (.elem e))),(1,.box 54 3 (.agg [.int 0,.row 0 true .nil])),(7,mg (Qv e.counts i)),(9,.box 54 3 (.agg [.int e.value,.own 7]))]) (fun i=>i<=e.counts.length) (fun i=>e.counts.length-i) 0 [0,1,7,9] rfl (by decide) (fun _=>rfl) (Nat.zero_le _) ?_ ?_ ?_
 ·exact(sR rfl)
 ·exact⟨aT rfl rfl,aT rfl rfl,aT rfl rfl,kW rfl rfl rfl ⟨rfl,rfl⟩ (bD.of_eq rfl),trivial⟩
 conv=>whnf
 refine⟨(sR rfl),rfl,?_⟩
 rintro i hi
 have hRl:=ZI e.counts i hi
 conv=>whnf
 refine⟨fun g1=>?_,fun g1=>?_⟩
 ·have hi':i<e.counts.length:=by simpa using g1
  conv=>whnf
  repeat(refine VC.mk (by first|(simp only[Rw.rng,Int.toNat_natCast]; omega)|(simp only[okI,Int.toNat_natCast] at *; omega)) ?_; conv=>whnf)
  refine⟨i+1,[0,1,7,9],by omega,by omega,(sR rfl),(sR rfl),aT rfl rfl,aT rfl rfl,okF rfl nofun rfl rfl rfl ⟨rfl,rfl⟩ ?_,kW rfl rfl rfl ⟨rfl,rfl⟩ (bD.of_eq rfl),trivial⟩
  rw[<- XP hi']; rfl
 ·have hi':i=e.counts.length:=by
   have: ¬ ((i:Int)<(e.counts.length:Int)):=of_decide_eq_false g1
   omega
  subst hi'
  rw[ZJ]
  conv=>whnf
  exact ak.elem rfl
def GV(l:List Int)(i:Nat):List Int:=qW (l.take i)++l.drop i
theorem ZK(l:List Int)(i:Nat):(GV l i).length=l.length:=by simp[GV,qW]; omega
theorem ZL{l:List Int}{i:Nat}(hi:i<l.length):(GV l i).getD i 0=l.getD i 0:=by
 unfold GV
 have h:(qW (l.take i)).length=i:=by simp[qW]; omega
 rw[List.getD_eq_getElem?_getD,List.getElem?_append_right (by omega),h,Nat.sub_self,List.getElem?_drop]
 simp[List.getD_eq_getElem?_getD]
theorem XQ{l:List Int}{i:Nat}(hi:i<l.length):(GV l i).set i (min ((GV l i).getD i 0) 2)=GV l (i+1):=by
 rw[ZL hi]
 have e2:l.take (i+1)=l.take i++[l.getD i 0]:=by rw[List.take_add_one]; simp[hi]
 have h:(qW (l.take i)).length=i:=by simp[qW]; omega
 unfold GV
 rw[List.drop_eq_getElem_cons hi,List.set_append_right _ _ (by omega),h,Nat.sub_self,List.set_cons_zero,e2]
 simp[qW]
theorem ZM(l:List Int):GV l l.length=qW l:=by simp[GV]
theorem S.wB(e:Elem)(he:e.counts.length<2^30):aj Tryz.prog 88 [.dat (.elem e)] (.dat (.elem (Qu e))):=by
 refine aj.of Bd.wB (by simp) rfl rfl ?_
 conv=>whnf
 refine ah.heap (wC.frame (S.GX e he) _ _) ?_
 rintro t hp' ⟨rfl,rfl⟩
 refine⟨.agg [.int e.value,.own 3],(3,some (mg e.counts))::_,rfl,OE,?_⟩
 conv=>whnf
 refine aB.nH 7 [2,3] (fun i:Nat=>[(4,.int i)]) (fun i=>[(0,.box 54 3 (.dat (.elem e))),(1,.box 54 3 (.agg [.int 0,.row 0 true .nil])),(3,mg (GV e.counts i)),(4,.box 54 3 (.agg [.int e.value,.own 3]))]) (fun i=>i<=e.counts.length) (fun i=>e.counts.length-i) 0 [0,1,3,4] rfl (by decide) (fun _=>rfl) (Nat.zero_le _) ?_ ?_ ?_
 ·exact(sR rfl)
 ·exact⟨aT rfl rfl,aT rfl rfl,aT rfl rfl,kW rfl rfl rfl ⟨rfl,rfl⟩ (bD.of_eq rfl),trivial⟩
 conv=>whnf
 refine⟨(sR rfl),rfl,?_⟩
 rintro i hi
 have hRl:=ZK e.counts i
 conv=>whnf
 refine⟨fun g1=>?_,fun g1=>?_⟩
 ·have hi':i<e.counts.length:=by
   have:(i:Int)<((GV e.counts i).length:Int):=of_decide_eq_true g1
   omega
  conv=>whnf
  repeat(refine VC.mk (by first|(simp only[Rw.rng,Int.toNat_natCast]; omega)|(simp only[okI] at *; omega)) ?_; conv=>whnf)
  refine⟨i+1,[0,1,3,4],by omega,by omega,(sR rfl),(sR rfl),aT rfl rfl,aT rfl rfl,okF rfl nofun rfl rfl rfl ⟨rfl,rfl⟩ ?_,kW rfl rfl rfl ⟨rfl,rfl⟩ (bD.of_eq rfl),trivial⟩
  rw[<- XQ hi']; rfl
 ·have hi':i=e.counts.length:=by
   have: ¬ ((i:Int)<((GV e.counts i).length:Int)):=of_decide_eq_false g1
   omega
  subst hi'
  rw[ZM]
  conv=>whnf
  exact ak.elem rfl
end Go.Proofs.YtajmbgljnaljiaaGreatDoor
namespace Go.Proofs.YtajmbgljnaljiaaGreatDoor
open Go.Ab Go.Proofs
set_option maxRecDepth 100000
def Um(n:Int):Bool:= !(decide (n<0)||decide (6<n))
def GN(p:aC)(w:List Int):Bool:=bif (w.length:Int) !=p.states.length then false else w.all Um
theorem acv{p:aC}{w:List Int}(h:GN p w=true):w.length=p.states.length/\w.all Um=true:=by
 unfold GN at h
 cases hc:((w.length:Int) !=p.states.length) with
 |true=>rw[hc] at h; cases h
 |false=>rw[hc] at h; exact⟨by have:(w.length:Int)=p.states.length:=(by simpa using hc); omega,h⟩
theorem acw{w:List Int}(h:w.all Um=true)(i:Nat):0<=w.getD i 0/\w.getD i 0<=6:=by
 rw[List.getD_eq_getElem?_getD]
 cases hg:w[i]? with
 |none=>simp
 |some x =>
  have:=List.all_eq_true.1 h x (List.mem_of_getElem? hg)
  simp[Um] at this
  simp; omega
theorem S.jk(p:aC)(w:List Int)(f:Bool)(hw:w.length<2^30):aj Tryz.prog 33 [.dat (.gW p),.row 0 f (.ints w)] (.bool (GN p w)):=by
 refine aj.of Bd.jk (by simp) rfl rfl ?_
 conv=>whnf
 refine⟨fun h1=>?_,fun h1=>?_⟩
 ·conv=>whnf
  exact ak.bool (by rw[GN,h1]; rfl)
 conv=>whnf
 refine aB.same [13,14] (fun i:Nat=>[(15,.int i)]) (fun i=>i<=w.length/\(w.take i).all Um=true) (fun i=>w.length-i) 0 rfl (by decide) rfl (fun _=>rfl) ⟨by omega,by simp⟩ ⟨⟨_,rfl,rfl⟩,trivial⟩ ?_
 conv=>whnf
 refine⟨rfl,?_⟩
 rintro i ⟨hi,hall⟩
 conv=>whnf
 refine⟨fun h3=>?_,fun h3=>?_⟩
 ·have hi':i<w.length:=by simpa using h3
  conv=>whnf
  repeat(refine VC.mk (by first|exact id|(intro h; rw[h]; rfl)|(simp only[Rw.rng] at *; first|omega|(simp_all; done)|(simp_all; omega))) ?_; conv=>whnf)
  refine⟨fun h4=>?_,fun h4=>?_⟩
  ·conv=>whnf
   refine ak.bool ?_
   rw[GN,h1,qp (d:=0) hi' (congrArg Bool.not h4)]; rfl
  ·conv=>whnf
   refine .mk (by simp only[okI] at *; first|omega|(simp_all; done)|(simp_all; omega)) ?_
   conv=>whnf
   refine⟨i+1,⟨by omega,?_⟩,by omega,⟨⟨_,rfl,rfl⟩,trivial⟩,?_,rfl⟩
   ·rw[sW (d:=0) hi' hall]; exact congrArg Bool.not h4
   ·repeat' (first|exact trivial|exact⟨_,rfl,rfl⟩|constructor)
 ·have hi':w.length<=i:=by simpa using h3
  rw[List.take_of_length_le hi'] at hall
  conv=>whnf
  exact ak.bool (by rw[GN,h1,hall]; rfl)
theorem S.qK(p:aC)(w:List Int)(f:Bool)(hw:w.length<2^30):aj Tryz.prog 19 [.dat (.gW p),.row 0 f (.ints w)] (.bool (GN p w)):=by
 refine aj.of Bd.qK (by simp) rfl rfl ?_
 conv=>whnf
 refine⟨fun h1=>?_,fun h1=>?_⟩
 ·conv=>whnf
  exact ak.bool (by rw[GN,h1]; rfl)
 conv=>whnf
 refine aB.same [1] (fun i:Nat=>[(5,.int i)]) (fun i=>i<=w.length/\(w.take i).all Um=true) (fun i=>w.length-i) 0 rfl (by decide) rfl (fun _=>rfl) ⟨by omega,by simp⟩ ⟨⟨_,rfl,rfl⟩,trivial⟩ ?_
 conv=>whnf
 refine⟨rfl,?_⟩
 rintro i ⟨hi,hall⟩
 conv=>whnf
 refine⟨fun h3=>?_,fun h3=>?_⟩
 ·have hi':i<w.length:=by simpa using h3
  conv=>whnf
  repeat(refine VC.mk (by first|exact id|(intro h; rw[h]; rfl)|(intro h; (repeat' apply And.intro)<;>first|exact h|omega|(simp only[Rw.nO]; omega)|(simp only[Rw.rng]; omega))|(simp only[Rw.rng] at *; first|omega|(simp_all; done)|(simp_all; omega))) ?_; conv=>whnf)
  refine⟨fun h4=>?_,fun h4=>?_⟩
  ·conv=>whnf
   refine ak.bool ?_
   rw[GN,h1,qp (d:=0) hi' (congrArg Bool.not h4)]; rfl
  ·conv=>whnf
   refine .mk (by simp only[okI] at *; first|omega|(simp_all; done)|(simp_all; omega)) ?_
   conv=>whnf
   refine⟨i+1,⟨by omega,?_⟩,by omega,⟨⟨_,rfl,rfl⟩,trivial⟩,?_,rfl⟩
   ·rw[sW (d:=0) hi' hall]; exact congrArg Bool.not h4
   ·repeat' (first|exact trivial|exact⟨_,rfl,rfl⟩|constructor)
 ·have hi':w.length<=i:=by simpa using h3
  rw[List.take_of_length_le hi'] at hall
  conv=>whnf
  exact ak.bool (by rw[GN,h1,hall]; rfl)
structure V9(n:Nat)(r:Rule):Prop where
 place:sZ n r
 ahB:r.response.length<=n
 ahC:rE n r.response
 ahD:r.kind≠3->r.response=[]
theorem ahE{p:aC}{i:Nat}(hv:OG p)(ht:p.topology=1)(hi:i<p.rules.length):V9 p.states.length (p.rules.getD i default):=by
 have hF:=aee hv ht hi
 have hn:(p.rules.getD i default).kind≠3->(p.rules.getD i default).response=[]:=by
  have h:=hv.rule i hi
  simp only[iF,qh] at h
  generalize (p.rules.getD i default)=r at h ⊢
  obtain⟨_,h⟩:=bz (fun _=>by decide) h
  obtain⟨hb,h⟩:=bz (fun _=>by decide) h
  rw[ht,Bool.or_eq_false_iff] at hb
  have hk:=MR (show uw r.kind 1=true by simpa using hb.1)
  have hu:kM r 1=false:=by rw[wE (by omega)]; exact hb.2
  intro k3
  simp only[kM,OH,Bool.or_eq_false_iff] at hu
  have h4:=hu.2.2.2.1
  simp only[beq_eq_false_iff_ne.2 k3,Bool.not_false,Bool.true_and] at h4
  exact len_nil h4.1
 refine⟨hF.place,?_,?_,hn⟩
 ·by_cases k:(p.rules.getD i default).kind=3
  ·rw[(hF.place.rsp k).1]; exact Nat.le_refl _
  ·rw[hn k]; exact Nat.zero_le _
 ·by_cases k:(p.rules.getD i default).kind=3
  ·exact(hF.place.rsp k).2
  ·rw[hn k]; intro q hq; cases hq
theorem wtR{p:aC}(h:AZ p=0){i:Nat}(hi:i<p.rules.length):V9 p.states.length (p.rules.getD i default):=by
 obtain⟨h1,h2⟩:=iP (nV h)
 exact ahE (lT h1) (MS h2) hi
def wt(w:List Int)(x:Int):Int:=w.getD x.toNat 0
def GY(r:Rule)(w:List Int):Int:=bif r.kind==2 then(wt w r.to-wt w r.fr)+(wt w r.Bh-wt w r.fP) else wt w r.to-wt w r.fr
theorem Bl{w:List Int}(h:w.all Um=true)(x:Int):0<=wt w x/\wt w x<=6:=acw h _
theorem S.qL(r:Rule)(w:List Int)(f:Bool)(hw:w.all Um=true)(hr:V9 w.length r):aj Tryz.prog 94 [.dat (.rule r),.row 0 f (.ints w)] (.int (GY r w)):=by
 have a:=Bl hw r.to; have b:=Bl hw r.fr; have c:=Bl hw r.Bh; have d:=Bl hw r.fP
 have p1:=hr.place.src; have p2:=hr.place.dst; have p3:=hr.place.XR; have p4:=hr.place.XT
 unfold wt at a b c d
 refine aj.of Bd.qL (by simp) rfl rfl ?_
 conv=>whnf
 repeat(refine VC.mk (by simp only[okI,Rw.rng] at *; first|omega|(simp_all; done)|(simp_all; omega)) ?_; conv=>whnf)
 refine⟨fun h1=>?_,fun h1=>?_⟩
 ·conv=>whnf
  repeat(refine VC.mk (by simp only[okI,Rw.rng] at *; first|omega|(simp_all; done)|(simp_all; omega)) ?_; conv=>whnf)
  exact ak.int (by rw[GY,h1]; rfl)
 ·conv=>whnf
  exact ak.int (by rw[GY,h1]; rfl)
theorem S.qw(r:Rule)(w:List Int)(f:Bool)(hw:w.all Um=true)(hr:V9 w.length r):aj Tryz.prog 98 [.dat (.rule r),.row 0 f (.ints w)] (.int (GY r w)):=by
 have a:=Bl hw r.to; have b:=Bl hw r.fr; have c:=Bl hw r.Bh; have d:=Bl hw r.fP
 have p1:=hr.place.src; have p2:=hr.place.dst; have p3:=hr.place.XR; have p4:=hr.place.XT
 unfold wt at a b c d
 refine aj.of Bd.qw (by simp) rfl rfl ?_
 conv=>whnf
 repeat(refine VC.mk (by simp only[okI,Rw.rng] at *; first|omega|(simp_all; done)|(simp_all; omega)) ?_; conv=>whnf)
 refine⟨fun h1=>?_,fun h1=>?_⟩
 ·conv=>whnf
  repeat(refine VC.mk (by simp only[okI,Rw.rng] at *; first|omega|(simp_all; done)|(simp_all; omega)) ?_; conv=>whnf)
  exact ak.int (by rw[GY,h1]; rfl)
 ·conv=>whnf
  exact ak.int (by rw[GY,h1]; rfl)
def aeJ(r:Rule)(w:List Int)(x:Nat):Bool:=decide (w.getD x 0<wt w (r.response.getD x 0))
def upB(r:Rule)(w:List Int)(i:Nat):Bool:=(List.range i).any (aeJ r w)
def zQ(r:Rule)(w:List Int):Bool:=upB r w r.response.length||decide (0<GY r w)
theorem Qw{r:Rule}{w:List Int}{i:Nat}(h:upB r w i=false):upB r w (i+1)=aeJ r w i:=by
 unfold upB at h ⊢
 rw[List.range_succ,List.any_append,h]; simp
theorem ZN{r:Rule}{w:List Int}{i n:Nat}(hi:i<n)(h:aeJ r w i=true):upB r w n=true:=List.any_eq_true.2 ⟨i,List.mem_range.2 hi,h⟩
theorem Dh{n:Nat}{l:List Int}(h:rE n l){i:Nat}(hi:i<l.length):0<=l.getD i 0/\l.getD i 0<n:=by
 rw[List.getD_eq_getElem?_getD,List.getElem?_eq_getElem hi]; exact h _ (List.getElem_mem hi)
theorem S.lU(r:Rule)(w:List Int)(f:Bool)(hw:w.all Um=true)(hr:V9 w.length r)(hl:w.length<2^30):aj Tryz.prog 61 [.dat (.rule r),.row 0 f (.ints w)] (.bool (zQ r w)):=by
 have hrl:=hr.ahB
 refine aj.of Bd.lU (by simp) rfl rfl ?_
 conv=>whnf
 refine aB.same [1,2,8,9] (fun i:Nat=>[(10,.int i)]) (fun i=>i<=r.response.length/\upB r w i=false) (fun i=>r.response.length-i) 0 rfl (by decide) rfl (fun _=>rfl) ⟨by omega,rfl⟩ ⟨⟨_,rfl,rfl⟩,trivial⟩ ?_
 conv=>whnf
 refine⟨rfl,?_⟩
 rintro i ⟨hi,hno⟩
 conv=>whnf
 refine⟨fun h3=>?_,fun h3=>?_⟩
 ·have hi':i<r.response.length:=by simpa using h3
  have hpl:=Dh hr.ahC hi'
  conv=>whnf
  repeat(refine VC.mk (by simp only[Rw.rng,Int.toNat_natCast]; omega) ?_; conv=>whnf)
  refine⟨fun h4=>?_,fun h4=>?_⟩
  ·conv=>whnf
   exact ak.bool (by rw[zQ,ZN hi' h4]; rfl)
  ·conv=>whnf
   refine .mk (by simp only[okI] at *; first|omega|(simp_all; done)|(simp_all; omega)) ?_
   conv=>whnf
   refine⟨i+1,⟨by omega,?_⟩,by omega,⟨⟨_,rfl,rfl⟩,trivial⟩,?_,rfl⟩
   ·rw[Qw hno]; exact h4
   ·repeat' (first|exact trivial|exact⟨_,rfl,rfl⟩|constructor)
 ·have hi':i=r.response.length:=by
   have: ¬ ((i:Int)<(r.response.length:Int)):=of_decide_eq_false h3
   omega
  subst hi'
  conv=>whnf
  refine ah.pure (S.qL r w f hw hr) rfl ?_
  conv=>whnf
  exact ak.bool (by rw[zQ,hno]; rfl)
theorem S.nX(r:Rule)(w:List Int)(f:Bool)(hw:w.all Um=true)(hr:V9 w.length r)(hl:w.length<2^30):aj Tryz.prog 67 [.dat (.rule r),.row 0 f (.ints w)] (.bool (zQ r w)):=by
 refine aj.of Bd.nX (by simp) rfl rfl ?_
 conv=>whnf
 refine⟨fun h1=>?_,fun h1=>?_⟩
 ·have hk:r.kind=3:=by simpa using h1
  obtain⟨hrl,hrp⟩:=hr.place.rsp hk
  conv=>whnf
  refine aB.same [1,2] (fun i:Nat=>[(5,.int i)]) (fun i=>i<=w.length/\upB r w i=false) (fun i=>w.length-i) 0 rfl (by decide) rfl (fun _=>rfl) ⟨by omega,rfl⟩ ⟨⟨_,rfl,rfl⟩,trivial⟩ ?_
  conv=>whnf
  refine⟨rfl,?_⟩
  rintro i ⟨hi,hno⟩
  conv=>whnf
  refine⟨fun h3=>?_,fun h3=>?_⟩
  ·have hi':i<w.length:=by simpa using h3
   have hpl:=Dh hrp (show i<r.response.length by omega)
   conv=>whnf
   repeat(refine VC.mk (by simp only[Rw.rng,Int.toNat_natCast]; omega) ?_; conv=>whnf)
   refine⟨fun h4=>?_,fun h4=>?_⟩
   ·conv=>whnf
    exact ak.bool (by rw[zQ,ZN (show i<r.response.length by omega) h4]; rfl)
   ·conv=>whnf
    refine .mk (by simp only[okI] at *; first|omega|(simp_all; done)|(simp_all; omega)) ?_
    conv=>whnf
    refine⟨i+1,⟨by omega,?_⟩,by omega,⟨⟨_,rfl,rfl⟩,trivial⟩,?_,rfl⟩
    ·rw[Qw hno]; exact h4
    ·repeat' (first|exact trivial|exact⟨_,rfl,rfl⟩|constructor)
  ·have hi':i=r.response.length:=by
    have: ¬ ((i:Int)<(w.length:Int)):=of_decide_eq_false h3
    omega
   conv=>whnf
   refine ah.pure (S.qw r w f hw hr) rfl ?_
   conv=>whnf
   rw[hi'] at hno
   exact ak.bool (by rw[zQ,hno]; rfl)
 ·have hk:r.kind≠3:=by simpa using h1
  conv=>whnf
  refine ah.pure (S.qw r w f hw hr) rfl ?_
  conv=>whnf
  exact ak.bool (by rw[zQ,hr.ahD hk]; rfl)
def Fa(r:Rule)(w:List Int):Bool:= !(zQ r w)&&decide (GY r w<0)
theorem S.mX(r:Rule)(w:List Int)(f:Bool)(hw:w.all Um=true)(hr:V9 w.length r)(hl:w.length<2^30):aj Tryz.prog 62 [.dat (.rule r),.row 0 f (.ints w)] (.bool (Fa r w)):=by
 refine aj.of Bd.mX (by simp) rfl rfl ?_
 conv=>whnf
 refine ah.pure (S.lU r w f hw hr hl) rfl ?_
 conv=>whnf
 refine .mk (by exact fun h=>⟨h,h⟩) ?_
 conv=>whnf
 refine ah.dL (fun _=>S.qL r w f hw hr) rfl ?_
 conv=>whnf
 repeat(refine VC.mk id ?_; conv=>whnf)
 exact ak.bool rfl
theorem S.oK(r:Rule)(w:List Int)(f:Bool)(hw:w.all Um=true)(hr:V9 w.length r)(hl:w.length<2^30):aj Tryz.prog 95 [.dat (.rule r),.row 0 f (.ints w)] (.bool (Fa r w)):=by
 refine aj.of Bd.oK (by simp) rfl rfl ?_
 conv=>whnf
 refine ah.pure (S.nX r w f hw hr hl) rfl ?_
 conv=>whnf
 refine .mk (by exact fun h=>⟨h,h⟩) ?_
 conv=>whnf
 refine ah.dL (fun _=>S.qw r w f hw hr) rfl ?_
 conv=>whnf
 repeat(refine VC.mk id ?_; conv=>whnf)
 exact ak.bool rfl
def ZO(r:Rule)(x:Int):Bool:=((x==r.fr)||((r.kind==2)&&(x==r.fP)))||((r.kind==3)&&(r.response.getD x.toNat 0 !=x))
theorem S.wF(r:Rule)(x:Int)(n:Nat)(hr:V9 n r)(hx:0<=x/\x<n):aj Tryz.prog 63 [.dat (.rule r),.int x] (.bool (ZO r x)):=by
 have hk:=hr.place.rsp
 refine aj.of Bd.wF (by simp) rfl rfl ?_
 conv=>whnf
 repeat(refine VC.mk (by first|exact id|exact fun h=>⟨h,h⟩|(intro h; rw[h]; rfl)|(intro h; simp[h]; done)|(intro h; simp_all; done)|(simp only[Rw.rng] at *; first|omega|(simp_all; done)|(simp_all; omega))) ?_; conv=>whnf)
 exact ak.bool rfl
theorem S.yH(r:Rule)(x:Int)(n:Nat)(hr:V9 n r)(hx:0<=x/\x<n):aj Tryz.prog 124 [.dat (.rule r),.int x] (.bool (ZO r x)):=by
 have hk:=hr.place.rsp
 refine aj.of Bd.yH (by simp) rfl rfl ?_
 conv=>whnf
 repeat(refine VC.mk (by first|exact id|exact fun h=>⟨h,h⟩|(intro h; rw[h]; rfl)|(intro h; simp[h]; done)|(intro h; simp_all; done)|(simp only[Rw.rng] at *; first|omega|(simp_all; done)|(simp_all; omega))) ?_; conv=>whnf)
 exact ak.bool rfl
def sumW(c w:List Int)(i:Nat):Int:=(List.range i).foldl (fun a j=>a+c.getD j 0*w.getD j 0) 0
theorem yI{c w:List Int}{i:Nat}:sumW c w (i+1)=sumW c w i+c.getD i 0*w.getD i 0:=by
 unfold sumW; rw[List.range_succ,List.foldl_append]; rfl
theorem aeK{p:aC}{e:Elem}(h:ZH p e=false):e.counts.length=p.states.length/\E8 e.counts:=by
 unfold ZH at h
 rw[Bool.or_eq_false_iff] at h
 have:=aeL h.1
 exact⟨this.1,this.2.1⟩
theorem agn{p:aC}{r:Int}(hc:AZ p=0)(h:V8 p r=0):0<=r/\r.toNat<p.rules.length/\r<p.rules.length:=by
 unfold V8 at h
 rw[hc] at h
 cases hb:(decide (r<0)||decide (r>=(p.rules.length:Int))) with
 |true=>rw[hb] at h; cases h
 |false=>rw[Bool.or_eq_false_iff,decide_eq_false_iff_not,decide_eq_false_iff_not] at hb; omega
theorem agp{p:aC}{r:Int}(h:V8 p r=0):AZ p=0:=by
 by_cases h0:AZ p=0
 ·exact h0
 ·unfold V8 at h
  rw[show(AZ p==0)=false by simpa using h0] at h; exact absurd h h0
theorem JA{c:List Int}{i j:Nat}{v:Int}(hi:i<c.length):(c.set i v).getD j 0=if j=i then v else c.getD j 0:=by
 rw[List.getD_eq_getElem?_getD,List.getD_eq_getElem?_getD]
 by_cases e:j=i
 ·subst e; simp[hi]
 ·rw[if_neg e,List.getElem?_set_ne (fun h=>e h.symm)]
theorem Qx{c w:List Int}{i:Nat}{v:Int}(hi:i<c.length): ∀ {n:Nat},sumW (c.set i v) w n=sumW c w n+(if i<n then(v-c.getD i 0)*w.getD i 0 else 0):=by
 intro n
 induction n with
 |zero=>simp[sumW]
 |succ n ih =>
  rw[yI,yI,ih,JA hi]
  by_cases e:n=i
  ·subst e
   rw[if_pos rfl,if_neg (Nat.lt_irrefl _),if_pos (Nat.lt_succ_self _),Int.sub_mul]; omega
  ·rw[if_neg e]
   by_cases h:i<n
   ·rw[if_pos h,if_pos (by omega)]; omega
   ·rw[if_neg h,if_neg (by omega)]; omega
theorem Qy{c w:List Int}{i d:Int}(hi:0<=i/\i<c.length):sumW (ig c i d) w c.length=sumW c w c.length+d*wt w i:=by
 unfold ig wt
 rw[Qx (by omega),if_pos (by omega)]
 have:c.getD i.toNat 0+d-c.getD i.toNat 0=d:=by omega
 rw[this]
theorem JB{c w:List Int}{i:Int}(hi:0<=i/\i<c.length):sumW (aU c i) w c.length=sumW c w c.length-wt w i:=by
 unfold aU wt
 rw[Qx (by omega),if_pos (by omega)]
 have:c.getD i.toNat 0-1-c.getD i.toNat 0= -1:=by omega
 rw[this]; omega
def XU(r:Rule)(c w:List Int)(k:Nat):Int:=(List.range k).foldl (fun a j=>a+c.getD j 0*wt w (r.response.getD j 0)) 0
theorem MV{r:Rule}{c w:List Int}{k:Nat}:XU r c w (k+1)=XU r c w k+c.getD k 0*wt w (r.response.getD k 0):=by
 unfold XU; rw[List.range_succ,List.foldl_append]; rfl
theorem XV{n w:Nat}{l:List Int}:sumW (List.replicate n 0) l w=0:=by
 induction w with
 |zero=>rfl
 |succ w ih =>
  rw[yI,ih,List.getD_eq_getElem?_getD]
  have:((List.replicate n (0:Int))[w]?.getD 0)=0:=by
   rw[List.getElem?_replicate]; split<;>rfl
  rw[this]; simp
theorem ZP{r:Rule}{c w:List Int}(hr:rE c.length r.response): ∀ {k:Nat},k<=r.response.length->sumW (pI r c k) w c.length=XU r c w k:=by
 intro k
 induction k with
 |zero=>intro _; exact XV
 |succ k ih =>
  intro hk
  have hl:=rF (r:=r) (c:=c) (i:=k)
  have:=Qy (c:=pI r c k) (w:=w) (i:=r.response.getD k 0) (d:=c.getD k 0) (by rw[hl]; exact Dh hr (by omega))
  rw[hl] at this
  rw[vK,this,ih (by omega),MV]
theorem ZQ{r:Rule}{e x:Elem}(w:List Int)(hr:V9 e.counts.length r)(hx:eP r e=some x):sumW x.counts w e.counts.length =
  if r.kind=3 then XU r (aU e.counts r.fr) w e.counts.length+wt w r.to else sumW e.counts w e.counts.length+GY r w:=by
 have p1:=hr.place.src; have p2:=hr.place.dst; have p3:=hr.place.XR; have p4:=hr.place.XT
 have d1:=JB (w:=w) p1
 have l1:(aU e.counts r.fr).length=e.counts.length:=kK
 have a1: ∀ {c:List Int} {i d:Int},c.length=e.counts.length->0<=i/\i<e.counts.length->sumW (ig c i d) w e.counts.length=sumW c w e.counts.length+d*wt w i:=by
  intro c i d hl hi
  have:=Qy (c:=c) (w:=w) (d:=d) (by rw[hl]; exact hi)
  rw[hl] at this; exact this
 have b1: ∀ {c:List Int} {i:Int},c.length=e.counts.length->0<=i/\i<e.counts.length->sumW (aU c i) w e.counts.length=sumW c w e.counts.length-wt w i:=by
  intro c i hl hi
  have:=JB (c:=c) (w:=w) (by rw[hl]; exact hi)
  rw[hl] at this; exact this
 unfold eP at hx
 simp only at hx
 cases h0:(decide (0<=r.read)&&e.value !=r.read||e.counts.getD r.fr.toNat 0==0) with
 |true=>rw[h0] at hx; cases hx
 |false =>
  rw[h0] at hx
  simp only[cond_false] at hx
  cases k1:r.kind==1 with
  |true =>
   have k1':r.kind=1:=by simpa using k1
   rw[k1] at hx
   simp only[cond_true] at hx
   cases ha:rG r (aU e.counts r.fr) with
   |false=>rw[ha] at hx; cases hx
   |true =>
    rw[ha] at hx
    simp only[Bool.not_true,cond_false,Option.some.injEq] at hx
    subst hx
    rw[if_neg (by omega),a1 l1 p2,b1 rfl p1,GY,show(r.kind==2)=false by rw[k1']; rfl]
    simp only[cond_false]; omega
  |false =>
   rw[k1] at hx
   simp only[cond_false] at hx
   cases k2:r.kind==2 with
   |true =>
    have k2':r.kind=2:=by simpa using k2
    rw[k2] at hx
    simp only[cond_true] at hx
    cases ha:((aU e.counts r.fr).getD r.fP.toNat 0==0) with
    |true=>rw[ha] at hx; cases hx
    |false =>
     rw[ha] at hx
     simp only[cond_false,Option.some.injEq] at hx
     subst hx
     have l2:(aU (aU e.counts r.fr) r.fP).length=e.counts.length:=by rw[kK,l1]
     rw[if_neg (by omega),a1 (by rw[GZ,l2]) p2,a1 l2 p4,b1 l1 p3,b1 rfl p1,GY,k2]
     simp only[cond_true]; omega
   |false =>
    rw[k2] at hx
    simp only[cond_false] at hx
    cases k3:r.kind==3 with
    |true =>
     have k3':r.kind=3:=by simpa using k3
     obtain⟨q1,q2⟩:=hr.place.rsp k3'
     rw[k3] at hx
     simp only[cond_true,Option.some.injEq] at hx
     subst hx
     have hs:=ZP (c:=aU e.counts r.fr) (w:=w) (by rw[l1]; exact q2) (k:=e.counts.length) (by omega)
     rw[l1] at hs
     rw[if_pos k3',a1 (by rw[rF,l1]) p2,l1,hs]; omega
    |false =>
     have k3':r.kind≠3:=by simpa using k3
     rw[k3] at hx
     simp only[cond_false,Option.some.injEq] at hx
     subst hx
     rw[if_neg k3',a1 l1 p2,b1 rfl p1,GY,k2]
     simp only[cond_false]; omega
theorem JC{n:Nat}: ∀ {c:List Int} {k:Nat},k<=n->k<=c.length->sumW c (List.replicate n 1) k=(c.take k).sum:=by
 intro c k
 induction k with
 |zero=>intro _ _; simp[sumW]
 |succ k ih =>
  intro h1 h2
  have e1:(List.replicate n (1:Int)).getD k 0=1:=by
   rw[List.getD_eq_getElem?_getD,List.getElem?_replicate,if_pos (by omega)]; rfl
  rw[yI,ih (by omega) (by omega),JD (by omega),e1,Int.mul_one]
theorem Fb{n:Nat}{x:Int}(h:0<=x/\x<n):wt (List.replicate n 1) x=1:=by
 unfold wt
 rw[List.getD_eq_getElem?_getD,List.getElem?_replicate,if_pos (by omega)]; rfl
theorem XW{r:Rule}{c:List Int}{n:Nat}(hr:rE n r.response): ∀ {k:Nat},k<=r.response.length->k<=n->XU r c (List.replicate n 1) k=sumW c (List.replicate n 1) k:=by
 intro k
 induction k with
 |zero=>intro _ _; rfl
 |succ k ih =>
  intro h1 h2
  have e1:(List.replicate n (1:Int)).getD k 0=1:=by
   rw[List.getD_eq_getElem?_getD,List.getElem?_replicate,if_pos (by omega)]; rfl
  rw[MV,yI,ih (by omega) (by omega),Fb (Dh hr (by omega)),e1]
theorem Ux{r:Rule}{e x:Elem}(hr:V9 e.counts.length r)(hx:eP r e=some x):x.counts.sum=e.counts.sum:=by
 have h:=ZQ (List.replicate e.counts.length 1) hr hx
 have hl:=yJ hx
 rw[JC (Nat.le_refl _) (by omega),JC (Nat.le_refl _) (Nat.le_refl _),List.take_of_length_le (by omega),List.take_of_length_le (Nat.le_refl _)] at h
 rw[h]
 have p1:=Fb hr.place.src; have p2:=Fb hr.place.dst; have p3:=Fb hr.place.XR; have p4:=Fb hr.place.XT
 split
 ·rename_i k3
  obtain⟨q1,q2⟩:=hr.place.rsp k3
  have hd:=JB (w:=List.replicate e.counts.length 1) hr.place.src
  rw[XW q2 (by omega) (Nat.le_refl _),p2,hd,p1,JC (Nat.le_refl _) (Nat.le_refl _),List.take_of_length_le (Nat.le_refl _)]; omega
 ·unfold GY
  rw[p1,p2,p3,p4]
  cases r.kind==2<;>simp
theorem Fe{e:Elem}(hl:e.counts.length<=6)(h:e.counts.all IV=true):xJ e=e.counts.sum:=by
 rw[xJ,if_neg (by omega),if_pos h]
end Go.Proofs.YtajmbgljnaljiaaGreatDoor
