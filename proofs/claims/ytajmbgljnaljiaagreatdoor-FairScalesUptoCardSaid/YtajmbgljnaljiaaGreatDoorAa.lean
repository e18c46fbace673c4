/-
 fair and its reference: families, kinds, rules. No condition.
-/
import Derived.Test.YtajmbgljnaljiaaGreatDoorFa
import Derived.Test.YtajmbgljnaljiaaGreatDoorRb
namespace Go.Proofs.YtajmbgljnaljiaaGreatDoor
open Go.Ab Go.Proofs
set_option maxRecDepth 100000
def AQ(p:aC):Int:=bif dw p !=0 then dw p else bif (oJ p).monadic then 0 else 7
theorem cf1(p:aC):AQ p=bif ((dw p==0)&& !(bif dw p !=0 then Qp else oJ p).monadic) then 7 else dw p:=by
 unfold AQ bne
 cases hz:dw p==0 with
 |true =>
  simp only[Bool.not_true,cond_false,Bool.true_and]
  cases (oJ p).monadic<;>simp[show dw p=0 from beq_iff_eq.1 hz]
 |false=>rfl
def vk(p:aC)(q:Prop'):Int:=bif jr p q !=0 then jr p q else AQ p
def GK(p:aC)(q:Prop')(k:Int):Int:=bif (vk p q==0)&&(q.kind !=k) then 7 else vk p q
def Wn(p:aC)(r:Int):Int:=bif (AQ p==0)&&(decide (r<0)||decide (r>=(p.rules.length:Int))) then 6 else AQ p
theorem S.jE(p:aC)(hp:dL p):aj Tryz.prog 69 [.dat (.iE p)] (.int (AQ p)):=by
 refine aj.of Bd.jE (by simp) rfl rfl ?_
 conv=>whnf
 refine ah.pure (S.jf p hp) rfl ?_
 conv=>whnf
 repeat(refine VC.mk id ?_; conv=>whnf)
 refine⟨fun h1=>?_,fun h1=>?_⟩
 ·conv=>whnf
  exact ak.int (by rw[cf1,h1]; rfl)
 ·conv=>whnf
  exact ak.int (by rw[cf1,h1]; rfl)
theorem S.wu(p:aC)(q:Prop')(hp:dL p)(hq:iF q):aj Tryz.prog 41 [.dat (.iE p),.dat (.prop q)] (.int (vk p q)):=by
 refine aj.of Bd.wu (by simp) rfl rfl ?_
 conv=>whnf
 refine ah.pure (S.eu p q hp hq) rfl ?_
 conv=>whnf
 refine⟨fun h1=>?_,fun h1=>?_⟩
 ·conv=>whnf
  exact ak.int (by rw[vk,h1]; rfl)
 ·conv=>whnf
  refine ah.pure (S.jE p hp) rfl ?_
  conv=>whnf
  exact ak.int (by rw[vk,h1]; rfl)
theorem S.kY(p:aC)(q:Prop')(k:Int)(hp:dL p)(hq:iF q):aj Tryz.prog 22 [.dat (.iE p),.dat (.prop q),.int k] (.int (GK p q k)):=by
 refine aj.of Bd.kY (by simp) rfl rfl ?_
 conv=>whnf
 refine ah.pure (S.wu p q hp hq) rfl ?_
 conv=>whnf
 repeat(refine VC.mk (by first|exact id|exact fun h=>⟨h,h⟩) ?_; conv=>whnf)
 refine⟨fun h1=>?_,fun h1=>?_⟩
 ·conv=>whnf
  exact ak.int (by rw[GK,h1]; rfl)
 ·conv=>whnf
  exact ak.int (by rw[GK,h1]; rfl)
theorem S.nU(p:aC)(r:Int)(hp:dL p):aj Tryz.prog 55 [.dat (.iE p),.int r] (.int (Wn p r)):=by
 refine aj.of Bd.nU (by simp) rfl rfl ?_
 conv=>whnf
 refine ah.pure (S.jE p hp) rfl ?_
 conv=>whnf
 repeat(refine VC.mk (by first|exact id|exact fun h=>⟨h,h⟩|(intro h; simp[h]; done)) ?_; conv=>whnf)
 refine⟨fun h1=>?_,fun h1=>?_⟩
 ·conv=>whnf
  exact ak.int (by rw[Wn,h1]; rfl)
 ·conv=>whnf
  exact ak.int (by rw[Wn,h1]; rfl)
theorem S.wz(p:aC)(hp:dL p):aj Tryz.prog 82 [.dat (.iE p)] (.int (AQ p)):=by
 refine aj.of Bd.wz (by simp) rfl rfl ?_
 conv=>whnf
 refine ah.pure (S.rD p hp) rfl ?_
 conv=>whnf
 refine⟨fun h1=>?_,fun h1=>?_⟩
 ·conv=>whnf
  exact ak.int (by rw[AQ,h1]; rfl)
 ·conv=>whnf
  refine⟨fun h2=>?_,fun h2=>?_⟩
  ·conv=>whnf
   exact ak.int (by rw[h1] at h2; rw[AQ,h1]; simp only[cond_false] at h2 ⊢; rw[show(oJ p).monadic=false by simpa using h2]; rfl)
  ·conv=>whnf
   exact ak.int (by rw[h1] at h2; rw[AQ,h1]; simp only[cond_false] at h2 ⊢; rw[show(oJ p).monadic=true by simpa using h2]; rfl)
theorem S.yI(p:aC)(q:Prop')(hp:dL p)(hq:iF q):aj Tryz.prog 50 [.dat (.iE p),.dat (.prop q)] (.int (vk p q)):=by
 refine aj.of Bd.yI (by simp) rfl rfl ?_
 conv=>whnf
 refine ah.pure (S.gX p q hp hq) rfl ?_
 conv=>whnf
 refine⟨fun h1=>?_,fun h1=>?_⟩
 ·conv=>whnf
  exact ak.int (by rw[vk,h1]; rfl)
 ·conv=>whnf
  refine ah.pure (S.wz p hp) rfl ?_
  conv=>whnf
  exact ak.int (by rw[vk,h1]; rfl)
theorem S.Bl(p:aC)(q:Prop')(k:Int)(hp:dL p)(hq:iF q):aj Tryz.prog 25 [.dat (.iE p),.dat (.prop q),.int k] (.int (GK p q k)):=by
 refine aj.of Bd.Bl (by simp) rfl rfl ?_
 conv=>whnf
 refine ah.pure (S.yI p q hp hq) rfl ?_
 conv=>whnf
 repeat(refine VC.mk (by first|exact id|exact fun h=>⟨h,h⟩) ?_; conv=>whnf)
 refine⟨fun h1=>?_,fun h1=>?_⟩
 ·conv=>whnf
  exact ak.int (by rw[GK,h1]; rfl)
 ·conv=>whnf
  exact ak.int (by rw[GK,h1]; rfl)
def XQ(n:Int):Bool:= !(decide (2<n))
def cvB(p:aC)(e:Elem):Bool:=(MK p e !=0)||(xM e==0)
def LM(p:aC)(a:Elem):Int:=bif cvB p a then 1 else bif a.counts.all XQ then 0 else 1
theorem S.lY(p:aC)(a:Elem)(hp:dL p)(ha:a.counts.length<2^30):aj Tryz.prog 56 [.dat (.iE p),.dat (.elem a)] (.int (LM p a)):=by
 refine aj.of Bd.lY (by simp) rfl rfl ?_
 conv=>whnf
 refine ah.pure (S.jK p a hp ha) rfl ?_
 conv=>whnf
 refine VC.mk id ?_
 conv=>whnf
 refine ah.dM (fun _=>S.qL a (by omega)) rfl ?_
 conv=>whnf
 repeat(refine VC.mk (by first|exact id|(intro h; rw[h]; rfl)) ?_; conv=>whnf)
 refine⟨fun h1=>?_,fun h1=>?_⟩
 ·conv=>whnf
  exact ak.int (by rw[LM,show cvB p a=true from h1]; rfl)
 have hc:cvB p a=false:=h1
 conv=>whnf
 refine aB.same [2,3,17,18] (fun i:Nat=>[(19,.int i)]) (fun i=>i<=a.counts.length/\(a.counts.take i).all XQ=true) (fun i=>a.counts.length-i) 0 rfl (by decide) rfl (fun _=>rfl) ⟨by omega,by simp⟩ ⟨⟨_,rfl,rfl⟩,trivial⟩ ?_
 conv=>whnf
 refine⟨rfl,?_⟩
 rintro i ⟨hi,hall⟩
 conv=>whnf
 refine⟨fun h3=>?_,fun h3=>?_⟩
 ·have hi':i<a.counts.length:=by simpa using h3
  conv=>whnf
  refine .mk (by simp only[Rw.rng] at *; first|omega|(simp_all; done)|(simp_all; omega)) ?_
  conv=>whnf
  refine⟨fun h4=>?_,fun h4=>?_⟩
  ·conv=>whnf
   refine ak.int ?_
   rw[LM,hc,qy (d:=0) hi' (by simpa [XQ] using h4)]; rfl
  ·conv=>whnf
   refine .mk (by simp only[okI] at *; first|omega|(simp_all; done)|(simp_all; omega)) ?_
   conv=>whnf
   refine⟨i+1,⟨by omega,?_⟩,by omega,⟨⟨_,rfl,rfl⟩,trivial⟩,?_,rfl⟩
   ·rw[sV (d:=0) hi' hall]; simpa [XQ] using h4
   ·repeat' (first|exact trivial|exact⟨_,rfl,rfl⟩|constructor)
 ·have hi':a.counts.length<=i:=by simpa using h3
  conv=>whnf
  refine ak.int ?_
  rw[List.take_of_length_le hi'] at hall
  rw[LM,hc,hall]; rfl
theorem aeL(e:Elem):0<=xM e:=by
 unfold xM
 split
 ·omega
 ·split
  ·rename_i h; exact(vJ h).1
  ·omega
theorem lS{p:aC}(h:AQ p=0):Oz p=0:=by
 unfold AQ at h
 unfold Oz
 cases hv:(dw p !=0) with
 |true=>rw[hv] at h; simp only[cond_true] at h; rw[h] at hv; simp at hv
 |false =>
  rw[hv] at h
  simp only[cond_false] at h ⊢
  cases hm:(oJ p).monadic with
  |true=>simp
  |false=>rw[hm] at h; cases h
theorem aeM{p:aC}(h:AQ p=0)(e:Elem):MK p e=fG (OA p e) 1:=by
 rw[MK,lS h]; rfl
def ZK(p:aC)(e:Elem):Bool:=OA p e||(xM e==0)
theorem aeN{p:aC}(h:AQ p=0)(e:Elem):cvB p e=ZK p e:=by
 unfold cvB ZK
 rw[aeM h]
 cases OA p e<;>rfl
def Ju(p:aC)(r:Int)(a:Elem):Int:=bif Wn p r !=0 then Wn p r else LM p a
def qW(l:List Int):List Int:=l.map fun n=>min n 2
def Qq(e:Elem):Elem:=⟨e.value,qW e.counts⟩
def Qr(l:List Int)(i:Nat):List Int:=qW (l.take i)++List.replicate (l.length-i) 0
theorem ZL(l:List Int)(i:Nat)(hi:i<=l.length):(Qr l i).length=l.length:=by simp[Qr,qW]; omega
theorem XR{l:List Int}{i:Nat}(hi:i<l.length):(Qr l i).set i (min (l.getD i 0) 2)=Qr l (i+1):=by
 have e1:l.length-i=(l.length-(i+1))+1:=by omega
 have e2:l.take (i+1)=l.take i++[l.getD i 0]:=by rw[List.take_add_one]; simp[hi]
 unfold Qr
 rw[e1,List.replicate_succ,List.set_append_right _ _ (by simp[qW]; omega)]
 have:i-(qW (l.take i)).length=0:=by simp[qW]; omega
 rw[this,List.set_cons_zero,e2]
 simp[qW]
theorem ZM(l:List Int):Qr l l.length=qW l:=by simp[Qr]
theorem S.pJ(e:Elem)(h0:0<e.counts.length)(he:e.counts.length<2^30):aj Tryz.prog 77 [.dat (.elem e)] (.dat (.elem (Qq e))):=by
 refine aj.of Bd.pJ (by simp) rfl rfl ?_
 conv=>whnf
 have hm:=Bo (n:=e.counts.length) (by omega)
 rw[hm]
 conv=>whnf
 refine .mk (by omega) ?_
 conv=>whnf
 refine aB.nD 15 [2,3,14,15] (fun i:Nat=>[(16,.int i)]) (fun i=>[(0,.box 54 3 (.dat (.elem e))),(1,.box 54 3 (.agg [.int 0,.row 0 true .nil])),(7,nN (Qr e.counts i)),(9,.box 54 3 (.agg [.int e.value,.own 7]))]) (fun i=>i<=e.counts.length) (fun i=>e.counts.length-i) 0 [0,1,7,9] rfl (by decide) (fun _=>rfl) (Nat.zero_le _) ?_ ?_ ?_
 ·exact(sR rfl)
 ·exact⟨aT rfl rfl,aT rfl rfl,aT rfl rfl,kX rfl rfl rfl ⟨rfl,rfl⟩ (bD.of_eq rfl),trivial⟩
 conv=>whnf
 refine⟨(sR rfl),rfl,?_⟩
 rintro i hi
 have hRl:=ZL e.counts i hi
 conv=>whnf
 refine⟨fun g1=>?_,fun g1=>?_⟩
 ·have hi':i<e.counts.length:=by simpa using g1
  conv=>whnf
  repeat(refine VC.mk (by first|(simp only[Rw.rng,Int.toNat_natCast]; omega)|(simp only[okI,Int.toNat_natCast] at *; omega)) ?_; conv=>whnf)
  refine⟨i+1,[0,1,7,9],by omega,by omega,(sR rfl),(sR rfl),aT rfl rfl,aT rfl rfl,okF rfl nofun rfl rfl rfl ⟨rfl,rfl⟩ ?_,kX rfl rfl rfl ⟨rfl,rfl⟩ (bD.of_eq rfl),trivial⟩
  rw[<- XR hi']; rfl
 ·have hi':i=e.counts.length:=by
   have: ¬ ((i:Int)<(e.counts.length:Int)):=of_decide_eq_false g1
   omega
  subst hi'
  rw[ZM]
  conv=>whnf
  exact ak.elem rfl
def GL(l:List Int)(i:Nat):List Int:=qW (l.take i)++l.drop i
theorem ZN(l:List Int)(i:Nat):(GL l i).length=l.length:=by simp[GL,qW]; omega
theorem ZO{l:List Int}{i:Nat}(hi:i<l.length):(GL l i).getD i 0=l.getD i 0:=by
 unfold GL
 have h:(qW (l.take i)).length=i:=by simp[qW]; omega
 rw[List.getD_eq_getElem?_getD,List.getElem?_append_right (by omega),h,Nat.sub_self,List.getElem?_drop]
 simp[List.getD_eq_getElem?_getD]
theorem XT{l:List Int}{i:Nat}(hi:i<l.length):(GL l i).set i (min ((GL l i).getD i 0) 2)=GL l (i+1):=by
 rw[ZO hi]
 have e2:l.take (i+1)=l.take i++[l.getD i 0]:=by rw[List.take_add_one]; simp[hi]
 have h:(qW (l.take i)).length=i:=by simp[qW]; omega
 unfold GL
 rw[List.drop_eq_getElem_cons hi,List.set_append_right _ _ (by omega),h,Nat.sub_self,List.set_cons_zero,e2]
 simp[qW]
theorem ZP(l:List Int):GL l l.length=qW l:=by simp[GL]
theorem S.wB(e:Elem)(he:e.counts.length<2^30):aj Tryz.prog 88 [.dat (.elem e)] (.dat (.elem (Qq e))):=by
 refine aj.of Bd.wB (by simp) rfl rfl ?_
 conv=>whnf
 refine ah.heap (wC.frame (S.GN e he) _ _) ?_
 rintro t hp' ⟨rfl,rfl⟩
 refine⟨.agg [.int e.value,.own 3],(3,some (nN e.counts))::_,rfl,OB,?_⟩
 conv=>whnf
 refine aB.nD 7 [2,3] (fun i:Nat=>[(4,.int i)]) (fun i=>[(0,.box 54 3 (.dat (.elem e))),(1,.box 54 3 (.agg [.int 0,.row 0 true .nil])),(3,nN (GL e.counts i)),(4,.box 54 3 (.agg [.int e.value,.own 3]))]) (fun i=>i<=e.counts.length) (fun i=>e.counts.length-i) 0 [0,1,3,4] rfl (by decide) (fun _=>rfl) (Nat.zero_le _) ?_ ?_ ?_
 ·exact(sR rfl)
 ·exact⟨aT rfl rfl,aT rfl rfl,aT rfl rfl,kX rfl rfl rfl ⟨rfl,rfl⟩ (bD.of_eq rfl),trivial⟩
 conv=>whnf
 refine⟨(sR rfl),rfl,?_⟩
 rintro i hi
 have hRl:=ZN e.counts i
 conv=>whnf
 refine⟨fun g1=>?_,fun g1=>?_⟩
 ·have hi':i<e.counts.length:=by
   have:(i:Int)<((GL e.counts i).length:Int):=of_decide_eq_true g1
   omega
  conv=>whnf
  repeat(refine VC.mk (by first|(simp only[Rw.rng,Int.toNat_natCast]; omega)|(simp only[okI] at *; omega)) ?_; conv=>whnf)
  refine⟨i+1,[0,1,3,4],by omega,by omega,(sR rfl),(sR rfl),aT rfl rfl,aT rfl rfl,okF rfl nofun rfl rfl rfl ⟨rfl,rfl⟩ ?_,kX rfl rfl rfl ⟨rfl,rfl⟩ (bD.of_eq rfl),trivial⟩
  rw[<- XT hi']; rfl
 ·have hi':i=e.counts.length:=by
   have: ¬ ((i:Int)<((GL e.counts i).length:Int)):=of_decide_eq_false g1
   omega
  subst hi'
  rw[ZP]
  conv=>whnf
  exact ak.elem rfl
end Go.Proofs.YtajmbgljnaljiaaGreatDoor
namespace Go.Proofs.YtajmbgljnaljiaaGreatDoor
open Go.Ab Go.Proofs
set_option maxRecDepth 100000
def Uo(n:Int):Bool:= !(decide (n<0)||decide (6<n))
def Gz(p:aC)(w:List Int):Bool:=bif (w.length:Int) !=p.states.length then false else w.all Uo
theorem OC{p:aC}{w:List Int}(h:Gz p w=true):w.length=p.states.length/\w.all Uo=true:=by
 unfold Gz at h
 cases hc:((w.length:Int) !=p.states.length) with
 |true=>rw[hc] at h; cases h
 |false=>rw[hc] at h; exact⟨by have:(w.length:Int)=p.states.length:=(by simpa using hc); omega,h⟩
theorem Wp{w:List Int}(h:w.all Uo=true)(i:Nat):0<=w.getD i 0/\w.getD i 0<=6:=by
 rw[List.getD_eq_getElem?_getD]
 cases hg:w[i]? with
 |none=>simp
 |some x =>
  have:=List.all_eq_true.1 h x (List.mem_of_getElem? hg)
  simp[Uo] at this
  simp; omega
theorem S.kK(p:aC)(w:List Int)(f:Bool)(hw:w.length<2^30):aj Tryz.prog 33 [.dat (.iE p),.row 0 f (.ints w)] (.bool (Gz p w)):=by
 refine aj.of Bd.kK (by simp) rfl rfl ?_
 conv=>whnf
 refine⟨fun h1=>?_,fun h1=>?_⟩
 ·conv=>whnf
  exact ak.bool (by rw[Gz,h1]; rfl)
 conv=>whnf
 refine aB.same [13,14] (fun i:Nat=>[(15,.int i)]) (fun i=>i<=w.length/\(w.take i).all Uo=true) (fun i=>w.length-i) 0 rfl (by decide) rfl (fun _=>rfl) ⟨by omega,by simp⟩ ⟨⟨_,rfl,rfl⟩,trivial⟩ ?_
 conv=>whnf
 refine⟨rfl,?_⟩
 rintro i ⟨hi,hall⟩
 conv=>whnf
 refine⟨fun h3=>?_,fun h3=>?_⟩
 ·have hi':i<w.length:=by simpa using h3
  conv=>whnf
  repeat(refine VC.mk (by first|exact id|(intro h; rw[h]; rfl)|(simp only[Rw.rng] at *; first|omega|(simp_all; done)|(simp_all; omega))) ?_; conv=>whnf)
  refine⟨fun h4=>?_,fun h4=>?_⟩
  ·conv=>whnf
   refine ak.bool ?_
   rw[Gz,h1,qy (d:=0) hi' (congrArg Bool.not h4)]; rfl
  ·conv=>whnf
   refine .mk (by simp only[okI] at *; first|omega|(simp_all; done)|(simp_all; omega)) ?_
   conv=>whnf
   refine⟨i+1,⟨by omega,?_⟩,by omega,⟨⟨_,rfl,rfl⟩,trivial⟩,?_,rfl⟩
   ·rw[sV (d:=0) hi' hall]; exact congrArg Bool.not h4
   ·repeat' (first|exact trivial|exact⟨_,rfl,rfl⟩|constructor)
 ·have hi':w.length<=i:=by simpa using h3
  rw[List.take_of_length_le hi'] at hall
  conv=>whnf
  exact ak.bool (by rw[Gz,h1,hall]; rfl)
theorem S.nV(p:aC)(w:List Int)(f:Bool)(hw:w.length<2^30):aj Tryz.prog 19 [.dat (.iE p),.row 0 f (.ints w)] (.bool (Gz p w)):=by
 refine aj.of Bd.nV (by simp) rfl rfl ?_
 conv=>whnf
 refine⟨fun h1=>?_,fun h1=>?_⟩
 ·conv=>whnf
  exact ak.bool (by rw[Gz,h1]; rfl)
 conv=>whnf
 refine aB.same [1] (fun i:Nat=>[(5,.int i)]) (fun i=>i<=w.length/\(w.take i).all Uo=true) (fun i=>w.length-i) 0 rfl (by decide) rfl (fun _=>rfl) ⟨by omega,by simp⟩ ⟨⟨_,rfl,rfl⟩,trivial⟩ ?_
 conv=>whnf
 refine⟨rfl,?_⟩
 rintro i ⟨hi,hall⟩
 conv=>whnf
 refine⟨fun h3=>?_,fun h3=>?_⟩
 ·have hi':i<w.length:=by simpa using h3
  conv=>whnf
  repeat(refine VC.mk (by first|exact id|(intro h; rw[h]; rfl)|(intro h; (repeat' apply And.intro)<;>first|exact h|omega|(simp only[Rw.nO]; omega)|(simp only[Rw.rng]; omega))|(simp only[Rw.rng] at *; first|omega|(simp_all; done)|(simp_all; omega))) ?_; conv=>whnf)
  refine⟨fun h4=>?_,fun h4=>?_⟩
  ·conv=>whnf
   refine ak.bool ?_
   rw[Gz,h1,qy (d:=0) hi' (congrArg Bool.not h4)]; rfl
  ·conv=>whnf
   refine .mk (by simp only[okI] at *; first|omega|(simp_all; done)|(simp_all; omega)) ?_
   conv=>whnf
   refine⟨i+1,⟨by omega,?_⟩,by omega,⟨⟨_,rfl,rfl⟩,trivial⟩,?_,rfl⟩
   ·rw[sV (d:=0) hi' hall]; exact congrArg Bool.not h4
   ·repeat' (first|exact trivial|exact⟨_,rfl,rfl⟩|constructor)
 ·have hi':w.length<=i:=by simpa using h3
  rw[List.take_of_length_le hi'] at hall
  conv=>whnf
  exact ak.bool (by rw[Gz,h1,hall]; rfl)
structure Uy(n:Nat)(r:Rule):Prop where
 place:sW n r
 agu:r.response.length<=n
 agv:rE n r.response
 ahG:r.kind≠3->r.response=[]
theorem ahH{p:aC}{i:Nat}(hv:OD p)(ht:p.topology=1)(hi:i<p.rules.length):Uy p.states.length (p.rules.getD i default):=by
 have hF:=aei hv ht hi
 have hn:(p.rules.getD i default).kind≠3->(p.rules.getD i default).response=[]:=by
  have h:=hv.rule i hi
  simp only[iC,qw] at h
  generalize (p.rules.getD i default)=r at h ⊢
  obtain⟨_,h⟩:=bz (fun _=>by decide) h
  obtain⟨hb,h⟩:=bz (fun _=>by decide) h
  rw[ht,Bool.or_eq_false_iff] at hb
  have hk:=ML (show uq r.kind 1=true by simpa using hb.1)
  have hu:kL r 1=false:=by rw[wE (by omega)]; exact hb.2
  intro k3
  simp only[kL,OE,Bool.or_eq_false_iff] at hu
  have h4:=hu.2.2.2.1
  simp only[beq_eq_false_iff_ne.2 k3,Bool.not_false,Bool.true_and] at h4
  exact len_nil h4.1
 refine⟨hF.place,?_,?_,hn⟩
 ·by_cases k:(p.rules.getD i default).kind=3
  ·rw[(hF.place.rsp k).1]; exact Nat.le_refl _
  ·rw[hn k]; exact Nat.zero_le _
 ·by_cases k:(p.rules.getD i default).kind=3
  ·exact(hF.place.rsp k).2
  ·rw[hn k]; intro q hq; cases hq
theorem wtR{p:aC}(h:AQ p=0){i:Nat}(hi:i<p.rules.length):Uy p.states.length (p.rules.getD i default):=by
 obtain⟨h1,h2⟩:=gu (lS h)
 exact ahH (kU h1) (MN h2) hi
def wt(w:List Int)(x:Int):Int:=w.getD x.toNat 0
def wF(r:Rule)(w:List Int):Int:=bif r.kind==2 then(wt w r.to-wt w r.fr)+(wt w r.Bj-wt w r.fQ) else wt w r.to-wt w r.fr
theorem Bq{w:List Int}(h:w.all Uo=true)(x:Int):0<=wt w x/\wt w x<=6:=Wp h _
theorem S.qM(r:Rule)(w:List Int)(f:Bool)(hw:w.all Uo=true)(hr:Uy w.length r):aj Tryz.prog 94 [.dat (.rule r),.row 0 f (.ints w)] (.int (wF r w)):=by
 have a:=Bq hw r.to; have b:=Bq hw r.fr; have c:=Bq hw r.Bj; have d:=Bq hw r.fQ
 have p1:=hr.place.src; have p2:=hr.place.dst; have p3:=hr.place.Uz; have p4:=hr.place.UA
 unfold wt at a b c d
 refine aj.of Bd.qM (by simp) rfl rfl ?_
 conv=>whnf
 repeat(refine VC.mk (by simp only[okI,Rw.rng] at *; first|omega|(simp_all; done)|(simp_all; omega)) ?_; conv=>whnf)
 refine⟨fun h1=>?_,fun h1=>?_⟩
 ·conv=>whnf
  repeat(refine VC.mk (by simp only[okI,Rw.rng] at *; first|omega|(simp_all; done)|(simp_all; omega)) ?_; conv=>whnf)
  exact ak.int (by rw[wF,h1]; rfl)
 ·conv=>whnf
  exact ak.int (by rw[wF,h1]; rfl)
theorem S.qA(r:Rule)(w:List Int)(f:Bool)(hw:w.all Uo=true)(hr:Uy w.length r):aj Tryz.prog 98 [.dat (.rule r),.row 0 f (.ints w)] (.int (wF r w)):=by
 have a:=Bq hw r.to; have b:=Bq hw r.fr; have c:=Bq hw r.Bj; have d:=Bq hw r.fQ
 have p1:=hr.place.src; have p2:=hr.place.dst; have p3:=hr.place.Uz; have p4:=hr.place.UA
 unfold wt at a b c d
 refine aj.of Bd.qA (by simp) rfl rfl ?_
 conv=>whnf
 repeat(refine VC.mk (by simp only[okI,Rw.rng] at *; first|omega|(simp_all; done)|(simp_all; omega)) ?_; conv=>whnf)
 refine⟨fun h1=>?_,fun h1=>?_⟩
 ·conv=>whnf
  repeat(refine VC.mk (by simp only[okI,Rw.rng] at *; first|omega|(simp_all; done)|(simp_all; omega)) ?_; conv=>whnf)
  exact ak.int (by rw[wF,h1]; rfl)
 ·conv=>whnf
  exact ak.int (by rw[wF,h1]; rfl)
def UC(r:Rule)(w:List Int)(x:Nat):Bool:=decide (w.getD x 0<wt w (r.response.getD x 0))
def upB(r:Rule)(w:List Int)(i:Nat):Bool:=(List.range i).any (UC r w)
def oK(r:Rule)(w:List Int):Bool:=upB r w r.response.length||decide (0<wF r w)
theorem Qs{r:Rule}{w:List Int}{i:Nat}(h:upB r w i=false):upB r w (i+1)=UC r w i:=by
 unfold upB at h ⊢
 rw[List.range_succ,List.any_append,h]; simp
theorem ZQ{r:Rule}{w:List Int}{i n:Nat}(hi:i<n)(h:UC r w i=true):upB r w n=true:=List.any_eq_true.2 ⟨i,List.mem_range.2 hi,h⟩
theorem yJ{n:Nat}{l:List Int}(h:rE n l){i:Nat}(hi:i<l.length):0<=l.getD i 0/\l.getD i 0<n:=by
 rw[List.getD_eq_getElem?_getD,List.getElem?_eq_getElem hi]; exact h _ (List.getElem_mem hi)
theorem S.lT(r:Rule)(w:List Int)(f:Bool)(hw:w.all Uo=true)(hr:Uy w.length r)(hl:w.length<2^30):aj Tryz.prog 61 [.dat (.rule r),.row 0 f (.ints w)] (.bool (oK r w)):=by
 have hrl:=hr.agu
 refine aj.of Bd.lT (by simp) rfl rfl ?_
 conv=>whnf
 refine aB.same [1,2,8,9] (fun i:Nat=>[(10,.int i)]) (fun i=>i<=r.response.length/\upB r w i=false) (fun i=>r.response.length-i) 0 rfl (by decide) rfl (fun _=>rfl) ⟨by omega,rfl⟩ ⟨⟨_,rfl,rfl⟩,trivial⟩ ?_
 conv=>whnf
 refine⟨rfl,?_⟩
 rintro i ⟨hi,hno⟩
 conv=>whnf
 refine⟨fun h3=>?_,fun h3=>?_⟩
 ·have hi':i<r.response.length:=by simpa using h3
  have hpl:=yJ hr.agv hi'
  conv=>whnf
  repeat(refine VC.mk (by simp only[Rw.rng,Int.toNat_natCast]; omega) ?_; conv=>whnf)
  refine⟨fun h4=>?_,fun h4=>?_⟩
  ·conv=>whnf
   exact ak.bool (by rw[oK,ZQ hi' h4]; rfl)
  ·conv=>whnf
   refine .mk (by simp only[okI] at *; first|omega|(simp_all; done)|(simp_all; omega)) ?_
   conv=>whnf
   refine⟨i+1,⟨by omega,?_⟩,by omega,⟨⟨_,rfl,rfl⟩,trivial⟩,?_,rfl⟩
   ·rw[Qs hno]; exact h4
   ·repeat' (first|exact trivial|exact⟨_,rfl,rfl⟩|constructor)
 ·have hi':i=r.response.length:=by
   have: ¬ ((i:Int)<(r.response.length:Int)):=of_decide_eq_false h3
   omega
  subst hi'
  conv=>whnf
  refine ah.pure (S.qM r w f hw hr) rfl ?_
  conv=>whnf
  exact ak.bool (by rw[oK,hno]; rfl)
theorem S.nX(r:Rule)(w:List Int)(f:Bool)(hw:w.all Uo=true)(hr:Uy w.length r)(hl:w.length<2^30):aj Tryz.prog 67 [.dat (.rule r),.row 0 f (.ints w)] (.bool (oK r w)):=by
 refine aj.of Bd.nX (by simp) rfl rfl ?_
 conv=>whnf
 refine⟨fun h1=>?_,fun h1=>?_⟩
 ·have hk:r.kind=3:=by simpa using h1
  obtain⟨hrl,hrp⟩:=hr.place.rsp hk
  conv=>whnf
  refine aB.same [1,2] (fun i:Nat=>[(5,.int i)]) (fun i=>i<=w.length/\upB r w i=false) (fun i=>w.length-i) 0 rfl (by decide) rfl (fun _=>rfl) ⟨by omega,rfl⟩ ⟨⟨_,rfl,rfl⟩,trivial⟩ ?_
  conv=>whnf
  refine⟨rfl,?_⟩
  rintro i ⟨hi,hno⟩
  conv=>whnf
  refine⟨fun h3=>?_,fun h3=>?_⟩
  ·have hi':i<w.length:=by simpa using h3
   have hpl:=yJ hrp (show i<r.response.length by omega)
   conv=>whnf
   repeat(refine VC.mk (by simp only[Rw.rng,Int.toNat_natCast]; omega) ?_; conv=>whnf)
   refine⟨fun h4=>?_,fun h4=>?_⟩
   ·conv=>whnf
    exact ak.bool (by rw[oK,ZQ (show i<r.response.length by omega) h4]; rfl)
   ·conv=>whnf
    refine .mk (by simp only[okI] at *; first|omega|(simp_all; done)|(simp_all; omega)) ?_
    conv=>whnf
    refine⟨i+1,⟨by omega,?_⟩,by omega,⟨⟨_,rfl,rfl⟩,trivial⟩,?_,rfl⟩
    ·rw[Qs hno]; exact h4
    ·repeat' (first|exact trivial|exact⟨_,rfl,rfl⟩|constructor)
  ·have hi':i=r.response.length:=by
    have: ¬ ((i:Int)<(w.length:Int)):=of_decide_eq_false h3
    omega
   conv=>whnf
   refine ah.pure (S.qA r w f hw hr) rfl ?_
   conv=>whnf
   rw[hi'] at hno
   exact ak.bool (by rw[oK,hno]; rfl)
 ·have hk:r.kind≠3:=by simpa using h1
  conv=>whnf
  refine ah.pure (S.qA r w f hw hr) rfl ?_
  conv=>whnf
  exact ak.bool (by rw[oK,hr.ahG hk]; rfl)
def rF(r:Rule)(w:List Int):Bool:= !(oK r w)&&decide (wF r w<0)
theorem S.mW(r:Rule)(w:List Int)(f:Bool)(hw:w.all Uo=true)(hr:Uy w.length r)(hl:w.length<2^30):aj Tryz.prog 62 [.dat (.rule r),.row 0 f (.ints w)] (.bool (rF r w)):=by
 refine aj.of Bd.mW (by simp) rfl rfl ?_
 conv=>whnf
 refine ah.pure (S.lT r w f hw hr hl) rfl ?_
 conv=>whnf
 refine .mk (by exact fun h=>⟨h,h⟩) ?_
 conv=>whnf
 refine ah.dM (fun _=>S.qM r w f hw hr) rfl ?_
 conv=>whnf
 repeat(refine VC.mk id ?_; conv=>whnf)
 exact ak.bool rfl
theorem S.oL(r:Rule)(w:List Int)(f:Bool)(hw:w.all Uo=true)(hr:Uy w.length r)(hl:w.length<2^30):aj Tryz.prog 95 [.dat (.rule r),.row 0 f (.ints w)] (.bool (rF r w)):=by
 refine aj.of Bd.oL (by simp) rfl rfl ?_
 conv=>whnf
 refine ah.pure (S.nX r w f hw hr hl) rfl ?_
 conv=>whnf
 refine .mk (by exact fun h=>⟨h,h⟩) ?_
 conv=>whnf
 refine ah.dM (fun _=>S.qA r w f hw hr) rfl ?_
 conv=>whnf
 repeat(refine VC.mk id ?_; conv=>whnf)
 exact ak.bool rfl
def ZR(r:Rule)(x:Int):Bool:=((x==r.fr)||((r.kind==2)&&(x==r.fQ)))||((r.kind==3)&&(r.response.getD x.toNat 0 !=x))
theorem S.wG(r:Rule)(x:Int)(n:Nat)(hr:Uy n r)(hx:0<=x/\x<n):aj Tryz.prog 63 [.dat (.rule r),.int x] (.bool (ZR r x)):=by
 have hk:=hr.place.rsp
 refine aj.of Bd.wG (by simp) rfl rfl ?_
 conv=>whnf
 repeat(refine VC.mk (by first|exact id|exact fun h=>⟨h,h⟩|(intro h; rw[h]; rfl)|(intro h; simp[h]; done)|(intro h; simp_all; done)|(simp only[Rw.rng] at *; first|omega|(simp_all; done)|(simp_all; omega))) ?_; conv=>whnf)
 exact ak.bool rfl
theorem S.yK(r:Rule)(x:Int)(n:Nat)(hr:Uy n r)(hx:0<=x/\x<n):aj Tryz.prog 124 [.dat (.rule r),.int x] (.bool (ZR r x)):=by
 have hk:=hr.place.rsp
 refine aj.of Bd.yK (by simp) rfl rfl ?_
 conv=>whnf
 repeat(refine VC.mk (by first|exact id|exact fun h=>⟨h,h⟩|(intro h; rw[h]; rfl)|(intro h; simp[h]; done)|(intro h; simp_all; done)|(simp only[Rw.rng] at *; first|omega|(simp_all; done)|(simp_all; omega))) ?_; conv=>whnf)
 exact ak.bool rfl
def sumW(c w:List Int)(i:Nat):Int:=(List.range i).foldl (fun a j=>a+c.getD j 0*w.getD j 0) 0
theorem yL{c w:List Int}{i:Nat}:sumW c w (i+1)=sumW c w i+c.getD i 0*w.getD i 0:=by
 unfold sumW; rw[List.range_succ,List.foldl_append]; rfl
theorem aeO{p:aC}{e:Elem}(h:ZK p e=false):e.counts.length=p.states.length/\EZ e.counts:=by
 unfold ZK at h
 rw[Bool.or_eq_false_iff] at h
 have:=aeP h.1
 exact⟨this.1,this.2.1⟩
theorem agw{p:aC}{r:Int}(hc:AQ p=0)(h:Wn p r=0):0<=r/\r.toNat<p.rules.length/\r<p.rules.length:=by
 unfold Wn at h
 rw[hc] at h
 cases hb:(decide (r<0)||decide (r>=(p.rules.length:Int))) with
 |true=>rw[hb] at h; cases h
 |false=>rw[Bool.or_eq_false_iff,decide_eq_false_iff_not,decide_eq_false_iff_not] at hb; omega
theorem agx{p:aC}{r:Int}(h:Wn p r=0):AQ p=0:=by
 by_cases h0:AQ p=0
 ·exact h0
 ·unfold Wn at h
  rw[show(AQ p==0)=false by simpa using h0] at h; exact absurd h h0
theorem Jv{c:List Int}{i j:Nat}{v:Int}(hi:i<c.length):(c.set i v).getD j 0=if j=i then v else c.getD j 0:=by
 rw[List.getD_eq_getElem?_getD,List.getD_eq_getElem?_getD]
 by_cases e:j=i
 ·subst e; simp[hi]
 ·rw[if_neg e,List.getElem?_set_ne (fun h=>e h.symm)]
theorem Qu{c w:List Int}{i:Nat}{v:Int}(hi:i<c.length): ∀ {n:Nat},sumW (c.set i v) w n=sumW c w n+(if i<n then(v-c.getD i 0)*w.getD i 0 else 0):=by
 intro n
 induction n with
 |zero=>simp[sumW]
 |succ n ih =>
  rw[yL,yL,ih,Jv hi]
  by_cases e:n=i
  ·subst e
   rw[if_pos rfl,if_neg (Nat.lt_irrefl _),if_pos (Nat.lt_succ_self _),Int.sub_mul]; omega
  ·rw[if_neg e]
   by_cases h:i<n
   ·rw[if_pos h,if_pos (by omega)]; omega
   ·rw[if_neg h,if_neg (by omega)]; omega
theorem Qv{c w:List Int}{i d:Int}(hi:0<=i/\i<c.length):sumW (gY c i d) w c.length=sumW c w c.length+d*wt w i:=by
 unfold gY wt
 rw[Qu (by omega),if_pos (by omega)]
 have:c.getD i.toNat 0+d-c.getD i.toNat 0=d:=by omega
 rw[this]
theorem Jw{c w:List Int}{i:Int}(hi:0<=i/\i<c.length):sumW (aU c i) w c.length=sumW c w c.length-wt w i:=by
 unfold aU wt
 rw[Qu (by omega),if_pos (by omega)]
 have:c.getD i.toNat 0-1-c.getD i.toNat 0= -1:=by omega
 rw[this]; omega
def XU(r:Rule)(c w:List Int)(k:Nat):Int:=(List.range k).foldl (fun a j=>a+c.getD j 0*wt w (r.response.getD j 0)) 0
theorem MO{r:Rule}{c w:List Int}{k:Nat}:XU r c w (k+1)=XU r c w k+c.getD k 0*wt w (r.response.getD k 0):=by
 unfold XU; rw[List.range_succ,List.foldl_append]; rfl
theorem XV{n w:Nat}{l:List Int}:sumW (List.replicate n 0) l w=0:=by
 induction w with
 |zero=>rfl
 |succ w ih =>
  rw[yL,ih,List.getD_eq_getElem?_getD]
  have:((List.replicate n (0:Int))[w]?.getD 0)=0:=by
   rw[List.getElem?_replicate]; split<;>rfl
  rw[this]; simp
theorem ZT{r:Rule}{c w:List Int}(hr:rE c.length r.response): ∀ {k:Nat},k<=r.response.length->sumW (pK r c k) w c.length=XU r c w k:=by
 intro k
 induction k with
 |zero=>intro _; exact XV
 |succ k ih =>
  intro hk
  have hl:=rG (r:=r) (c:=c) (i:=k)
  have:=Qv (c:=pK r c k) (w:=w) (i:=r.response.getD k 0) (d:=c.getD k 0) (by rw[hl]; exact yJ hr (by omega))
  rw[hl] at this
  rw[vK,this,ih (by omega),MO]
theorem ZU{r:Rule}{e x:Elem}(w:List Int)(hr:Uy e.counts.length r)(hx:eP r e=some x):sumW x.counts w e.counts.length =
  if r.kind=3 then XU r (aU e.counts r.fr) w e.counts.length+wt w r.to else sumW e.counts w e.counts.length+wF r w:=by
 have p1:=hr.place.src; have p2:=hr.place.dst; have p3:=hr.place.Uz; have p4:=hr.place.UA
 have d1:=Jw (w:=w) p1
 have l1:(aU e.counts r.fr).length=e.counts.length:=kH
 have a1: ∀ {c:List Int} {i d:Int},c.length=e.counts.length->0<=i/\i<e.counts.length->sumW (gY c i d) w e.counts.length=sumW c w e.counts.length+d*wt w i:=by
  intro c i d hl hi
  have:=Qv (c:=c) (w:=w) (d:=d) (by rw[hl]; exact hi)
  rw[hl] at this; exact this
 have b1: ∀ {c:List Int} {i:Int},c.length=e.counts.length->0<=i/\i<e.counts.length->sumW (aU c i) w e.counts.length=sumW c w e.counts.length-wt w i:=by
  intro c i hl hi
  have:=Jw (c:=c) (w:=w) (by rw[hl]; exact hi)
  rw[hl] at this; exact this
 unfold eP at hx
 simp only at hx
 cases h0:(decide (0<=r.read)&&e.value !=r.read||e.counts.getD r.fr.toNat 0==0) with
 |true=>rw[h0] at hx; cases hx
 |false =>
  rw[h0] at hx
  simp only[cond_false] at hx
  cases k1:r.kind==1 with
  |true =>
   have k1':r.kind=1:=by simpa using k1
   rw[k1] at hx
   simp only[cond_true] at hx
   cases ha:rH r (aU e.counts r.fr) with
   |false=>rw[ha] at hx; cases hx
   |true =>
    rw[ha] at hx
    simp only[Bool.not_true,cond_false,Option.some.injEq] at hx
    subst hx
    rw[if_neg (by omega),a1 l1 p2,b1 rfl p1,wF,show(r.kind==2)=false by rw[k1']; rfl]
    simp only[cond_false]; omega
  |false =>
   rw[k1] at hx
   simp only[cond_false] at hx
   cases k2:r.kind==2 with
   |true =>
    have k2':r.kind=2:=by simpa using k2
    rw[k2] at hx
    simp only[cond_true] at hx
    cases ha:((aU e.counts r.fr).getD r.fQ.toNat 0==0) with
    |true=>rw[ha] at hx; cases hx
    |false =>
     rw[ha] at hx
     simp only[cond_false,Option.some.injEq] at hx
     subst hx
     have l2:(aU (aU e.counts r.fr) r.fQ).length=e.counts.length:=by rw[kH,l1]
     rw[if_neg (by omega),a1 (by rw[GR,l2]) p2,a1 l2 p4,b1 l1 p3,b1 rfl p1,wF,k2]
     simp only[cond_true]; omega
   |false =>
    rw[k2] at hx
    simp only[cond_false] at hx
    cases k3:r.kind==3 with
    |true =>
     have k3':r.kind=3:=by simpa using k3
     obtain⟨q1,q2⟩:=hr.place.rsp k3'
     rw[k3] at hx
     simp only[cond_true,Option.some.injEq] at hx
     subst hx
     have hs:=ZT (c:=aU e.counts r.fr) (w:=w) (by rw[l1]; exact q2) (k:=e.counts.length) (by omega)
     rw[l1] at hs
     rw[if_pos k3',a1 (by rw[rG,l1]) p2,l1,hs]; omega
    |false =>
     have k3':r.kind≠3:=by simpa using k3
     rw[k3] at hx
     simp only[cond_false,Option.some.injEq] at hx
     subst hx
     rw[if_neg k3',a1 l1 p2,b1 rfl p1,wF,k2]
     simp only[cond_false]; omega
theorem Jy{n:Nat}: ∀ {c:List Int} {k:Nat},k<=n->k<=c.length->sumW c (List.replicate n 1) k=(c.take k).sum:=by
 intro c k
 induction k with
 |zero=>intro _ _; simp[sumW]
 |succ k ih =>
  intro h1 h2
  have e1:(List.replicate n (1:Int)).getD k 0=1:=by
   rw[List.getD_eq_getElem?_getD,List.getElem?_replicate,if_pos (by omega)]; rfl
  rw[yL,ih (by omega) (by omega),Jz (by omega),e1,Int.mul_one]
theorem E8{n:Nat}{x:Int}(h:0<=x/\x<n):wt (List.replicate n 1) x=1:=by
 unfold wt
 rw[List.getD_eq_getElem?_getD,List.getElem?_replicate,if_pos (by omega)]; rfl
theorem XW{r:Rule}{c:List Int}{n:Nat}(hr:rE n r.response): ∀ {k:Nat},k<=r.response.length->k<=n->XU r c (List.replicate n 1) k=sumW c (List.replicate n 1) k:=by
 intro k
 induction k with
 |zero=>intro _ _; rfl
 |succ k ih =>
  intro h1 h2
  have e1:(List.replicate n (1:Int)).getD k 0=1:=by
   rw[List.getD_eq_getElem?_getD,List.getElem?_replicate,if_pos (by omega)]; rfl
  rw[MO,yL,ih (by omega) (by omega),E8 (yJ hr (by omega)),e1]
theorem UD{r:Rule}{e x:Elem}(hr:Uy e.counts.length r)(hx:eP r e=some x):x.counts.sum=e.counts.sum:=by
 have h:=ZU (List.replicate e.counts.length 1) hr hx
 have hl:=yM hx
 rw[Jy (Nat.le_refl _) (by omega),Jy (Nat.le_refl _) (Nat.le_refl _),List.take_of_length_le (by omega),List.take_of_length_le (Nat.le_refl _)] at h
 rw[h]
 have p1:=E8 hr.place.src; have p2:=E8 hr.place.dst; have p3:=E8 hr.place.Uz; have p4:=E8 hr.place.UA
 split
 ·rename_i k3
  obtain⟨q1,q2⟩:=hr.place.rsp k3
  have hd:=Jw (w:=List.replicate e.counts.length 1) hr.place.src
  rw[XW q2 (by omega) (Nat.le_refl _),p2,hd,p1,Jy (Nat.le_refl _) (Nat.le_refl _),List.take_of_length_le (Nat.le_refl _)]; omega
 ·unfold wF
  rw[p1,p2,p3,p4]
  cases r.kind==2<;>simp
theorem E9{e:Elem}(hl:e.counts.length<=6)(h:e.counts.all IK=true):xM e=e.counts.sum:=by
 rw[xM,if_neg (by omega),if_pos h]
end Go.Proofs.YtajmbgljnaljiaaGreatDoor
