/-
 A part of the proof. No condition.
-/
import Derived.Test.YtifbibbicplneaaGreatDoorBb
import Derived.Test.YtifbibbicplneaaGreatDoorIe
import Derived.Test.YtifbibbicplneaaGreatDoorIg
namespace Go.Proofs.YtifbibbicplneaaGreatDoor
open Go.Ab Go.Proofs
set_option maxRecDepth 100000
theorem SmallK.each{l:List Clause}(h:SmallK l)(i:Nat):(l.getD i default).each.length<2^30:=(h.cl i).each
theorem XA{v u:V}(h:v.free=true)(k:u.free=true):T.dD [v.aI,u.aI]=true:=by
 show(v.aI.free&&(u.aI.free&&true))=true
 rw[V.kX v h,V.kX u k]; rfl
theorem ah.KH{P:Program}{dr:Bool}{g:Option Bool}{f:FuncId}{args args':List V}{h:Hz}{n:Nat}{K:V->Hz->Prop}{KW:Nat->V->Hz->Prop}(e:V.aW args'=V.aW args)(H:ah P dr g f args' h n K KW):ah P dr g f args h n K KW:=by
 have:=H.ok
 rw[e] at this
 exact⟨this⟩
theorem SmallK.nil:SmallK []:=DL
theorem SmallK.filter{l:List Clause}(h:SmallK l)(p:Clause->Bool):SmallK (l.filter p):=by
 have:=h.keep (l.map fun k=> !p k)
 rw[DN] at this
 simpa using this
theorem Q5{p:aX}{q:Prop'}{l a:List Clause}(hl:SmallK l):SmallK (Q7 p q l a):=by
 unfold Q7 Oz JW
 cases wV p q l a==0 with
 |true=>exact hl.filter _
 |false=>exact SmallK.nil
theorem S.eP(p:aX)(q:Prop')(l a:List Clause)(f g:Bool)(hp:dn p)(hq:jF q)(hl:SmallK l)(ha:SmallK a):aj Tryz.prog 11 [.agg (Dat.cells (.bW p)++Dat.cells (.prop q)),.row 4 f (.clauses l),.row 4 g (.clauses a)] (.bool true):=by
 have k1:=hl.len; have k2:=ha.len
 refine aj.of Bd.eP (by simp) (by cases f<;>cases g<;>rfl) rfl ?_
 conv=>whnf
 refine ah.lend (S.F7 30 l a false f g k1 hl.each k2 ha.each) (And.intro (aC _) (And.intro (wE trivial (XA rfl rfl) (by decide) rfl) trivial)) rfl rfl ?_
 conv=>whnf
 refine⟨fun h1=>?_,fun h1=>?_⟩
 ·conv=>whnf
  refine ah.pure (S.jd) rfl ?_
  conv=>whnf
  exact ak.bool rfl
 conv=>whnf
 refine ah.KH (args':=[.dat (.bW p),.dat (.prop q),.row 4 f (.clauses l),.row 4 g (.clauses a)]) rfl (ah.pure (S.fZ p q l a f g hp hq hl ha) rfl ?_)
 rw[OA]
 conv=>whnf
 refine ah.KH (args':=[.dat (.bW p),.dat (.prop q),.row 4 f (.clauses l),.row 4 g (.clauses a)]) rfl (ah.pure (S.nJ p q l a f g hp hq hl ha) rfl ?_)
 rw[OA]
 conv=>whnf
 refine .mk (by exact fun h=>⟨h,h⟩) ?_
 conv=>whnf
 have hsm:=Q5 (p:=p) (q:=q) (a:=a) hl
 refine ah.fG (fun _=>S.zK (Q7 p q l a) (Q7 p q l a) false false hsm hsm) rfl ?_
 conv=>whnf
 refine VC.mk id ?_
 conv=>whnf
 refine ah.fG (fun _=>S.jd) rfl ?_
 conv=>whnf
 refine VC.mk id ?_
 conv=>whnf
 exact ak.bool (by rw[Q8]; simp)
theorem S.gI(p:aX)(q:Prop')(l a:List Clause)(mask:Int)(f g:Bool)(hp:dn p)(hq:jF q)(hl:SmallK l)(ha:SmallK a):aj Tryz.prog 12 [.agg (Dat.cells (.bW p)++Dat.cells (.prop q)),.agg [.row 4 f (.clauses l),.row 4 g (.clauses a)],.raw (.lit (.int .u64 mask))] (.bool true):=by
 have k1:=hl.len; have k2:=ha.len
 refine aj.of Bd.gI (by simp) (by cases f<;>cases g<;>rfl) rfl ?_
 conv=>whnf
 refine ah.lend (S.F7 10 l a false f g k1 hl.each k2 ha.each) (And.intro (aC _) (And.intro (wE trivial (XA rfl rfl) (by decide) rfl) trivial)) rfl rfl ?_
 conv=>whnf
 refine⟨fun h1=>?_,fun h1=>?_⟩
 ·conv=>whnf
  refine ah.pure (S.jd) rfl ?_
  conv=>whnf
  exact ak.bool rfl
 conv=>whnf
 have hS:=S.fZ p q l a f g hp hq hl ha
 by_cases he:wV p q l a=0
 ·rw[MQ he] at hS
  have hP:=S.qE l mask f hl
  have hss:SmallK (Oz p q l a):=hl.filter _
  have hst:=Q9 he
  have hps:=Rf (mask:=mask) hl
  have hlg:=fun h=>OB (m:=sV l mask l.length) he (fun k hk=>OC hk) h
  generalize Oz p q l a=s at *
  generalize sV l mask l.length=m at *
  refine ah.KH (args':=[.dat (.bW p),.dat (.prop q),.row 4 f (.clauses l),.row 4 g (.clauses a)]) rfl (ah.pure hS rfl ?_)
  conv=>whnf
  refine Fork.mk (fun q=>absurd (q.symm.trans ((by decide:((0:Int) !=0)=false))).symm Bool.false_ne_true) (fun _=>?_)
  conv=>whnf
  conv=>whnf
  refine ah.KH (args':=[.dat (.bW p),.dat (.prop q),.row 4 false (.clauses s),.row 4 g (.clauses a)]) rfl (ah.pure (S.oh p q s a false g hp hq hss ha) rfl ?_)
  rw[hst]
  conv=>whnf
  refine Fork.mk (fun q=>absurd (q.symm.trans ((rfl:(!true)=false))).symm Bool.false_ne_true) (fun _=>?_)
  conv=>whnf
  conv=>whnf
  refine ah.pure hP rfl ?_
  conv=>whnf
  refine ah.KH (args':=[.dat (.bW p),.dat (.prop q),.row 4 false (.clauses m),.row 4 g (.clauses a)]) rfl (ah.pure (S.oh p q m a false g hp hq hps ha) rfl ?_)
  cases hb:JX p q m a with
  |false =>
   conv=>whnf
   refine Fork.mk (fun _=>?_) (fun q=>absurd (q.symm.trans ((rfl:(!false)=true))) Bool.false_ne_true)
   conv=>whnf
   conv=>whnf
   refine ah.pure (S.jd) rfl ?_
   conv=>whnf
   exact ak.bool rfl
  |true =>
   have hin:=hlg hb
   have u1:=hss.len; have u2:=hps.len
   conv=>whnf
   refine Fork.mk (fun q=>absurd (q.symm.trans ((rfl:(!true)=false))).symm Bool.false_ne_true) (fun _=>?_)
   conv=>whnf
   conv=>whnf
   refine aF.same [11,13] (fun i:Nat=>[(14,.int i)]) (fun i=>i<=m.length) (fun i=>m.length-i) 0 rfl (by decide) rfl (fun _=>rfl) (Nat.zero_le _) ⟨⟨_,rfl,rfl⟩,trivial⟩ ?_
   conv=>whnf
   refine⟨rfl,?_⟩
   rintro i hi
   conv=>whnf
   refine⟨fun h3=>?_,fun h3=>?_⟩
   ·have hi':i<m.length:=by simpa using h3
    have hmem:=hin _ (getM (d:=default) hi')
    have hfound:((List.range s.length).any fun(k:Nat)=>CO (m.getD i default) (s.getD k default)==0)=true:=by
     obtain⟨k,hk,he2⟩:=List.mem_iff_getElem.1 hmem
     refine List.any_eq_true.2 ⟨k,List.mem_range.2 hk,?_⟩
     rw[show s.getD k default=m.getD i default by rw[<- he2]; simp[hk],KI]; rfl
    conv=>whnf
    refine aF.same [11,13,14] (fun k:Nat=>[(16,.int k),(15,.bool ((List.range k).any fun(k:Nat)=>CO (m.getD i default) (s.getD k default)==0))]) (fun k=>k<=s.length) (fun k=>s.length-k) 0 rfl (by decide) rfl (fun _=>rfl) (Nat.zero_le _) ⟨⟨_,rfl,rfl⟩,⟨_,rfl,rfl⟩,trivial⟩ ?_
    conv=>whnf
    refine⟨rfl,?_⟩
    rintro k hk
    have hnx:((List.range (k+1)).any fun(k:Nat)=>CO (m.getD i default) (s.getD k default)==0)=(((List.range k).any fun(k:Nat)=>CO (m.getD i default) (s.getD k default)==0)||(CO (m.getD i default) (s.getD k default)==0)):=by
     rw[List.range_succ,List.any_append,List.any_cons,List.any_nil,Bool.or_false]
    conv=>whnf
    refine⟨fun h4=>?_,fun h4=>?_⟩
    ·have hk':k<s.length:=by simpa using h4
     conv=>whnf
     repeat(refine VC.mk (by first|exact id|exact fun h=>⟨h,h⟩|(intro h; (repeat' apply And.intro)<;>first|exact h|omega|(simp only[Rw.lM]; omega)|(simp only[Rw.rng]; omega))) ?_; conv=>whnf)
     refine ah.fG (fun _=>S.iT (m.getD i default) (s.getD k default) (hps.cl i) (hss.cl k)) rfl ?_
     conv=>whnf
     repeat(refine VC.mk (by first|exact id|(intro h; rw[h]; rfl)|(simp only[okI] at *; omega)) ?_; conv=>whnf)
     refine⟨k+1,by omega,by omega,⟨⟨_,rfl,rfl⟩,⟨_,rfl,?_⟩,trivial⟩,?_,rfl⟩
     ·rw[hnx]; rfl
     ·repeat' (first|exact trivial|exact⟨_,rfl,rfl⟩|constructor)
    ·have hk':k=s.length:=by have: ¬ ((k:Int)<(s.length:Int)):=of_decide_eq_false h4; omega
     subst hk'
     rw[hfound]
     conv=>whnf
     refine Fork.mk (fun q=>absurd (q.symm.trans ((rfl:(!true)=false))).symm Bool.false_ne_true) (fun _=>?_)
     conv=>whnf
     refine .mk (by simp only[okI] at *; omega) ?_
     conv=>whnf
     conv=>whnf
     refine⟨i+1,by omega,by omega,⟨⟨_,rfl,rfl⟩,trivial⟩,?_,rfl⟩
     repeat' (first|exact trivial|exact⟨_,rfl,rfl⟩|constructor)
   ·conv=>whnf
    refine ah.pure (S.jd) rfl ?_
    conv=>whnf
    exact ak.bool rfl
 ·have hne:(wV p q l a !=0)=true:=by simpa using he
  rw[xu rfl he] at hS
  refine ah.KH (args':=[.dat (.bW p),.dat (.prop q),.row 4 f (.clauses l),.row 4 g (.clauses a)]) rfl (ah.pure hS rfl ?_)
  conv=>whnf
  refine Fork.mk (fun _=>?_) (fun q=>absurd (q.symm.trans (hne)) Bool.false_ne_true)
  conv=>whnf
  conv=>whnf
  refine ah.pure (S.jd) rfl ?_
  conv=>whnf
  exact ak.bool rfl
end Go.Proofs.YtifbibbicplneaaGreatDoor
