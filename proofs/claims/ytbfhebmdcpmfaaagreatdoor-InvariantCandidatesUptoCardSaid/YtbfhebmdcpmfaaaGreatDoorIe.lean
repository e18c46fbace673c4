/-
 A part of the proof. No condition.
-/
import Derived.Test.YtbfhebmdcpmfaaaGreatDoorIb
import Derived.Test.YtbfhebmdcpmfaaaGreatDoorId
namespace Go.Proofs.YtbfhebmdcpmfaaaGreatDoor
open Go.Ab Go.Proofs
set_option maxRecDepth 100000
section
variable {rs:List Rule} {es:List Elem} {l a:List Clause} {f:Clause->Bool}
end
theorem S.Dj(l:List Int)(f:Bool)(hl:l.length<2^30):au Tryz.prog 62 [.row 0 f (.ints l)] (.row 0 false (.ints l)):=by
 refine au.of Bd.gK (by simp) rfl rfl ?_
 conv=>whnf
 refine QD.mk (fun hz=>?_) ?_
 ·have h0:l=[]:=List.eq_nil_of_length_eq_zero hz
  subst h0
  conv=>whnf
  refine Fork.mk (fun _=>?_) (fun q=>absurd (q.symm.trans ((rfl:true=true))) Bool.false_ne_true)
  conv=>whnf
  exact⟨by show T.sub _ _ (.sl 0 false []) (.sl 0 true []); simp[T.sub,T.cu]⟩
 ·conv=>whnf
  refine Fork.mk (fun q=>absurd (q.symm.trans ((rfl:false=false))).symm Bool.false_ne_true) (fun _=>?_)
  conv=>whnf
  refine .mk (by simp only[nH,ng,Rw.len]; omega) ?_
  conv=>whnf
  cases l with
  |nil =>
   exact aA.Zc rfl
  |cons x l =>
   repeat(refine VC.mk (by simp only[nH,ng,Rw.len]; omega) ?_; conv=>whnf)
   exact aA.Zc rfl
theorem S.fK(k:Clause)(hk:kE k):au Tryz.prog 39 [.dat (.clause k)] (.dat (.clause k)):=by
 have h1:=hk.each
 refine au.of Bd.fK (by simp) rfl rfl ?_
 conv=>whnf
 refine aJ.nil 3 24 0 (by rfl) rfl rfl rfl ?_
 refine aJ.kS 50 [1,2,7,8] (fun i:Nat=>[(9,.int i),(3,.own 2)]) (fun i=>[(0,.box 36 4 (.dat (.clause k))),(1,.box 36 4 (.agg [.row 0 true .nil,.row 0 true .nil,.row 0 true .nil])),(2,zM (k.each.take i))]) (fun i=>i<=k.each.length) (fun i=>k.each.length-i) 0 [0,1,7] rfl (by decide) (fun _=>rfl) (Nat.zero_le _) ?_ ?_ ?_
 ·exact⟨⟨_,rfl,.eq rfl⟩,⟨_,rfl,.eq rfl⟩,trivial⟩
 ·exact⟨okF rfl nofun rfl rfl rfl ⟨rfl,rfl⟩ rfl,okF rfl nofun rfl rfl rfl ⟨rfl,rfl⟩ rfl,okF rfl nofun rfl rfl rfl ⟨rfl,rfl⟩ rfl,trivial⟩
 conv=>whnf
 refine⟨⟨⟨_,rfl,.eq rfl⟩,⟨_,rfl,.eq rfl⟩,⟨_,rfl,.eq rfl⟩,⟨_,rfl,.eq rfl⟩,trivial⟩,rfl,?_⟩
 rintro i hi
 conv=>whnf
 refine⟨fun h3=>?_,fun h3=>?_⟩
 ·have hi':i<k.each.length:=by simpa using h3
  conv=>whnf
  refine .mk (by simp only[Rw.rng] at *; omega) ?_
  conv=>whnf
  refine ah.pure (S.Dj (k.each.getD i []) false (hk.rows i)) rfl ?_
  conv=>whnf
  have ht:k.each.take (i+1)=k.each.take i++[k.each.getD i []]:=by rw[List.take_add_one]; simp[hi']
  have hl:(k.each.take i).length=i:=by rw[List.length_take]; omega
  conv=>whnf
  repeat(refine VC.mk (by first|(show((k.each.take i).length+(0+1))*24<=140737488355328/\(k.each.take i).length+(0+1)<=1152921504606846976; omega)|(simp only[okI] at *; omega)) ?_; conv=>whnf)
  refine⟨i+1,[0,1,58],by omega,by omega,⟨⟨_,rfl,.eq rfl⟩,⟨_,rfl,.eq rfl⟩,trivial⟩,⟨⟨_,rfl,.eq rfl⟩,⟨_,rfl,.eq rfl⟩,⟨_,rfl,.eq rfl⟩,⟨_,rfl,.eq rfl⟩,trivial⟩,okF rfl nofun rfl rfl rfl ⟨rfl,rfl⟩ rfl,okF rfl nofun rfl rfl rfl ⟨rfl,rfl⟩ rfl,okF rfl nofun rfl rfl rfl ⟨rfl,rfl⟩ ?_,trivial⟩
  rw[ht]; simp[OV.aC,Rw.aT,V.aT,V.aG]
 ·have hi':i=k.each.length:=by have: ¬ ((i:Int)<(k.each.length:Int)):=of_decide_eq_false h3; omega
  subst hi'
  rw[List.take_length]
  conv=>whnf
  refine ah.pure (S.Dj k.values false hk.values) rfl ?_
  conv=>whnf
  conv=>whnf
  refine ah.pure (S.Dj k.some false hk.some) rfl ?_
  conv=>whnf
  conv=>whnf
  exact⟨show T.sub _ _ (.agg [.sl 0 false (k.each.map Go.Ab.ints),.sl 0 false (k.values.map T.int),.sl 0 false (k.some.map T.int)]) (.agg [.own 2,.sl 0 false (k.values.map T.int),.sl 0 false (k.some.map T.int)]) from⟨Uj trivial rfl,ak _,ak _,trivial⟩⟩
theorem aA.aa8{e:Int}{h:Hz}:aA (.fO [.row 4 false (.clauses []),.int e]) (.fO [.row 0 true .nil,.int e]) h:=⟨by
 show T.sub _ _ (.fO [.sl 4 false [],.int e]) (.fO [.sl 0 true [],.int e])
 simp[T.sub,T.cu]⟩
def IK(l m:List Clause):Bool:=l.length==m.length&&(List.range l.length).all fun i=>Hr (l.getD i default) (m.getD i default)==0
theorem S.xU(l m:List Clause)(f g:Bool)(hl:SmallK l)(hm:SmallK m):au Tryz.prog 8 [.row 4 f (.clauses l),.row 4 g (.clauses m)] (.bool (IK l m)):=by
 have k1:=hl.len; have k2:=hm.len
 refine au.of Bd.xU (by simp) rfl rfl ?_
 conv=>whnf
 refine⟨fun h1=>?_,fun h1=>?_⟩
 ·have h1':(l.length==m.length)=false:=by
   have h2:((l.length:Int) !=(m.length:Int))=true:=h1
   rw[beq_eq_false_iff_ne]; intro e; rw[e] at h2; simp at h2
  conv=>whnf
  exact aA.bool (by rw[IK,h1']; rfl)
 have h1':l.length=m.length:=by
  have h2:((l.length:Int) !=(m.length:Int))=false:=h1
  have h3:(l.length:Int)=m.length:=by simpa using h2
  omega
 have hsm:IK l m=(List.range l.length).all fun i=>Hr (l.getD i default) (m.getD i default)==0:=by rw[IK,<- h1',beq_self_eq_true,Bool.true_and]
 conv=>whnf
 refine aJ.same [0,1] (fun i:Nat=>[(5,.int i)]) (fun i=>i<=l.length/\((List.range i).all fun i=>Hr (l.getD i default) (m.getD i default)==0)=true) (fun i=>l.length-i) 0 rfl (by decide) rfl (fun _=>rfl) ⟨by omega,by simp⟩ ⟨⟨_,rfl,rfl⟩,trivial⟩ ?_
 conv=>whnf
 refine⟨rfl,?_⟩
 rintro i ⟨hi,hall⟩
 conv=>whnf
 refine⟨fun h3=>?_,fun h3=>?_⟩
 ·have hi':i<l.length:=by simpa using h3
  conv=>whnf
  repeat(refine VC.mk (by simp only[Rw.rng] at *; omega) ?_; conv=>whnf)
  refine ah.pure (S.jP (l.getD i default) (m.getD i default) (hl.cl i) (hm.cl i)) rfl ?_
  conv=>whnf
  refine⟨fun h4=>?_,fun h4=>?_⟩
  ·conv=>whnf
   refine aA.bool ?_
   rw[hsm,List.all_eq_false]
   exact⟨i,List.mem_range.2 hi',by simpa using h4⟩
  ·conv=>whnf
   refine .mk (by simp only[okI] at *; omega) ?_
   conv=>whnf
   refine⟨i+1,⟨by omega,?_⟩,by omega,⟨⟨_,rfl,rfl⟩,trivial⟩,?_,rfl⟩
   ·rw[List.range_succ,List.all_append,hall]; simpa using h4
   ·repeat' (first|exact trivial|exact⟨_,rfl,rfl⟩|constructor)
 ·have hi':i=l.length:=by have: ¬ ((i:Int)<(l.length:Int)):=of_decide_eq_false h3; omega
  subst hi'
  conv=>whnf
  exact aA.bool (by rw[hsm,hall])
theorem Dk: ∀ {l:List Int},cmpL l l=0:=by
 intro l
 induction l with
 |nil=>rfl
 |cons x l ih=>simp[cmpL,ih]
theorem Oe: ∀ {l:List (List Int)},yc l l=0:=by
 intro l
 induction l with
 |nil=>rfl
 |cons x l ih=>rw[yc,Dk,ih]; rfl
theorem Ri{k:Clause}:Hr k k=0:=by
 rw[Hr,Oe,Dk,Dk]; simp[TB,UK]
theorem ND{l:List Clause}:IK l l=true:=by
 simp[IK,Ri]
end Go.Proofs.YtbfhebmdcpmfaaaGreatDoor
