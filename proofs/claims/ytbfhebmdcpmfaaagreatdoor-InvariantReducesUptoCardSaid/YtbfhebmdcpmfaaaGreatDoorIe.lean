/-
 A part of the proof. No condition.
-/
import Derived.Test.YtbfhebmdcpmfaaaGreatDoorIb
import Derived.Test.YtbfhebmdcpmfaaaGreatDoorId
namespace Go.Proofs.YtbfhebmdcpmfaaaGreatDoor
open Go.Ab Go.Proofs
set_option maxRecDepth 100000
theorem TN{m:Int}{e:Elem}(hm:0<=m)(he: ∀ x∈e.counts,0<=x):KG m e.counts (uj m e).counts:=by
 refine⟨by simp[uj,oC],fun i=>?_⟩
 have:=yV he i
 show 0<=_/\0<=(oC m e.counts).getD i 0/\_=min ((oC m e.counts).getD i 0) m
 rw[QW hm]; omega
theorem E8{n vals:Nat}{k:Clause}{a b:Elem}{m:Int}(hk:yG n vals k)(hn:a.counts.length=n)(hr:kK k<=m)(hv:a.value=b.value)(h:KG m a.counts b.counts):holdsB k a=holdsB k b:=by
 unfold holdsB
 rw[hv]
 congr 1
 exact Gw h hr fun s hs x hx=>by rw[hn]; exact(hk.each s hs).1.1 x hx
theorem Nq{n vals:Nat}{l:List Clause}{a b:Elem}{m:Int}(hk: ∀ k∈l,yG n vals k)(hn:a.counts.length=n)(hr:bF l<=m)(hv:a.value=b.value)(h:KG m a.counts b.counts):cO l a=cO l b :=
 xH fun k hkl=>E8 (hk k hkl) hn (Int.le_trans (zQ hkl) hr) hv h
def bK:List Clause->List Bool->List Clause
 |k::l,d::ds=>bif d then bK l ds else k::bK l ds
 |_,_=>[]
section
variable {rs:List Rule} {es:List Elem} {l a:List Clause} {f:Clause->Bool}
end
theorem kept_len: ∀ {l:List Clause} {d:List Bool},(bK l d).length<=l.length:=by
 intro l
 induction l with
 |nil=>intro d; exact Nat.le_refl _
 |cons k l ih =>
  intro d
  cases d with
  |nil=>exact Nat.zero_le _
  |cons b d=>have:=@ih d; cases b<;>simp only[bK,cond_true,cond_false,List.length_cons]<;>omega
theorem vY{k:Clause}: ∀ {l:List Clause} {d:List Bool},k∈bK l d->k∈l:=by
 intro l
 induction l with
 |nil=>intro d h; exact h
 |cons x l ih =>
  intro d h
  cases d with
  |nil=>cases h
  |cons b d =>
   cases b with
   |true=>exact List.mem_cons_of_mem _ (ih h)
   |false =>
    rcases List.mem_cons.1 h with rfl|h
    ·simp
    ·exact List.mem_cons_of_mem _ (ih h)
theorem Wx: ∀ {l:List Clause} {d:List Bool} {k:Clause} {b:Bool},l.length=d.length->bK (l++[k]) (d++[b])=bK l d++bif b then [] else [k]:=by
 intro l
 induction l with
 |nil=>intro d k b h; cases d with
  |nil=>cases b<;>rfl
  |cons x d=>cases h
 |cons x l ih =>
  intro d k b h
  cases d with
  |nil=>cases h
  |cons y d =>
   have:=@ih d k b (by simpa using h)
   cases y<;>simp only[List.cons_append,bK,cond_true,cond_false,this]
theorem TP{l:List Clause}{d:List Bool}{i:Nat}(h1:i<l.length)(h2:i<d.length):bK (l.take (i+1)) (d.take (i+1))=bK (l.take i) (d.take i)++bif d.getD i false then [] else [l.getD i default]:=by
 have e1:l.take (i+1)=l.take i++[l.getD i default]:=by rw[List.take_add_one]; simp[h1]
 have e2:d.take (i+1)=d.take i++[d.getD i false]:=by rw[List.take_add_one]; simp[h2]
 rw[e1,e2,Wx (by rw[List.length_take,List.length_take]; omega)]
theorem S.Ep(l:List Int)(f:Bool)(hl:l.length<2^30):ak Tryz.prog 62 [.row 0 f (.ints l)] (.row 0 false (.ints l)):=by
 refine ak.of Bd.gV (by simp) rfl rfl ?_
 conv=>whnf
 refine SI.mk (fun hz=>?_) ?_
 ·have h0:l=[]:=List.eq_nil_of_length_eq_zero hz
  subst h0
  conv=>whnf
  refine Fork.mk (fun _=>?_) (fun q=>absurd (q.symm.trans ((rfl:true=true))) Bool.false_ne_true)
  conv=>whnf
  exact⟨by show T.sub _ _ (.sl 0 false []) (.sl 0 true []); simp[T.sub,T.dD]⟩
 ·conv=>whnf
  refine Fork.mk (fun q=>absurd (q.symm.trans ((rfl:false=false))).symm Bool.false_ne_true) (fun _=>?_)
  conv=>whnf
  refine .mk (by simp only[mD,lH,Rw.len]; omega) ?_
  conv=>whnf
  cases l with
  |nil =>
   exact au.aaA rfl
  |cons x l =>
   repeat(refine VC.mk (by simp only[mD,lH,Rw.len]; omega) ?_; conv=>whnf)
   exact au.aaA rfl
theorem S.iF(k:Clause)(hk:o9 k):ak Tryz.prog 39 [.dat (.clause k)] (.dat (.clause k)):=by
 have h1:=hk.each
 refine ak.of Bd.iF (by simp) rfl rfl ?_
 conv=>whnf
 refine aJ.nil 3 24 0 (by rfl) rfl rfl rfl ?_
 refine aJ.yZ 50 [1,2,7,8] (fun i:Nat=>[(9,.int i),(3,.own 2)]) (fun i=>[(0,.box 36 4 (.dat (.clause k))),(1,.box 36 4 (.agg [.row 0 true .nil,.row 0 true .nil,.row 0 true .nil])),(2,oJ (k.each.take i))]) (fun i=>i<=k.each.length) (fun i=>k.each.length-i) 0 [0,1,7] rfl (by decide) (fun _=>rfl) (Nat.zero_le _) ?_ ?_ ?_
 ·exact⟨⟨_,rfl,.eq rfl⟩,⟨_,rfl,.eq rfl⟩,trivial⟩
 ·exact⟨okF rfl nofun rfl rfl rfl ⟨rfl,rfl⟩ rfl,okF rfl nofun rfl rfl rfl ⟨rfl,rfl⟩ rfl,okF rfl nofun rfl rfl rfl ⟨rfl,rfl⟩ rfl,trivial⟩
 conv=>whnf
 refine⟨⟨⟨_,rfl,.eq rfl⟩,⟨_,rfl,.eq rfl⟩,⟨_,rfl,.eq rfl⟩,⟨_,rfl,.eq rfl⟩,trivial⟩,rfl,?_⟩
 rintro i hi
 conv=>whnf
 refine⟨fun h3=>?_,fun h3=>?_⟩
 ·have hi':i<k.each.length:=by simpa using h3
  conv=>whnf
  refine .mk (by simp only[Rw.rng] at *; omega) ?_
  conv=>whnf
  refine ah.pure (S.Ep (k.each.getD i []) false (hk.rows i)) rfl ?_
  conv=>whnf
  have ht:k.each.take (i+1)=k.each.take i++[k.each.getD i []]:=by rw[List.take_add_one]; simp[hi']
  have hl:(k.each.take i).length=i:=by rw[List.length_take]; omega
  conv=>whnf
  repeat(refine VC.mk (by first|(show((k.each.take i).length+(0+1))*24<=140737488355328/\(k.each.take i).length+(0+1)<=1152921504606846976; omega)|(simp only[okI] at *; omega)) ?_; conv=>whnf)
  refine⟨i+1,[0,1,58],by omega,by omega,⟨⟨_,rfl,.eq rfl⟩,⟨_,rfl,.eq rfl⟩,trivial⟩,⟨⟨_,rfl,.eq rfl⟩,⟨_,rfl,.eq rfl⟩,⟨_,rfl,.eq rfl⟩,⟨_,rfl,.eq rfl⟩,trivial⟩,okF rfl nofun rfl rfl rfl ⟨rfl,rfl⟩ rfl,okF rfl nofun rfl rfl rfl ⟨rfl,rfl⟩ rfl,okF rfl nofun rfl rfl rfl ⟨rfl,rfl⟩ ?_,trivial⟩
  rw[ht]; simp[OV.aF,Rw.aT,V.aT,V.aG]
 ·have hi':i=k.each.length:=by have: ¬ ((i:Int)<(k.each.length:Int)):=of_decide_eq_false h3; omega
  subst hi'
  rw[List.take_length]
  conv=>whnf
  refine ah.pure (S.Ep k.values false hk.values) rfl ?_
  conv=>whnf
  conv=>whnf
  refine ah.pure (S.Ep k.some false hk.some) rfl ?_
  conv=>whnf
  conv=>whnf
  exact⟨show T.sub _ _ (.agg [.sl 0 false (k.each.map Go.Ab.ints),.sl 0 false (k.values.map T.int),.sl 0 false (k.some.map T.int)]) (.agg [.own 2,.sl 0 false (k.values.map T.int),.sl 0 false (k.some.map T.int)]) from⟨VN trivial rfl,aB _,aB _,trivial⟩⟩
theorem SmallK.keep{l:List Clause}(h:SmallK l)(d:List Bool):SmallK (bK l d):=by
 refine⟨Nat.lt_of_le_of_lt kept_len h.len,fun i=>?_⟩
 by_cases hi:i<(bK l d).length
 ·obtain⟨j,hj⟩:=List.mem_iff_getElem?.1 (vY (getM (d:=default) hi))
  have:=h.cl j
  rw[List.getD_eq_getElem?_getD,hj] at this; exact this
 ·rw[show(bK l d).getD i default=default by simp[List.getD_eq_getElem?_getD,List.getElem?_eq_none (by omega:(bK l d).length<=i)]]
  have:=h.cl l.length
  rw[show l.getD l.length default=default by simp[List.getD_eq_getElem?_getD]] at this; exact this
theorem S.mP(l:List Clause)(d:List Bool)(f g:Bool)(hl:SmallK l)(hd:d.length=l.length):ak Tryz.prog 60 [.row 4 f (.clauses l),.row 0 g (.bools d)] (.row 4 false (.clauses (bK l d))):=by
 have h1:=hl.len
 refine ak.of Bd.mP (by simp) rfl rfl ?_
 conv=>whnf
 refine aJ.nil 5 36 4 (by rfl) rfl rfl rfl ?_
 refine aJ.yZ 50 [1,8,9] (fun i:Nat=>[(10,.int i),(5,.own 0)]) (fun i=>[(0,Sv (bK (l.take i) (d.take i)))]) (fun i=>i<=l.length) (fun i=>l.length-i) 0 [5] rfl (by decide) (fun _=>rfl) (Nat.zero_le _) ?_ ?_ ?_
 ·exact⟨⟨_,rfl,.eq rfl⟩,⟨_,rfl,.eq rfl⟩,trivial⟩
 ·exact⟨okF rfl nofun rfl rfl rfl ⟨rfl,rfl⟩ rfl,trivial⟩
 conv=>whnf
 refine⟨⟨⟨_,rfl,.eq rfl⟩,⟨_,rfl,.eq rfl⟩,⟨_,rfl,.eq rfl⟩,trivial⟩,rfl,?_⟩
 rintro i hi
 conv=>whnf
 refine⟨fun h3=>?_,fun h3=>?_⟩
 ·have hi':i<l.length:=by simpa using h3
  have hkn:=TP (d:=d) hi' (by omega)
  have hkl:(bK (l.take i) (d.take i)).length<=i:=Nat.le_trans kept_len (by rw[List.length_take]; omega)
  conv=>whnf
  repeat(refine VC.mk (by simp only[Rw.rng]; omega) ?_; conv=>whnf)
  refine⟨fun h4=>?_,fun h4=>?_⟩
  ·have h4':d.getD i false=false:=by simpa using h4
   rw[h4'] at hkn
   conv=>whnf
   refine ah.pure (S.iF (l.getD i default) (hl.cl i)) rfl ?_
   conv=>whnf
   conv=>whnf
   repeat(refine VC.mk (by first|(show((bK (l.take i) (d.take i)).length+(0+1))*72<=140737488355328/\(bK (l.take i) (d.take i)).length+(0+1)<=1152921504606846976; omega)|(simp only[okI] at *; omega)) ?_; conv=>whnf)
   refine⟨i+1,[66],by omega,by omega,⟨⟨_,rfl,.eq rfl⟩,⟨_,rfl,.eq rfl⟩,trivial⟩,⟨⟨_,rfl,.eq rfl⟩,⟨_,rfl,.eq rfl⟩,⟨_,rfl,.eq rfl⟩,trivial⟩,okF rfl nofun rfl rfl rfl ⟨rfl,rfl⟩ ?_,trivial⟩
   rw[hkn]; simp[OV.aF,Rw.aT,V.aT,V.aG,Dat.aG]
  ·have h4':d.getD i false=true:=by simpa using h4
   rw[h4'] at hkn
   conv=>whnf
   refine .mk (by simp only[okI] at *; omega) ?_
   conv=>whnf
   refine⟨i+1,[0],by omega,by omega,⟨⟨_,rfl,.eq rfl⟩,⟨_,rfl,.eq rfl⟩,trivial⟩,⟨⟨_,rfl,.eq rfl⟩,⟨_,rfl,.eq rfl⟩,⟨_,rfl,.eq rfl⟩,trivial⟩,okF rfl nofun rfl rfl rfl ⟨rfl,rfl⟩ ?_,trivial⟩
   rw[hkn]; simp
 ·have hi':i=l.length:=by have: ¬ ((i:Int)<(l.length:Int)):=of_decide_eq_false h3; omega
  subst hi'
  rw[List.take_length,<- hd,List.take_length]
  conv=>whnf
  exact au.YD rfl
theorem YM{l:List Clause}{e:Elem}{i:Nat}(hi:i<l.length):(fH l e).getD i false=holdsB (l.getD i default) e:=by
 simp[fH,hi]
def Gt(l m:List Clause):Bool:=l.length==m.length&&(List.range l.length).all fun i=>I5 (l.getD i default) (m.getD i default)==0
theorem S.yR(l m:List Clause)(f g:Bool)(hl:SmallK l)(hm:SmallK m):ak Tryz.prog 8 [.row 4 f (.clauses l),.row 4 g (.clauses m)] (.bool (Gt l m)):=by
 have k1:=hl.len; have k2:=hm.len
 refine ak.of Bd.yR (by simp) rfl rfl ?_
 conv=>whnf
 refine⟨fun h1=>?_,fun h1=>?_⟩
 ·have h1':(l.length==m.length)=false:=by
   have h2:((l.length:Int) !=(m.length:Int))=true:=h1
   rw[beq_eq_false_iff_ne]; intro e; rw[e] at h2; simp at h2
  conv=>whnf
  exact au.bool (by rw[Gt,h1']; rfl)
 have h1':l.length=m.length:=by
  have h2:((l.length:Int) !=(m.length:Int))=false:=h1
  have h3:(l.length:Int)=m.length:=by simpa using h2
  omega
 have hsm:Gt l m=(List.range l.length).all fun i=>I5 (l.getD i default) (m.getD i default)==0:=by rw[Gt,<- h1',beq_self_eq_true,Bool.true_and]
 conv=>whnf
 refine aJ.same [0,1] (fun i:Nat=>[(5,.int i)]) (fun i=>i<=l.length/\((List.range i).all fun i=>I5 (l.getD i default) (m.getD i default)==0)=true) (fun i=>l.length-i) 0 rfl (by decide) rfl (fun _=>rfl) ⟨by omega,by simp⟩ ⟨⟨_,rfl,rfl⟩,trivial⟩ ?_
 conv=>whnf
 refine⟨rfl,?_⟩
 rintro i ⟨hi,hall⟩
 conv=>whnf
 refine⟨fun h3=>?_,fun h3=>?_⟩
 ·have hi':i<l.length:=by simpa using h3
  conv=>whnf
  repeat(refine VC.mk (by simp only[Rw.rng] at *; omega) ?_; conv=>whnf)
  refine ah.pure (S.jT (l.getD i default) (m.getD i default) (hl.cl i) (hm.cl i)) rfl ?_
  conv=>whnf
  refine⟨fun h4=>?_,fun h4=>?_⟩
  ·conv=>whnf
   refine au.bool ?_
   rw[hsm,List.all_eq_false]
   exact⟨i,List.mem_range.2 hi',by simpa using h4⟩
  ·conv=>whnf
   refine .mk (by simp only[okI] at *; omega) ?_
   conv=>whnf
   refine⟨i+1,⟨by omega,?_⟩,by omega,⟨⟨_,rfl,rfl⟩,trivial⟩,?_,rfl⟩
   ·rw[List.range_succ,List.all_append,hall]; simpa using h4
   ·repeat' (first|exact trivial|exact⟨_,rfl,rfl⟩|constructor)
 ·have hi':i=l.length:=by have: ¬ ((i:Int)<(l.length:Int)):=of_decide_eq_false h3; omega
  subst hi'
  conv=>whnf
  exact au.bool (by rw[hsm,hall])
theorem Es: ∀ {l:List Int},cmpL l l=0:=by
 intro l
 induction l with
 |nil=>rfl
 |cons x l ih=>simp[cmpL,ih]
theorem PU: ∀ {l:List (List Int)},y9 l l=0:=by
 intro l
 induction l with
 |nil=>rfl
 |cons x l ih=>rw[y9,Es,ih]; rfl
theorem TQ{k:Clause}:I5 k k=0:=by
 rw[I5,PU,Es,Es]; simp[Vg,Wv]
theorem O6{l:List Clause}:Gt l l=true:=by
 simp[Gt,TQ]
end Go.Proofs.YtbfhebmdcpmfaaaGreatDoor
