/-
 A part of the proof. No condition.
-/
import Derived.Test.YtbigdcimbhgjbaaGreatDoorSb
import Derived.Test.YtbigdcimbhgjbaaGreatDoorLg
import Derived.Test.YtbigdcimbhgjbaaGreatDoorLe
namespace Go.Proofs.YtbigdcimbhgjbaaGreatDoor
open Go.Ab Go.Proofs
set_option maxRecDepth 100000
def VL(a b:Int):Int:=if a<b then -1 else if b<a then 1 else 0
def cmpL:List Int->List Int->Int
 |[],[]=>0
 |[],_::_=> -1
 |_::_,[]=>1
 |x::a,y::b=>if x<y then -1 else if y<x then 1 else cmpL a b
def Y9(a b:Elem):Int:=if a.value<b.value then -1 else if b.value<a.value then 1 else cmpL a.counts b.counts
theorem aZ{α:Type}{l:List α}{i:Nat}(d:α)(h:i<l.length):l.drop i=l.getD i d::l.drop (i+1):=by
 rw[List.drop_eq_getElem_cons h]; simp[h]
theorem Ul{a b:List Int}{i:Nat}(ha:i<a.length)(hb:i<b.length) :
  cmpL (a.drop i) (b.drop i)=if a.getD i 0<b.getD i 0 then -1 else if b.getD i 0<a.getD i 0 then 1 else cmpL (a.drop (i+1)) (b.drop (i+1)):=by
 rw[aZ 0 ha,aZ 0 hb]; rfl
theorem WV{a b:List Int}{i:Nat}(hi:a.length<=i\/b.length<=i)(h1:i<=a.length)(h2:i<=b.length) :
  cmpL (a.drop i) (b.drop i)=if a.length<b.length then -1 else if b.length<a.length then 1 else 0:=by
 by_cases ha:a.length<=i
 ·have e:a.drop i=[]:=List.drop_eq_nil_of_le ha
  rw[e]
  by_cases hb:b.length<=i
  ·rw[List.drop_eq_nil_of_le hb,if_neg (by omega),if_neg (by omega)]; rfl
  ·rw[aZ 0 (by omega),if_pos (by omega)]; rfl
 ·have hb:b.length<=i:=by omega
  rw[List.drop_eq_nil_of_le hb,aZ 0 (by omega),if_neg (by omega),if_pos (by omega)]; rfl
theorem pO{α:Type}{l:List α}{p:α->Bool}{d:α}{i:Nat}(hi:i<l.length)(h:(l.take i).any p=false):(l.take (i+1)).any p=p (l.getD i d):=by
 rw[List.take_add_one,List.any_append,h,Bool.false_or]
 simp[hi]
theorem mQ{α:Type}{l:List α}{p:α->Bool}{d:α}{i:Nat}(hi:i<l.length)(h:p (l.getD i d)=true):l.any p=true:=by
 rw[List.any_eq_true]
 exact⟨l[i],List.getElem_mem hi,by simpa [hi] using h⟩
theorem S.oV(a b:List Int)(ha:a.length<2^40)(hb:b.length<2^40):ak Tryz.prog 22 [.row 0 false (.ints a),.row 0 false (.ints b)] (.int (cmpL a b)):=by
 refine ak.of Bd.oV (by simp) rfl rfl ?_
 refine aQ.same [0,1] (fun i:Nat=>[(5,.int i)]) (fun i=>i<=a.length/\i<=b.length/\cmpL a b=cmpL (a.drop i) (b.drop i)) (fun i=>a.length-i) 0 rfl (by decide) rfl (fun _=>rfl) ⟨by omega,by omega,rfl⟩ ⟨⟨_,rfl,rfl⟩,trivial⟩ ?_
 refine⟨rfl,?_⟩
 rintro i ⟨hi,hj,he⟩
 repeat(refine VC.mk (by first|exact id|exact fun h=>⟨h,h⟩) ?_)
 refine⟨fun h3=>?_,fun h3=>?_⟩
 ·have hi':i<a.length/\i<b.length:=by
   by_cases h:i<a.length
   ·simp[h] at h3; exact⟨h,by omega⟩
   ·simp[h] at h3
  rw[Ul hi'.1 hi'.2] at he
  obtain⟨hi1,hi2⟩:=hi'
  repeat(refine VC.mk (by simp only[Rw.rng] at *; omega) ?_)
  refine⟨fun h5=>?_,fun h5=>?_⟩
  ·conv=>whnf
   refine au.int ?_
   simp only[Int.toNat_natCast,decide_eq_true_eq] at h5
   rw[he,if_pos h5]
  ·conv=>whnf
   repeat(refine VC.mk (by simp only[Rw.rng] at *; omega) ?_)
   simp only[Int.toNat_natCast,decide_eq_false_iff_not] at h5
   refine⟨fun h6=>?_,fun h6=>?_⟩
   ·conv=>whnf
    refine au.int ?_
    simp only[Int.toNat_natCast,decide_eq_true_eq] at h6
    rw[he,if_neg h5,if_pos h6]
   ·conv=>whnf
    refine .mk (by simp only[okI] at *; omega) ?_
    conv=>whnf
    simp only[Int.toNat_natCast,decide_eq_false_iff_not] at h6
    refine⟨i+1,⟨by omega,by omega,by rw[he,if_neg h5,if_neg h6]⟩,by omega,⟨⟨_,rfl,rfl⟩,trivial⟩,?_,rfl⟩
    repeat' (first|exact trivial|exact⟨_,rfl,rfl⟩|constructor)
 ·have hi':a.length<=i\/b.length<=i:=by
   by_cases h:i<a.length
   ·simp[h] at h3; exact .inr (by omega)
   ·exact .inl (by omega)
  have hx:=WV hi' hi hj
  rw[<- he] at hx
  refine⟨fun h4=>?_,fun h4=>?_⟩
  ·conv=>whnf
   refine au.int ?_
   rw[hx,if_pos (by simpa using h4)]
  ·conv=>whnf
   have h5: ¬ a.length<b.length:=by simpa using h4
   refine⟨fun h6=>?_,fun h6=>?_⟩
   ·conv=>whnf
    refine au.int ?_
    rw[hx,if_neg h5,if_pos (by simpa using h6)]
   ·conv=>whnf
    refine au.int ?_
    rw[hx,if_neg h5,if_neg (by simpa using h6)]
theorem S.rV(a b:Elem)(ha:a.counts.length<2^40)(hb:b.counts.length<2^40):ak Tryz.prog 26 [.dat (.elem a),.dat (.elem b)] (.int (Y9 a b)):=by
 refine ak.of Bd.rV (by simp) rfl rfl ?_
 refine⟨fun h1=>?_,fun h1=>?_⟩
 ·conv=>whnf
  exact au.int (by simp only[decide_eq_true_eq] at h1; simp[Y9,h1])
 ·conv=>whnf
  simp only[decide_eq_false_iff_not] at h1
  refine⟨fun h2=>?_,fun h2=>?_⟩
  ·conv=>whnf
   exact au.int (by simp only[decide_eq_true_eq] at h2; simp[Y9,h1,h2])
  ·simp only[decide_eq_false_iff_not] at h2
   refine ah.pure (S.oV a.counts b.counts ha hb) rfl ?_
   exact au.int (by simp[Y9,h1,h2])
def RU(n:Int):Bool:=decide (0<=n)&&decide (n<=1048576)
theorem S.ou(l:List Int)(f:Bool)(hl:l.length<2^40):ak Tryz.prog 91 [.row 0 f (.ints l)] (.bool (l.all RU)):=by
 refine ak.of Bd.ou (by simp) rfl rfl ?_
 refine aQ.same [5,6] (fun i:Nat=>[(7,.int i)]) (fun i=>i<=l.length/\(l.take i).all RU=true) (fun i=>l.length-i) 0 rfl (by decide) rfl (fun _=>rfl) ⟨by omega,by simp⟩ ⟨⟨_,rfl,rfl⟩,trivial⟩ ?_
 refine⟨rfl,?_⟩
 rintro i ⟨hi,hall⟩
 refine⟨fun h3=>?_,fun h3=>?_⟩
 ·have hi':i<l.length:=by simpa using h3
  repeat(refine VC.mk (by first|exact id|(intro h; rw[h]; rfl)|(simp only[Rw.rng] at *; omega)) ?_)
  refine⟨fun h4=>?_,fun h4=>?_⟩
  ·conv=>whnf
   refine au.bool ?_
   simp only[Int.toNat_natCast] at h4
   have h5:RU (l.getD i 0)=false:=by
    have key: ∀ x:Int,(decide (x<0)||decide (1048576<x))=true->RU x=false:=by
     intro x h4
     unfold RU
     by_cases h0:x<0
     ·simp; omega
     ·simp[h0] at h4; simp; omega
    exact key _ h4
   rw[Bool.eq_false_iff]
   intro h
   rw[List.all_eq_true] at h
   have:=h l[i] (List.getElem_mem hi')
   rw[show l.getD i 0=l[i] by simp[hi']] at h5
   rw[this] at h5; cases h5
  ·conv=>whnf
   refine .mk (by simp only[okI] at *; omega) ?_
   conv=>whnf
   simp only[Int.toNat_natCast] at h4
   refine⟨i+1,⟨by omega,?_⟩,by omega,⟨⟨_,rfl,rfl⟩,trivial⟩,?_,rfl⟩
   ·have h5:RU (l.getD i 0)=true:=by
     have key: ∀ x:Int,(decide (x<0)||decide (1048576<x))=false->RU x=true:=by
      intro x h4
      unfold RU
      by_cases h0:x<0
      ·simp[h0] at h4
      ·simp[h0] at h4; simp; omega
     exact key _ h4
    rw[List.take_add_one,List.all_append,hall]
    simpa [hi'] using h5
   ·repeat' (first|exact trivial|exact⟨_,rfl,rfl⟩|constructor)
 ·conv=>whnf
  refine au.bool ?_
  have hi':l.length<=i:=by simpa using h3
  rw[List.take_of_length_le hi'] at hall; exact hall
def qY(e:Elem):Int:=if 6<e.counts.length then 0 else if e.counts.all RU=true then e.counts.sum else 0
theorem JQ: ∀ {l:List Int},l.all RU=true->0<=l.sum/\l.sum<=l.length*1048576:=by
 intro l
 induction l with
 |nil=>intro _; simp
 |cons x l ih =>
  intro h
  simp only[List.all_cons,Bool.and_eq_true,RU,decide_eq_true_eq] at h
  have:=ih h.2
  simp only[List.sum_cons,List.length_cons]
  omega
theorem NP{l:List Int}(h:l.all RU=true)(i:Nat):(l.take i).all RU=true:=by
 rw[List.all_eq_true] at h ⊢
 exact fun x hx=>h x (List.mem_of_mem_take hx)
theorem WW{l:List Int}{i:Nat}(hi:i<l.length):(l.take (i+1)).sum=(l.take i).sum+l.getD i 0:=by
 rw[List.take_add_one,List.sum_append]; simp[hi]
theorem S.jl(e:Elem)(hl:e.counts.length<2^40):ak Tryz.prog 61 [.dat (.elem e)] (.int (qY e)):=by
 refine ak.of Bd.jl (by simp) rfl rfl ?_
 repeat(refine VC.mk id ?_)
 refine ah.iD (fun _=>S.ou e.counts false hl) rfl ?_
 repeat(refine VC.mk (by first|exact id|(intro h; rw[h]; rfl)) ?_)
 refine⟨fun h1=>?_,fun h1=>?_⟩
 ·conv=>whnf
  refine au.int ?_
  unfold qY
  by_cases h:6<e.counts.length
  ·rw[if_pos h]
  ·rw[if_neg h,if_neg]
   have h': ¬ (6:Int)<e.counts.length:=by omega
   simp[h'] at h1
   intro hh
   rw[List.all_eq_true] at hh
   obtain⟨x,hx,hx'⟩:=h1
   exact absurd (hh x hx) (by simp[hx'])
 ·have h2: ¬ 6<e.counts.length/\e.counts.all RU=true:=by
   by_cases h:(6:Int)<e.counts.length
   ·simp[h] at h1
   ·simp[h] at h1
    exact⟨by omega,by rw[List.all_eq_true]; exact h1⟩
  refine aQ.same [17,18] (fun i:Nat=>[(19,.int i),(3,.int (e.counts.take i).sum)]) (fun i=>i<=e.counts.length) (fun i=>e.counts.length-i) 0 rfl (by decide) rfl (fun _=>rfl) (by omega) ⟨⟨_,rfl,rfl⟩,⟨_,rfl,rfl⟩,trivial⟩ ?_
  refine⟨rfl,?_⟩
  rintro i hi
  have hb:=JQ (NP h2.2 i)
  have hb':((e.counts.take i).length:Int)<=6:=by simp; omega
  refine⟨fun h3=>?_,fun h3=>?_⟩
  ·have hi':i<e.counts.length:=by simpa using h3
   have hs:=WW hi'
   have hc:=JQ (NP h2.2 (i+1))
   have hc':((e.counts.take (i+1)).length:Int)<=6:=by simp; omega
   repeat(refine VC.mk (by first|(simp only[okI,Int.toNat_natCast] at *; rw[<- hs]; omega)|(simp only[okI,Rw.rng] at *; omega)) ?_)
   refine⟨i+1,by omega,by omega,⟨⟨_,rfl,rfl⟩,⟨_,rfl,?_⟩,trivial⟩,?_,rfl⟩
   ·rw[hs]; simp[V.aI,rF]
   ·repeat' (first|exact trivial|exact⟨_,rfl,rfl⟩|constructor)
  ·conv=>whnf
   refine au.int ?_
   have hi':e.counts.length<=i:=by simpa using h3
   rw[List.take_of_length_le hi']
   simp[qY,h2.1,h2.2]
theorem ah.lend{P:Program}{dr:Bool}{f:FuncId}{args args':List V}{res:V}{h:Hz}{n:Nat}{K:V->Hz->Prop}{KW:Nat->V->Hz->Prop}(S:ak P f args' res)(hs:T.dJ (fun _=>True) h.aj (V.aX args') (V.aX args))(hh:res.aI.hard=true)(hr:res.free=true)(hK:K res h):ah P dr none f args h n K KW :=
 ⟨.inl (wF.lend S hs hh (fun _ e=>by cases e) ⟨res,h,rfl,rfl,fun _=>⟨rfl,V.lI res hr⟩,hK⟩)⟩
theorem Bo(l:List Elem):T.bZ (l.map sZ)=true:=by
 rw[gY]; intro t ht; obtain⟨x,_,rfl⟩:=List.mem_map.1 ht; rfl
theorem dD.of_eq{a b:List T}(h:a=b):dD a b:=by subst h; exact .refl _
theorem ah.Rn{P:Program}{dr b:Bool}{f:FuncId}{args args':List V}{res:V}{h:Hz}{n:Nat}{K:V->Hz->Prop}{KW:Nat->V->Hz->Prop}(S:b=true->ak P f args' res)(hs:b=true->T.dJ (fun _=>True) h.aj (V.aX args') (V.aX args))(hh:res.aI.hard=true)(hr:res.free=true)(hK:K res h):ah P dr (some b) f args h n K KW :=
 ⟨.inl (.inl ⟨res,fun e=>wF.lend (S e) (hs e) hh (fun _ e=>by cases e) ⟨rfl,rfl⟩,hr,hK⟩)⟩
abbrev qZ(l:List Elem):OV:=.row 66 3 (.elems l) []
theorem aao{h:Hz}{j:Nat}{l:List Elem}{Z:Nat->Prop}(hz:Z j)(q:h.get j=some (qZ l)):T.sub Z h.aj (V.row 3 false (.elems l)).aI (V.own j).aI:=by
 show T.sub Z h.aj (.sl 3 false (l.map sZ)) (.own j)
 simp only[T.sub]
 refine⟨trivial,hz,Bo l,by decide,66,?_⟩
 have:=aH q; simpa [OV.aF,Rw.aX,V.aX] using this
theorem au.adH{h:Hz}{j:Nat}{l:List Elem}(q:h.get j=some (qZ l)):au (.row 3 false (.elems l)) (.own j) h:=⟨aao trivial q⟩
end Go.Proofs.YtbigdcimbhgjbaaGreatDoor
