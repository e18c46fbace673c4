/-
 A part of the proof. No condition.
-/
import Derived.Test.YtifbibbicplneaaGreatDoorIa
import Derived.Test.YtifbibbicplneaaGreatDoorIb
import Derived.Test.YtifbibbicplneaaGreatDoorId
namespace Go.Proofs.YtifbibbicplneaaGreatDoor
open Go.Ab Go.Proofs
set_option maxRecDepth 100000
def NZ(c:List Int):List Int:=(List.range c.length).flatMap fun x=>List.replicate (c.getD x 0).toNat (x:Int)
def ZW(some states chosen:List Int):Bool:=(List.range states.length).any fun(i:Nat)=>rF some (states.getD i 0)&& !(rF chosen (i:Int))
def Fg(l states:List Int):List (List Int)->List Int->Bool
 |[],chosen=>ZW l states chosen
 |s::r,chosen=>(List.range states.length).all fun(i:Nat)=>rF chosen (i:Int)|| !(rF s (states.getD i 0))||Fg l states r (chosen++[(i:Int)])
def Jb(states chosen:List Int)(x:Nat):Nat:=(List.range states.length).countP fun(i:Nat)=> !(rF chosen (i:Int))&&states.getD i 0==(x:Int)
theorem ZX{l:List Int}{x y:Int}:rF (l++[y]) x=(rF l x||x==y):=by
 unfold rF; rw[List.any_append]; simp
theorem RN{p:Nat->Bool}{i:Nat}: ∀ {m:Nat},(List.range m).countP p=(List.range m).countP (fun j=>p j&&j !=i)+(if i<m/\p i=true then 1 else 0):=by
 intro m
 induction m with
 |zero=>simp
 |succ m ih =>
  rw[List.range_succ,List.countP_append,List.countP_append,ih]
  simp only[List.countP_cons,List.countP_nil,Nat.zero_add]
  by_cases e:m=i
  ·subst e
   cases p m<;>simp
  ·have:(m !=i)=true:=by simp[e]
   rw[this,Bool.and_true]
   by_cases h:i<m
   ·simp only[h,show i<m+1 by omega,true_and]; omega
   ·have: ¬ i<m+1:=by omega
    simp only[h,this,false_and,if_false]; omega
theorem VF{states chosen:List Int}{i:Nat}{x:Nat}(hi:i<states.length)(hc:rF chosen i=false):(Jb states (chosen++[(i:Int)]) x:Int)=Jb states chosen x-(if(x:Int)=states.getD i 0 then 1 else 0):=by
 unfold Jb
 rw[RN (p:=fun(j:Nat)=> !(rF chosen (j:Int))&&states.getD j 0==(x:Int)) (i:=i)]
 have h1:(List.range states.length).countP (fun(j:Nat)=> !(rF (chosen++[(i:Int)]) (j:Int))&&states.getD j 0==(x:Int))=(List.range states.length).countP (fun(j:Nat)=>(!(rF chosen (j:Int))&&states.getD j 0==(x:Int))&&j !=i):=by
  congr 1
  funext j
  rw[ZX]
  by_cases e:j=i
  ·subst e; simp
  ·have e1:((j:Int)==(i:Int))=false:=by rw[beq_eq_false_iff_ne]; omega
   have e2:(j !=i)=true:=by simp[e]
   rw[e1,e2,Bool.or_false,Bool.and_true]
 rw[h1]
 by_cases e:(x:Int)=states.getD i 0
 ·rw[if_pos e,if_pos ⟨hi,by rw[hc,<- e]; simp⟩]; omega
 ·rw[if_neg e,if_neg (by rintro⟨_,h⟩; rw[hc] at h; simp only[Bool.not_false,Bool.true_and,beq_iff_eq] at h; exact e h.symm)]; omega
theorem Ei{states chosen:List Int}{x:Nat}:0<Jb states chosen x↔ ∃ i:Nat,i<states.length/\rF chosen (i:Int)=false/\states.getD i 0=(x:Int):=by
 unfold Jb
 rw[List.countP_pos_iff]
 constructor
 ·rintro⟨i,hi,h⟩
  rw[Bool.and_eq_true,Bool.not_eq_true',beq_iff_eq] at h
  exact⟨i,List.mem_range.1 hi,h.1,h.2⟩
 ·rintro⟨i,hi,h1,h2⟩
  exact⟨i,List.mem_range.2 hi,by rw[h1,h2]; simp⟩
theorem abP{l states:List Int}(hl: ∀ x∈l,0<=x){n:Nat}(hst: ∀ i,i<states.length->0<=states.getD i 0/\states.getD i 0<n): ∀ {each:List (List Int)} {c chosen:List Int},(∀ s∈each,∀ x∈s,0<=x)->c.length=n->(∀ x:Nat,c.getD x 0=(Jb states chosen x:Nat))->Fg l states each chosen=nG each l c:=by
 intro each
 induction each with
 |nil =>
  intro c chosen _ _ hr
  show ZW l states chosen=l.any fun x=>decide (c.getD x.toNat 0>0)
  rw[Bool.eq_iff_iff,ZW,List.any_eq_true,List.any_eq_true]
  constructor
  ·rintro⟨i,hi,h⟩
   rw[Bool.and_eq_true,Bool.not_eq_true'] at h
   have hi':=List.mem_range.1 hi
   refine⟨states.getD i 0,DW.1 h.1,decide_eq_true ?_⟩
   rw[hr]
   have:=(Ei (states:=states) (chosen:=chosen) (x:=(states.getD i 0).toNat)).2 ⟨i,hi',h.2,by have:=hst i hi'; omega⟩
   omega
  ·rintro⟨x,hx,h⟩
   have h1:=of_decide_eq_true h
   rw[hr] at h1
   obtain⟨i,hi,h2,h3⟩:=(Ei (states:=states) (chosen:=chosen) (x:=x.toNat)).1 (by omega)
   refine⟨i,List.mem_range.2 hi,?_⟩
   rw[h2,h3,DW.2 (show((x.toNat:Nat):Int)∈l by rw[show((x.toNat:Nat):Int)=x by have:=hl x hx; omega]; exact hx)]; rfl
 |cons s each ih =>
  intro c chosen hs hn hr
  show((List.range states.length).all fun(i:Nat)=>rF chosen (i:Int)|| !(rF s (states.getD i 0))||Fg l states each (chosen++[(i:Int)]))=s.all fun x=>c.getD x.toNat 0==0||nG each l (dB c x)
  have hstep: ∀ i,i<states.length->rF chosen i=false->Fg l states each (chosen++[(i:Int)])=nG each l (dB c (states.getD i 0)):=by
   intro i hi hc
   refine ih (fun t ht=>hs t (List.mem_cons_of_mem _ ht)) (by simp[dB,hn]) fun x=>?_
   have h1:=oP (c:=c) (a:=states.getD i 0) (b:=(x:Int)) (by rw[hn]; exact hst i hi) (by omega)
   rw[Int.toNat_natCast] at h1
   rw[h1,hr,VF hi hc]
  rw[Bool.eq_iff_iff,List.all_eq_true,List.all_eq_true]
  constructor
  ·intro h x hx
   have hx0:=hs s (by simp) x hx
   by_cases hz:c.getD x.toNat 0=0
   ·rw[hz]; rfl
   ·rw[hr] at hz
    obtain⟨i,hi,h2,h3⟩:=(Ei (states:=states) (chosen:=chosen) (x:=x.toNat)).1 (by omega)
    have h4:=h i (List.mem_range.2 hi)
    have e:states.getD i 0=x:=by omega
    rw[h2,hstep i hi h2,e,DW.2 hx] at h4
    have h5:nG each l (dB c x)=true:=by simpa using h4
    rw[h5,Bool.or_true]
  ·intro h i hi
   have hi':=List.mem_range.1 hi
   cases hc:rF chosen i with
   |true=>rfl
   |false =>
    cases hx:rF s (states.getD i 0) with
    |false=>rfl
    |true =>
     rw[hstep i hi' hc]
     have h4:=h _ (DW.1 hx)
     have h5:=(Ei (states:=states) (chosen:=chosen) (x:=(states.getD i 0).toNat)).2 ⟨i,hi',hc,by have:=hst i hi'; omega⟩
     have h6:(c.getD (states.getD i 0).toNat 0==0)=false:=by rw[beq_eq_false_iff_ne,hr]; omega
     rw[h6] at h4
     exact h4
theorem RP{l:List Int}{x:Int}:(List.range l.length).countP (fun i=>l.getD i 0==x)=l.count x:=by
 induction l with
 |nil=>rfl
 |cons y r ih =>
  rw[List.length_cons,List.range_succ_eq_map,List.countP_cons,List.countP_map,List.count_cons,<- ih]
  congr 1
theorem ZY{c:List Int}: ∀ y∈NZ c,0<=y/\y<c.length:=by
 intro y hy
 unfold NZ at hy
 obtain⟨x,hx,hy⟩:=List.mem_flatMap.1 hy
 have:=List.mem_range.1 hx
 rw[List.eq_of_mem_replicate hy]; omega
theorem VG{c:List Int}(x:Nat):(NZ c).count (x:Int)=if x<c.length then(c.getD x 0).toNat else 0:=by
 unfold NZ
 have: ∀ m:Nat,((List.range m).flatMap fun x=>List.replicate (c.getD x 0).toNat (x:Int)).count (x:Int)=if x<m then(c.getD x 0).toNat else 0:=by
  intro m
  induction m with
  |zero=>simp
  |succ m ih =>
   rw[List.range_succ,List.flatMap_append,List.count_append,ih]
   rw[List.flatMap_cons,List.flatMap_nil,List.append_nil,List.count_replicate]
   by_cases e:x=m
   ·subst e
    rw[if_neg (Nat.lt_irrefl x),beq_self_eq_true,if_pos rfl,if_pos (Nat.lt_succ_self x),Nat.zero_add]
   ·have:((m:Int)==(x:Int))=false:=by rw[beq_eq_false_iff_ne]; omega
    rw[this,if_neg Bool.false_ne_true,Nat.add_zero]
    by_cases h:x<m
    ·rw[if_pos h,if_pos (Nat.lt_succ_of_lt h)]
    ·rw[if_neg h,if_neg (show ¬ x<m+1 by omega)]
 exact this _
theorem ZB{vals:Nat}{k:Clause}{c:List Int}(hk:GX c.length vals k)(hc: ∀ x∈c,0<=x):Fg k.some (NZ c) k.each []=nG k.each k.some c:=by
 have hget: ∀ i,i<(NZ c).length->(NZ c).getD i 0∈NZ c:=fun i hi=>getM hi
 refine abP (n:=c.length) (fun x hx=>(hk.some.1 x hx).1) (fun i hi=>ZY _ (hget i hi)) (fun s hs x hx=>((hk.each s hs).1.1 x hx).1) rfl fun x=>?_
 have h1:Jb (NZ c) [] x=(NZ c).count (x:Int):=by
  rw[<- RP]; rfl
 rw[h1,VG]
 have:=zX hc x
 split
 ·omega
 ·rename_i h
  rw[show c.getD x 0=0 by simp[List.getD_eq_getElem?_getD,List.getElem?_eq_none (by omega:c.length<=x)]]; rfl
def nO:List Clause->List Bool->List Clause
 |k::l,d::ds=>bif d then nO l ds else k::nO l ds
 |_,_=>[]
theorem Oq{f:Clause->Bool}: ∀ {l:List Clause},nO l (l.map f)=l.filter fun k=> !f k:=by
 intro l
 induction l with
 |nil=>rfl
 |cons k l ih =>
  show(bif f k then nO l (l.map f) else k::nO l (l.map f))=_
  rw[ih,List.filter_cons]
  cases f k<;>simp
section
variable {rs:List Rule} {es:List Elem} {l a:List Clause} {f:Clause->Bool}
end
theorem kept_len: ∀ {l:List Clause} {d:List Bool},(nO l d).length<=l.length:=by
 intro l
 induction l with
 |nil=>intro d; exact Nat.le_refl _
 |cons k l ih =>
  intro d
  cases d with
  |nil=>exact Nat.zero_le _
  |cons b d=>have:=@ih d; cases b<;>simp only[nO,cond_true,cond_false,List.length_cons]<;>omega
theorem Yh{k:Clause}: ∀ {l:List Clause} {d:List Bool},k∈nO l d->k∈l:=by
 intro l
 induction l with
 |nil=>intro d h; exact h
 |cons x l ih =>
  intro d h
  cases d with
  |nil=>cases h
  |cons b d =>
   cases b with
   |true=>exact List.mem_cons_of_mem _ (ih h)
   |false =>
    rcases List.mem_cons.1 h with rfl|h
    ·simp
    ·exact List.mem_cons_of_mem _ (ih h)
theorem Yi: ∀ {l:List Clause} {d:List Bool} {k:Clause} {b:Bool},l.length=d.length->nO (l++[k]) (d++[b])=nO l d++bif b then [] else [k]:=by
 intro l
 induction l with
 |nil=>intro d k b h; cases d with
  |nil=>cases b<;>rfl
  |cons x d=>cases h
 |cons x l ih =>
  intro d k b h
  cases d with
  |nil=>cases h
  |cons y d =>
   have:=@ih d k b (by simpa using h)
   cases y<;>simp only[List.cons_append,nO,cond_true,cond_false,this]
theorem VH{l:List Clause}{d:List Bool}{i:Nat}(h1:i<l.length)(h2:i<d.length):nO (l.take (i+1)) (d.take (i+1))=nO (l.take i) (d.take i)++bif d.getD i false then [] else [l.getD i default]:=by
 have e1:l.take (i+1)=l.take i++[l.getD i default]:=by rw[List.take_add_one]; simp[h1]
 have e2:d.take (i+1)=d.take i++[d.getD i false]:=by rw[List.take_add_one]; simp[h2]
 rw[e1,e2,Yi (by rw[List.length_take,List.length_take]; omega)]
theorem S.FM(l:List Int)(f:Bool)(hl:l.length<2^30):aj Tryz.prog 112 [.row 0 f (.ints l)] (.row 0 false (.ints l)):=by
 refine aj.of Bd.iw (by simp) rfl rfl ?_
 conv=>whnf
 refine U4.mk (fun hz=>?_) ?_
 ·have h0:l=[]:=List.eq_nil_of_length_eq_zero hz
  subst h0
  conv=>whnf
  refine Fork.mk (fun _=>?_) (fun q=>absurd (q.symm.trans ((rfl:true=true))) Bool.false_ne_true)
  conv=>whnf
  exact⟨by show T.sub _ _ (.sl 0 false []) (.sl 0 true []); simp[T.sub,T.dH]⟩
 ·conv=>whnf
  refine Fork.mk (fun q=>absurd (q.symm.trans ((rfl:false=false))).symm Bool.false_ne_true) (fun _=>?_)
  conv=>whnf
  refine .mk (by simp only[kJ,jG,Rw.len]; omega) ?_
  conv=>whnf
  cases l with
  |nil =>
   exact ak.ZH rfl
  |cons x l =>
   repeat(refine VC.mk (by simp only[kJ,jG,Rw.len]; omega) ?_; conv=>whnf)
   exact ak.ZH rfl
theorem S.iM(k:Clause)(hk:qH k):aj Tryz.prog 118 [.dat (.clause k)] (.dat (.clause k)):=by
 have h1:=hk.each
 refine aj.of Bd.iM (by simp) rfl rfl ?_
 conv=>whnf
 refine aC.nil 3 24 0 (by rfl) rfl rfl rfl ?_
 refine aC.vH 50 [1,2,7,8] (fun i:Nat=>[(9,.int i),(3,.own 2)]) (fun i=>[(0,.box 59 4 (.dat (.clause k))),(1,.box 59 4 (.agg [.row 0 true .nil,.row 0 true .nil,.row 0 true .nil])),(2,pW (k.each.take i))]) (fun i=>i<=k.each.length) (fun i=>k.each.length-i) 0 [0,1,7] rfl (by decide) (fun _=>rfl) (Nat.zero_le _) ?_ ?_ ?_
 ·exact⟨⟨_,rfl,.eq rfl⟩,⟨_,rfl,.eq rfl⟩,trivial⟩
 ·exact⟨okF rfl nofun rfl rfl rfl ⟨rfl,rfl⟩ rfl,okF rfl nofun rfl rfl rfl ⟨rfl,rfl⟩ rfl,okF rfl nofun rfl rfl rfl ⟨rfl,rfl⟩ rfl,trivial⟩
 conv=>whnf
 refine⟨⟨⟨_,rfl,.eq rfl⟩,⟨_,rfl,.eq rfl⟩,⟨_,rfl,.eq rfl⟩,⟨_,rfl,.eq rfl⟩,trivial⟩,rfl,?_⟩
 rintro i hi
 conv=>whnf
 refine⟨fun h3=>?_,fun h3=>?_⟩
 ·have hi':i<k.each.length:=by simpa using h3
  conv=>whnf
  refine .mk (by simp only[Rw.rng] at *; omega) ?_
  conv=>whnf
  refine ah.pure (S.FM (k.each.getD i []) false (hk.rows i)) rfl ?_
  conv=>whnf
  have ht:k.each.take (i+1)=k.each.take i++[k.each.getD i []]:=by rw[List.take_add_one]; simp[hi']
  have hl:(k.each.take i).length=i:=by rw[List.length_take]; omega
  conv=>whnf
  repeat(refine VC.mk (by first|(show((k.each.take i).length+(0+1))*24<=140737488355328/\(k.each.take i).length+(0+1)<=1152921504606846976; omega)|(simp only[okI] at *; omega)) ?_; conv=>whnf)
  refine⟨i+1,[0,1,58],by omega,by omega,⟨⟨_,rfl,.eq rfl⟩,⟨_,rfl,.eq rfl⟩,trivial⟩,⟨⟨_,rfl,.eq rfl⟩,⟨_,rfl,.eq rfl⟩,⟨_,rfl,.eq rfl⟩,⟨_,rfl,.eq rfl⟩,trivial⟩,okF rfl nofun rfl rfl rfl ⟨rfl,rfl⟩ rfl,okF rfl nofun rfl rfl rfl ⟨rfl,rfl⟩ rfl,okF rfl nofun rfl rfl rfl ⟨rfl,rfl⟩ ?_,trivial⟩
  rw[ht]; simp[OV.aG,Rw.aX,V.aX,V.aH]
 ·have hi':i=k.each.length:=by have: ¬ ((i:Int)<(k.each.length:Int)):=of_decide_eq_false h3; omega
  subst hi'
  rw[List.take_length]
  conv=>whnf
  refine ah.pure (S.FM k.values false hk.values) rfl ?_
  conv=>whnf
  conv=>whnf
  refine ah.pure (S.FM k.some false hk.some) rfl ?_
  conv=>whnf
  conv=>whnf
  exact⟨show T.sub _ _ (.agg [.sl 0 false (k.each.map Go.Ab.ints),.sl 0 false (k.values.map T.int),.sl 0 false (k.some.map T.int)]) (.agg [.own 2,.sl 0 false (k.values.map T.int),.sl 0 false (k.some.map T.int)]) from⟨XJ trivial rfl,aB _,aB _,trivial⟩⟩
theorem SmallK.keep{l:List Clause}(h:SmallK l)(d:List Bool):SmallK (nO l d):=by
 refine⟨Nat.lt_of_le_of_lt kept_len h.len,fun i=>?_⟩
 by_cases hi:i<(nO l d).length
 ·obtain⟨j,hj⟩:=List.mem_iff_getElem?.1 (Yh (getM (d:=default) hi))
  have:=h.cl j
  rw[List.getD_eq_getElem?_getD,hj] at this; exact this
 ·rw[show(nO l d).getD i default=default by simp[List.getD_eq_getElem?_getD,List.getElem?_eq_none (by omega:(nO l d).length<=i)]]
  have:=h.cl l.length
  rw[show l.getD l.length default=default by simp[List.getD_eq_getElem?_getD]] at this; exact this
theorem S.nP(l:List Clause)(d:List Bool)(f g:Bool)(hl:SmallK l)(hd:d.length=l.length):aj Tryz.prog 125 [.row 4 f (.clauses l),.row 0 g (.bools d)] (.row 4 false (.clauses (nO l d))):=by
 have h1:=hl.len
 refine aj.of Bd.nP (by simp) rfl rfl ?_
 conv=>whnf
 refine aC.nil 5 59 4 (by rfl) rfl rfl rfl ?_
 refine aC.vH 50 [1,8,9] (fun i:Nat=>[(10,.int i),(5,.own 0)]) (fun i=>[(0,QK (nO (l.take i) (d.take i)))]) (fun i=>i<=l.length) (fun i=>l.length-i) 0 [5] rfl (by decide) (fun _=>rfl) (Nat.zero_le _) ?_ ?_ ?_
 ·exact⟨⟨_,rfl,.eq rfl⟩,⟨_,rfl,.eq rfl⟩,trivial⟩
 ·exact⟨okF rfl nofun rfl rfl rfl ⟨rfl,rfl⟩ rfl,trivial⟩
 conv=>whnf
 refine⟨⟨⟨_,rfl,.eq rfl⟩,⟨_,rfl,.eq rfl⟩,⟨_,rfl,.eq rfl⟩,trivial⟩,rfl,?_⟩
 rintro i hi
 conv=>whnf
 refine⟨fun h3=>?_,fun h3=>?_⟩
 ·have hi':i<l.length:=by simpa using h3
  have hkn:=VH (d:=d) hi' (by omega)
  have hkl:(nO (l.take i) (d.take i)).length<=i:=Nat.le_trans kept_len (by rw[List.length_take]; omega)
  conv=>whnf
  repeat(refine VC.mk (by simp only[Rw.rng]; omega) ?_; conv=>whnf)
  refine⟨fun h4=>?_,fun h4=>?_⟩
  ·have h4':d.getD i false=false:=by simpa using h4
   rw[h4'] at hkn
   conv=>whnf
   refine ah.pure (S.iM (l.getD i default) (hl.cl i)) rfl ?_
   conv=>whnf
   conv=>whnf
   repeat(refine VC.mk (by first|(show((nO (l.take i) (d.take i)).length+(0+1))*72<=140737488355328/\(nO (l.take i) (d.take i)).length+(0+1)<=1152921504606846976; omega)|(simp only[okI] at *; omega)) ?_; conv=>whnf)
   refine⟨i+1,[66],by omega,by omega,⟨⟨_,rfl,.eq rfl⟩,⟨_,rfl,.eq rfl⟩,trivial⟩,⟨⟨_,rfl,.eq rfl⟩,⟨_,rfl,.eq rfl⟩,⟨_,rfl,.eq rfl⟩,trivial⟩,okF rfl nofun rfl rfl rfl ⟨rfl,rfl⟩ ?_,trivial⟩
   rw[hkn]; simp[OV.aG,Rw.aX,V.aX,V.aH,Dat.aH]
  ·have h4':d.getD i false=true:=by simpa using h4
   rw[h4'] at hkn
   conv=>whnf
   refine .mk (by simp only[okI] at *; omega) ?_
   conv=>whnf
   refine⟨i+1,[0],by omega,by omega,⟨⟨_,rfl,.eq rfl⟩,⟨_,rfl,.eq rfl⟩,trivial⟩,⟨⟨_,rfl,.eq rfl⟩,⟨_,rfl,.eq rfl⟩,⟨_,rfl,.eq rfl⟩,trivial⟩,okF rfl nofun rfl rfl rfl ⟨rfl,rfl⟩ ?_,trivial⟩
   rw[hkn]; simp
 ·have hi':i=l.length:=by have: ¬ ((i:Int)<(l.length:Int)):=of_decide_eq_false h3; omega
  subst hi'
  rw[List.take_length,<- hd,List.take_length]
  conv=>whnf
  exact ak.ZP rfl
def QO(l:List Clause)(es:List Elem):List Clause:=l.filter fun k=>es.all fun e=>holdsB k e
theorem Pg{l:List Clause}{p:Clause->Bool}{i:Nat}(hi:i<l.length):(l.take (i+1)).filter p=(l.take i).filter p++bif p (l.getD i default) then [l.getD i default] else []:=by
 have e1:l.take (i+1)=l.take i++[l.getD i default]:=by rw[List.take_add_one]; simp[hi]
 rw[e1,List.filter_append,List.filter_cons,List.filter_nil]
 cases p (l.getD i default)<;>rfl
theorem S.vS(l:List Clause)(es:List Elem)(f g:Bool)(hl:l.length<2^30)(he:es.length<2^30)(h: ∀ i j,i<l.length->j<es.length->OI (l.getD i default) (es.getD j default))(hv: ∀ i,(l.getD i default).values.length<2^30):aj Tryz.prog 93 [.row 4 f (.clauses l),.row 3 g (.elems es)] (.row 4 false (.clauses (QO l es))):=by
 refine aj.of Bd.vS (by simp) rfl rfl ?_
 conv=>whnf
 refine aC.nil 5 59 4 (by rfl) rfl rfl rfl ?_
 refine aC.vH 50 [0,1] (fun i:Nat=>[(6,.int i),(5,.own 0)]) (fun i=>[(0,QK ((l.take i).filter fun k=>es.all fun e=>holdsB k e))]) (fun i=>i<=l.length) (fun i=>l.length-i) 0 [3] rfl (by decide) (fun _=>rfl) (Nat.zero_le _) ?_ ?_ ?_
 ·exact⟨⟨_,rfl,.eq rfl⟩,⟨_,rfl,.eq rfl⟩,trivial⟩
 ·exact⟨okF rfl nofun rfl rfl rfl ⟨rfl,rfl⟩ rfl,trivial⟩
 conv=>whnf
 refine⟨⟨⟨_,rfl,.eq rfl⟩,⟨_,rfl,.eq rfl⟩,trivial⟩,rfl,?_⟩
 rintro i hi
 conv=>whnf
 refine⟨fun h3=>?_,fun h3=>?_⟩
 ·have hi':i<l.length:=by simpa using h3
  have hkn:=Pg (p:=fun k=>es.all fun e=>holdsB k e) hi'
  have hkl:((l.take i).filter fun k=>es.all fun e=>holdsB k e).length<=i:=Nat.le_trans (List.length_filter_le _ _) (by rw[List.length_take]; omega)
  conv=>whnf
  refine aC.same [0,1,5,6] (fun j:Nat=>[(8,.int j),(7,.bool ((es.take j).all fun e=>holdsB (l.getD i default) e))]) (fun j=>j<=es.length) (fun j=>es.length-j) 0 rfl (by decide) rfl (fun _=>rfl) (Nat.zero_le _) ⟨⟨_,rfl,rfl⟩,⟨_,rfl,rfl⟩,trivial⟩ ?_
  conv=>whnf
  refine⟨rfl,?_⟩
  rintro j hj
  conv=>whnf
  refine VC.mk id ?_
  conv=>whnf
  refine⟨fun h4=>?_,fun h4=>?_⟩
  ·have h4':=h4
   rw[Bool.and_eq_true] at h4'
   obtain⟨g1,g2⟩:=h4'
   have hj':j<es.length:=by simpa using g1
   have hf:=h i j hi' hj'
   have href:IC (l.getD i default) (es.getD j default)=holdsB (l.getD i default) (es.getD j default):=(hf.cl.elim fun _ c=>Hl c fun x hx=>(hf.ok x hx).1)
   conv=>whnf
   repeat(refine VC.mk (by simp only[Rw.rng] at *; omega) ?_; conv=>whnf)
   refine ah.pure (S.pV (l.getD i default) (es.getD j default) hf (hv i)) rfl ?_
   conv=>whnf
   refine .mk (by simp only[okI] at *; omega) ?_
   conv=>whnf
   rw[href]
   conv=>whnf
   refine⟨j+1,by omega,by omega,⟨⟨_,rfl,rfl⟩,⟨_,rfl,?_⟩,trivial⟩,?_,rfl⟩
   ·rw[iV (d:=default) hj' g2]; rfl
   ·repeat' (first|exact trivial|exact⟨_,rfl,rfl⟩|constructor)
  ·have hall:((es.take j).all fun e=>holdsB (l.getD i default) e)=es.all fun e=>holdsB (l.getD i default) e:=by
    rw[Bool.and_eq_false_iff] at h4
    rcases h4 with h4|h4
    ·rw[List.take_of_length_le (by have: ¬ ((j:Int)<(es.length:Int)):=of_decide_eq_false h4; omega)]
    ·rw[h4]
     refine Eq.symm (Bool.eq_false_iff.2 fun hn=>?_)
     rw[List.all_eq_true] at hn
     rw[List.all_eq_false] at h4
     obtain⟨x,hx,hq⟩:=h4
     exact hq (hn x (List.mem_of_mem_take hx))
   rw[hall]
   conv=>whnf
   refine⟨fun h5=>?_,fun h5=>?_⟩
   ·rw[show(es.all fun e=>holdsB (l.getD i default) e)=true from h5] at hkn
    conv=>whnf
    repeat(refine VC.mk (by first|(show(((l.take i).filter fun k=>es.all fun e=>holdsB k e).length+(0+1))*72<=140737488355328/\((l.take i).filter fun k=>es.all fun e=>holdsB k e).length+(0+1)<=1152921504606846976; omega)|(simp only[okI,Rw.rng] at *; omega)) ?_; conv=>whnf)
    refine⟨i+1,[70],by omega,by omega,⟨⟨_,rfl,.eq rfl⟩,⟨_,rfl,.eq rfl⟩,trivial⟩,⟨⟨_,rfl,.eq rfl⟩,⟨_,rfl,.eq rfl⟩,trivial⟩,okF rfl nofun rfl rfl rfl ⟨rfl,rfl⟩ ?_,trivial⟩
    rw[hkn]; simp[OV.aG,Rw.aX,V.aX]; rfl
   ·rw[show(es.all fun e=>holdsB (l.getD i default) e)=false from h5] at hkn
    conv=>whnf
    refine .mk (by simp only[okI] at *; omega) ?_
    conv=>whnf
    refine⟨i+1,[0],by omega,by omega,⟨⟨_,rfl,.eq rfl⟩,⟨_,rfl,.eq rfl⟩,trivial⟩,⟨⟨_,rfl,.eq rfl⟩,⟨_,rfl,.eq rfl⟩,trivial⟩,okF rfl nofun rfl rfl rfl ⟨rfl,rfl⟩ ?_,trivial⟩
    rw[hkn]; simp
 ·have hi':i=l.length:=by have: ¬ ((i:Int)<(l.length:Int)):=of_decide_eq_false h3; omega
  subst hi'
  rw[List.take_length]
  conv=>whnf
  exact ak.ZP rfl
def yc(es:List Elem)(k:Clause):Bool:=es.any fun e=> !holdsB k e
theorem VI{l:List Clause}{es:List Elem}:nO l (l.map (yc es))=QO l es:=by
 rw[Oq,QO]
 refine List.filter_congr fun k _=>?_
 rw[yc,Bool.eq_iff_iff,Bool.not_eq_true',List.any_eq_false,List.all_eq_true]
 exact⟨fun h x hx=>by have:=h x hx; simpa using this,fun h x hx=>by have:=h x hx; simpa using this⟩
theorem VJ{es:List Elem}{j:Nat}(hj:j<es.length)(k:Clause):yc (es.take (j+1)) k=(yc (es.take j) k|| !holdsB k (es.getD j default)):=by
 have e1:es.take (j+1)=es.take j++[es.getD j default]:=by rw[List.take_add_one]; simp[hj]
 unfold yc
 rw[e1,List.any_append]; simp
def MS(l:List Clause)(p q:Clause->Bool)(i:Nat):List Bool:=(l.take i).map p++(l.drop i).map q
theorem Yj{l:List Clause}{p q:Clause->Bool}:MS l p q l.length=l.map p:=by simp[MS]
theorem Yk{l:List Clause}{p q:Clause->Bool}{i:Nat}:(MS l p q i).length=l.length:=by simp[MS]; omega
theorem VK{l:List Clause}{p q:Clause->Bool}{i:Nat}(hi:i<l.length):(MS l p q i).getD i false=q (l.getD i default)/\(MS l p q i).set i (p (l.getD i default))=MS l p q (i+1):=by
 have hl:((l.take i).map p).length=i:=by simp; omega
 have hd:l.drop i=l.getD i default::l.drop (i+1):=bg default hi
 unfold MS
 rw[hd,List.map_cons]
 refine⟨?_,?_⟩
 ·rw[List.getD_eq_getElem?_getD,List.getElem?_append_right (by omega),hl,Nat.sub_self]; rfl
 ·rw[List.set_append,if_neg (by omega),hl,Nat.sub_self,List.set_cons_zero,List.take_add_one,List.map_append]
  simp[hi]
theorem Z4{l:List Clause}{e:Elem}{i:Nat}(hi:i<l.length):(lq l e).getD i false=holdsB (l.getD i default) e:=by
 simp[lq,hi]
set_option maxHeartbeats 1000000 in
theorem S.lK(l:List Clause)(es:List Elem)(f g:Bool)(n:Nat)(hl:SmallK l)(he:es.length<2^30)(h: ∀ e∈es,GZ l e/\e.counts.length=n):aj Tryz.prog 92 [.row 4 f (.clauses l),.row 3 g (.elems es)] (.row 4 false (.clauses (QO l es))):=by
 have h1:=hl.len
 refine aj.of Bd.lK (by simp) rfl rfl ?_
 conv=>whnf
 refine ah.Ee hl rfl ?_
 conv=>whnf
 obtain⟨rb,hrb,hrL⟩:=FI l.length
 rw[hrb]
 conv=>whnf
 refine .mk (by omega) ?_
 conv=>whnf
 refine aC.vH (ι:=Nat×List (Int×List Bool)) 100 [0,5,6,16,17] (fun x=>[(18,.int x.1)]) (fun x=>[(2,Ea l f 3),(3,CW x.2),(7,rowB (l.map (yc (es.take x.1))))]) (fun x=>x.1<=es.length/\lg n l x.2) (fun x=>es.length-x.1) (0,[]) [2,3,7] rfl (by decide) (fun _=>rfl) ⟨Nat.zero_le _,lg.nil⟩ ?_ ?_ ?_
 ·exact⟨⟨_,rfl,.eq rfl⟩,trivial⟩
 ·refine⟨⟨rfl,nofun,rfl,rfl,_,rfl,rfl,rfl,aV.of_eq rfl⟩,okF rfl nofun rfl rfl rfl ⟨rfl,rfl⟩ rfl,okF rfl nofun rfl rfl rfl ⟨rfl,rfl⟩ ?_,trivial⟩
  show(Rw.bools (l.map fun _=>false)).aX++[]=rb.aX++[]
  rw[hrL,List.map_const']
 conv=>whnf
 refine⟨⟨⟨_,rfl,.eq rfl⟩,⟨_,rfl,.eq rfl⟩,⟨_,rfl,.eq rfl⟩,⟨_,rfl,.eq rfl⟩,⟨_,rfl,.eq rfl⟩,trivial⟩,rfl,?_⟩
 rintro⟨j,em⟩ ⟨hj,hem⟩
 conv=>whnf
 refine⟨fun h3=>?_,fun h3=>?_⟩
 ·have hj':j<es.length:=by simpa using h3
  obtain⟨hte,hel⟩:=h _ (getM (d:=default) hj')
  conv=>whnf
  refine .mk (by simp only[Rw.rng] at *; omega) ?_
  conv=>whnf
  refine ah.row hl hte (show lg (es.getD j default).counts.length l em by rw[hel]; exact hem) rfl rfl (by decide) rfl (by decide) (by decide) (fun Ry wM=>?_)
  replace wM:lg (es.getD j default).counts.length l Ry:=wM
  rw[hel] at wM
  have hdn:=VJ hj'
  conv=>whnf
  refine aC.vH 200 [0,5,6,16,17,18,24,25] (fun i:Nat=>[(26,.int i)]) (fun i=>[(2,Ea l f 3),(3,CW Ry),(7,rowB (MS l (yc (es.take (j+1))) (yc (es.take j)) i))]) (fun i=>i<=l.length) (fun i=>l.length-i) 0 [2,3,7] rfl (by decide) (fun _=>rfl) (Nat.zero_le _) ?_ ?_ ?_
  ·exact⟨⟨_,rfl,.eq rfl⟩,trivial⟩
  ·exact⟨⟨rfl,nofun,rfl,rfl,_,rfl,rfl,rfl,aV.of_eq rfl⟩,okF rfl nofun rfl rfl rfl ⟨rfl,rfl⟩ rfl,okF rfl nofun rfl rfl rfl ⟨rfl,rfl⟩ rfl,trivial⟩
  conv=>whnf
  refine⟨⟨⟨_,rfl,.eq rfl⟩,⟨_,rfl,.eq rfl⟩,⟨_,rfl,.eq rfl⟩,⟨_,rfl,.eq rfl⟩,⟨_,rfl,.eq rfl⟩,⟨_,rfl,.eq rfl⟩,⟨_,rfl,.eq rfl⟩,⟨_,rfl,.eq rfl⟩,trivial⟩,rfl,?_⟩
  rintro i hi
  have hml:=Yk (l:=l) (p:=yc (es.take (j+1))) (q:=yc (es.take j)) (i:=i)
  have hrl:=sS (l:=l) (e:=es.getD j default)
  conv=>whnf
  refine⟨fun h4=>?_,fun h4=>?_⟩
  ·have hi':i<l.length:=by
    have:(i:Int)<((lq l (es.getD j default)).length:Int):=of_decide_eq_true h4
    rw[hrl] at this; omega
   obtain⟨m1,m2⟩:=VK (p:=yc (es.take (j+1))) (q:=yc (es.take j)) hi'
   have hrg:=Z4 (e:=es.getD j default) hi'
   have hdk:=hdn (l.getD i default)
   conv=>whnf
   repeat(refine VC.mk (by first|(first|(simp only[Rw.rng,Int.toNat_natCast,hml,hrl]; omega))|exact fun h=>h|(intro h; rw[h]; rfl)|(simp only[okI] at *; omega)) ?_; conv=>whnf)
   refine⟨i+1,[2,3,7],by omega,by omega,⟨⟨_,rfl,.eq rfl⟩,trivial⟩,⟨⟨_,rfl,.eq rfl⟩,⟨_,rfl,.eq rfl⟩,⟨_,rfl,.eq rfl⟩,⟨_,rfl,.eq rfl⟩,⟨_,rfl,.eq rfl⟩,⟨_,rfl,.eq rfl⟩,⟨_,rfl,.eq rfl⟩,⟨_,rfl,.eq rfl⟩,trivial⟩,⟨rfl,nofun,rfl,rfl,_,rfl,rfl,rfl,aV.of_eq rfl⟩,okF rfl nofun rfl rfl rfl ⟨rfl,rfl⟩ rfl,okF rfl nofun rfl rfl rfl ⟨rfl,rfl⟩ ?_,trivial⟩
   rw[<- m2,hdk,<- hrg,<- m1]; rfl
  ·have hi':i=l.length:=by
    have: ¬ ((i:Int)<((lq l (es.getD j default)).length:Int)):=of_decide_eq_false h4
    rw[hrl] at this; omega
   subst hi'
   rw[Yj]
   conv=>whnf
   refine .mk (by simp only[okI] at *; omega) ?_
   conv=>whnf
   exact⟨(j+1,Ry),[2,3,7],⟨by show j+1<=_; omega,wM⟩,by show es.length-(j+1)<es.length-j; omega,⟨⟨_,rfl,.eq rfl⟩,trivial⟩,⟨⟨_,rfl,.eq rfl⟩,⟨_,rfl,.eq rfl⟩,⟨_,rfl,.eq rfl⟩,⟨_,rfl,.eq rfl⟩,⟨_,rfl,.eq rfl⟩,trivial⟩,⟨rfl,nofun,rfl,rfl,_,rfl,rfl,rfl,aV.of_eq rfl⟩,okF rfl nofun rfl rfl rfl ⟨rfl,rfl⟩ rfl,okF rfl nofun rfl rfl rfl ⟨rfl,rfl⟩ rfl,trivial⟩
 ·have hj':j=es.length:=by have: ¬ ((j:Int)<(es.length:Int)):=of_decide_eq_false h3; omega
  subst hj'
  rw[List.take_length]
  conv=>whnf
  have hK:=S.nP l (l.map (yc es)) f false hl (List.length_map _)
  rw[VI] at hK
  refine ah.Ol hK (And.intro (aB _) (And.intro (OM rfl rfl) trivial)) rfl ?_
  conv=>whnf
  exact ak.eqv rfl
def y7(p:aP)(e:Elem):Bool:=xW p e||dK e==0
def xA(p:aP)(l:List Clause)(es:List Elem):Int:=bif wJ p !=0 then wJ p else bif iC p l !=0 then iC p l else bZ (es.any (y7 p)) 1
def QN(p:aP)(l:List Clause)(es:List Elem):List Clause:=bif xA p l es==0 then QO l es else []
def Ot(p:aP)(l:List Clause)(es:List Elem):V:=.fA [.row 4 false (.clauses (QN p l es)),.int (xA p l es)]
theorem ak.VL{e:Int}{h:Hz}:ak (.fA [.row 4 false (.clauses []),.int e]) (.fA [.row 0 true .nil,.int e]) h:=⟨by
 show T.sub _ _ (.fA [.sl 4 false [],.int e]) (.fA [.sl 0 true [],.int e])
 simp[T.sub,T.dH]⟩
theorem yg{p:aP}{l:List Clause}{es:List Elem}{x:Int}(h:xA p l es=x)(hx:x≠0):Ot p l es= .fA [.row 4 false (.clauses []),.int x]:=by
 rw[Ot,QN,h,show(x==0)=false from beq_eq_false_iff_ne.2 hx]; rfl
theorem Uc{p:aP}{l:List Clause}{es:List Elem}(h:xA p l es=0):Ot p l es= .fA [.row 4 false (.clauses (QO l es)),.int 0]:=by
 rw[Ot,QN,h]; rfl
theorem Yl{p:aP}{e:Elem}(h:y7 p e=false)(hF:yT p):e.counts.length=p.states.length/\yO e.counts/\0<=e.value/\e.value<=1048576:=by
 rw[y7,Bool.or_eq_false_iff] at h
 obtain⟨a,b,c,d⟩:=Xz h.1
 have:=hF.values
 exact⟨a,b,c,by omega⟩
theorem S.lD(p:aP)(l:List Clause)(es:List Elem)(f g:Bool)(hp:bH p)(hl:SmallK l)(he:es.length<2^30)(hs: ∀ i,(es.getD i default).counts.length<2^30):aj Tryz.prog 49 [.dat (.bW p),.row 4 f (.clauses l),.row 3 g (.elems es)] (Ot p l es):=by
 refine aj.of Bd.lD (by simp) rfl rfl ?_
 conv=>whnf
 refine ah.pure (S.fE p hp) rfl ?_
 conv=>whnf
 refine⟨fun h1=>?_,fun h1=>?_⟩
 ·have e0:xA p l es=wJ p:=by rw[xA,show(wJ p !=0)=true from h1]; rfl
  rw[yg e0 (by simpa using h1)]
  conv=>whnf
  exact ak.VL
 have e1:xA p l es=bif iC p l !=0 then iC p l else bZ (es.any (y7 p)) 1:=by rw[xA,show(wJ p !=0)=false from h1]; rfl
 conv=>whnf
 refine ah.lend (S.xH p l false f hp hl) ⟨aB _,OW trivial rfl rfl,trivial⟩ rfl rfl ?_
 conv=>whnf
 refine⟨fun h2=>?_,fun h2=>?_⟩
 ·have e0:xA p l es=iC p l:=by rw[e1,show(iC p l !=0)=true from h2]; rfl
  rw[yg e0 (by simpa using h2)]
  conv=>whnf
  exact ak.VL
 have e2:xA p l es=bZ (es.any (y7 p)) 1:=by rw[e1,show(iC p l !=0)=false from h2]; rfl
 have hin:wJ p=0:=uQ h1
 obtain⟨hF,_⟩:=wS hin
 obtain⟨hR,X7⟩:=y5 (uQ h2)
 have g1:=hF.pos; have g2:=hF.states; have g3:=hF.values
 conv=>whnf
 refine aC.same [1,2,3,25,26] (fun i:Nat=>[(27,.int i)]) (fun i=>i<=es.length/\(es.take i).any (y7 p)=false) (fun i=>es.length-i) 0 rfl (by decide) rfl (fun _=>rfl) ⟨Nat.zero_le _,rfl⟩ ⟨⟨_,rfl,rfl⟩,trivial⟩ ?_
 conv=>whnf
 refine⟨rfl,?_⟩
 rintro i ⟨hi,hany⟩
 conv=>whnf
 refine⟨fun h3=>?_,fun h3=>?_⟩
 ·have hi':i<es.length:=by simpa using h3
  have hnext:=fU (d:=default) hi' hany
  conv=>whnf
  refine .mk (by simp only[Rw.rng] at *; omega) ?_
  conv=>whnf
  refine ah.pure (S.fC p (es.getD i default) hp (hs i) hin) rfl ?_
  conv=>whnf
  refine⟨fun h4=>?_,fun h4=>?_⟩
  ·have hb:y7 p (es.getD i default)=true:=by
    cases hb:y7 p (es.getD i default) with
    |true=>rfl
    |false =>
     have h5:(bZ (y7 p (es.getD i default)) 1 !=0)=true:=h4
     rw[hb] at h5; cases h5
   have e0:xA p l es=1:=by rw[e2,dS (d:=default) hi' hb]; rfl
   rw[yg e0 (by decide)]
   conv=>whnf
   have hb':(xW p (es.getD i default)||dK (es.getD i default)==0)=true:=hb
   rw[hb']
   exact ak.VL
  ·have hb:y7 p (es.getD i default)=false:=by
    cases hb:y7 p (es.getD i default) with
    |false=>rfl
    |true =>
     have h5:(bZ (y7 p (es.getD i default)) 1 !=0)=false:=h4
     rw[hb] at h5; cases h5
   conv=>whnf
   refine .mk (by simp only[okI] at *; omega) ?_
   conv=>whnf
   refine⟨i+1,⟨by omega,?_⟩,by omega,⟨⟨_,rfl,rfl⟩,trivial⟩,?_,rfl⟩
   ·rw[hnext]; exact hb
   ·repeat' (first|exact trivial|exact⟨_,rfl,rfl⟩|constructor)
 ·have hi':es.length<=i:=by simpa using h3
  rw[List.take_of_length_le hi'] at hany
  have e0:xA p l es=0:=by rw[e2,hany]; rfl
  rw[Uc e0]
  have hg: ∀ e∈es,GZ l e/\e.counts.length=p.states.length:=fun e hem=>by
   obtain⟨a,b,c,d⟩:=Yl (by have:=List.any_eq_false.1 hany e hem; simpa using this) hF
   exact⟨hR.tab a b g1 g2 ⟨c,d⟩,a⟩
  conv=>whnf
  refine ah.pure (S.lK l es f g p.states.length hl he hg) rfl ?_
  conv=>whnf
  exact ak.eqv rfl
theorem S.vw(p:aP)(l:List Clause)(es:List Elem)(f g:Bool)(hp:bH p)(hl:SmallK l)(he:es.length<2^30)(hs: ∀ i,(es.getD i default).counts.length<2^30):aj Tryz.prog 50 [.dat (.bW p),.row 4 f (.clauses l),.row 3 g (.elems es)] (Ot p l es):=by
 refine aj.of Bd.vw (by simp) rfl rfl ?_
 conv=>whnf
 refine ah.pure (S.rV p hp) rfl ?_
 conv=>whnf
 refine⟨fun h1=>?_,fun h1=>?_⟩
 ·have e0:xA p l es=wJ p:=by rw[xA,show(wJ p !=0)=true from h1]; rfl
  rw[yg e0 (by simpa using h1)]
  conv=>whnf
  exact ak.VL
 have e1:xA p l es=bif iC p l !=0 then iC p l else bZ (es.any (y7 p)) 1:=by rw[xA,show(wJ p !=0)=false from h1]; rfl
 conv=>whnf
 refine ah.pure (S.kM p l f hp hl) rfl ?_
 conv=>whnf
 refine⟨fun h2=>?_,fun h2=>?_⟩
 ·have e0:xA p l es=iC p l:=by rw[e1,show(iC p l !=0)=true from h2]; rfl
  rw[yg e0 (by simpa using h2)]
  conv=>whnf
  exact ak.VL
 have e2:xA p l es=bZ (es.any (y7 p)) 1:=by rw[e1,show(iC p l !=0)=false from h2]; rfl
 have hin:wJ p=0:=uQ h1
 obtain⟨hF,_⟩:=wS hin
 obtain⟨hR,X7⟩:=y5 (uQ h2)
 have g1:=hF.pos; have g2:=hF.states; have g3:=hF.values
 conv=>whnf
 refine aC.same [1,2,3] (fun i:Nat=>[(9,.int i)]) (fun i=>i<=es.length/\(es.take i).any (y7 p)=false) (fun i=>es.length-i) 0 rfl (by decide) rfl (fun _=>rfl) ⟨Nat.zero_le _,rfl⟩ ⟨⟨_,rfl,rfl⟩,trivial⟩ ?_
 conv=>whnf
 refine⟨rfl,?_⟩
 rintro i ⟨hi,hany⟩
 conv=>whnf
 refine⟨fun h3=>?_,fun h3=>?_⟩
 ·have hi':i<es.length:=by simpa using h3
  have hnext:=fU (d:=default) hi' hany
  have hsi:=hs i
  conv=>whnf
  refine .mk (by simp only[Rw.rng] at *; omega) ?_
  conv=>whnf
  refine ah.pure (S.Ad p (es.getD i default) hp hsi) rfl ?_
  conv=>whnf
  repeat(refine VC.mk (by first|exact id|(intro h; (repeat' apply And.intro)<;>first|exact h|omega|(simp only[Rw.kK]; omega)|(simp only[Rw.rng]; omega))) ?_; conv=>whnf)
  refine ah.cO (fun _=>S.mV (es.getD i default) (by omega)) rfl ?_
  conv=>whnf
  repeat(refine VC.mk (by first|exact id|(intro h; rw[h]; rfl)) ?_; conv=>whnf)
  refine⟨fun h4=>?_,fun h4=>?_⟩
  ·have hb:y7 p (es.getD i default)=true:=by rw[y7]; simpa using h4
   have e0:xA p l es=1:=by rw[e2,dS (d:=default) hi' hb]; rfl
   rw[yg e0 (by decide)]
   conv=>whnf
   exact ak.VL
  ·have hb:y7 p (es.getD i default)=false:=by rw[y7]; simpa using h4
   conv=>whnf
   refine .mk (by simp only[okI] at *; omega) ?_
   conv=>whnf
   refine⟨i+1,⟨by omega,?_⟩,by omega,⟨⟨_,rfl,rfl⟩,trivial⟩,?_,rfl⟩
   ·rw[hnext]; exact hb
   ·repeat' (first|exact trivial|exact⟨_,rfl,rfl⟩|constructor)
 ·have hi':es.length<=i:=by simpa using h3
  rw[List.take_of_length_le hi'] at hany
  have e0:xA p l es=0:=by rw[e2,hany]; rfl
  rw[Uc e0]
  have hv: ∀ i,(l.getD i default).values.length<2^30:=fun i=>(hl.cl i).values
  have hg: ∀ i j,i<l.length->j<es.length->OI (l.getD i default) (es.getD j default):=fun i j hi hj=>by
   obtain⟨a,b,c,d⟩:=Yl (e:=es.getD j default) (by have:=List.any_eq_false.1 hany _ (getM (d:=default) hj); simpa using this) hF
   exact(hR.fit a b g2 g3 hi).1
  conv=>whnf
  refine ah.pure (S.vS l es f g hl.len he hg hv) rfl ?_
  conv=>whnf
  exact ak.eqv rfl
def Le(l m:List Clause):Bool:=l.length==m.length&&(List.range l.length).all fun i=>J7 (l.getD i default) (m.getD i default)==0
theorem S.zS(l m:List Clause)(f g:Bool)(hl:SmallK l)(hm:SmallK m):aj Tryz.prog 33 [.row 4 f (.clauses l),.row 4 g (.clauses m)] (.bool (Le l m)):=by
 have k1:=hl.len; have k2:=hm.len
 refine aj.of Bd.zS (by simp) rfl rfl ?_
 conv=>whnf
 refine⟨fun h1=>?_,fun h1=>?_⟩
 ·have h1':(l.length==m.length)=false:=by
   have h2:((l.length:Int) !=(m.length:Int))=true:=h1
   rw[beq_eq_false_iff_ne]; intro e; rw[e] at h2; simp at h2
  conv=>whnf
  exact ak.bool (by rw[Le,h1']; rfl)
 have h1':l.length=m.length:=by
  have h2:((l.length:Int) !=(m.length:Int))=false:=h1
  have h3:(l.length:Int)=m.length:=by simpa using h2
  omega
 have hsm:Le l m=(List.range l.length).all fun i=>J7 (l.getD i default) (m.getD i default)==0:=by rw[Le,<- h1',beq_self_eq_true,Bool.true_and]
 conv=>whnf
 refine aC.same [0,1] (fun i:Nat=>[(5,.int i)]) (fun i=>i<=l.length/\((List.range i).all fun i=>J7 (l.getD i default) (m.getD i default)==0)=true) (fun i=>l.length-i) 0 rfl (by decide) rfl (fun _=>rfl) ⟨by omega,by simp⟩ ⟨⟨_,rfl,rfl⟩,trivial⟩ ?_
 conv=>whnf
 refine⟨rfl,?_⟩
 rintro i ⟨hi,hall⟩
 conv=>whnf
 refine⟨fun h3=>?_,fun h3=>?_⟩
 ·have hi':i<l.length:=by simpa using h3
  conv=>whnf
  repeat(refine VC.mk (by simp only[Rw.rng] at *; omega) ?_; conv=>whnf)
  refine ah.pure (S.kP (l.getD i default) (m.getD i default) (hl.cl i) (hm.cl i)) rfl ?_
  conv=>whnf
  refine⟨fun h4=>?_,fun h4=>?_⟩
  ·conv=>whnf
   refine ak.bool ?_
   rw[hsm,List.all_eq_false]
   exact⟨i,List.mem_range.2 hi',by simpa using h4⟩
  ·conv=>whnf
   refine .mk (by simp only[okI] at *; omega) ?_
   conv=>whnf
   refine⟨i+1,⟨by omega,?_⟩,by omega,⟨⟨_,rfl,rfl⟩,trivial⟩,?_,rfl⟩
   ·rw[List.range_succ,List.all_append,hall]; simpa using h4
   ·repeat' (first|exact trivial|exact⟨_,rfl,rfl⟩|constructor)
 ·have hi':i=l.length:=by have: ¬ ((i:Int)<(l.length:Int)):=of_decide_eq_false h3; omega
  subst hi'
  conv=>whnf
  exact ak.bool (by rw[hsm,hall])
theorem FN: ∀ {l:List Int},cmpL l l=0:=by
 intro l
 induction l with
 |nil=>rfl
 |cons x l ih=>simp[cmpL,ih]
theorem RQ: ∀ {l:List (List Int)},Ac l l=0:=by
 intro l
 induction l with
 |nil=>rfl
 |cons x l ih=>rw[Ac,FN,ih]; rfl
theorem VN{k:Clause}:J7 k k=0:=by
 rw[J7,RQ,FN,FN]; simp[Xb,Yg]
theorem QS{l:List Clause}:Le l l=true:=by
 simp[Le,VN]
theorem S.qI(l:List Int)(s:Int)(f:Bool)(hl:l.length<2^40):aj Tryz.prog 36 [.row 0 f (.ints l),.int s] (.bool (rF l s)):=by
 refine aj.of Bd.qI (by simp) rfl rfl ?_
 conv=>whnf
 refine aC.same [0,1] (fun i:Nat=>[(5,.int i)]) (fun i=>i<=l.length/\(l.take i).any (fun x=>s==x)=false) (fun i=>l.length-i) 0 rfl (by decide) rfl (fun _=>rfl) ⟨by omega,by simp⟩ ⟨⟨_,rfl,rfl⟩,trivial⟩ ?_
 conv=>whnf
 refine⟨rfl,?_⟩
 rintro i ⟨hi,hall⟩
 conv=>whnf
 refine⟨fun h3=>?_,fun h3=>?_⟩
 ·have hi':i<l.length:=by simpa using h3
  conv=>whnf
  refine .mk (by simp only[Rw.rng] at *; omega) ?_
  conv=>whnf
  refine⟨fun h4=>?_,fun h4=>?_⟩
  ·have h4':(s==l.getD i 0)=true:=by rw[show(s==l.getD i 0)=(l.getD i 0==s) from Bool.beq_comm]; exact h4
   conv=>whnf
   exact ak.bool (dS (d:=0) hi' h4')
  ·have h4':(s==l.getD i 0)=false:=by rw[show(s==l.getD i 0)=(l.getD i 0==s) from Bool.beq_comm]; exact h4
   conv=>whnf
   refine .mk (by simp only[okI] at *; omega) ?_
   conv=>whnf
   refine⟨i+1,⟨by omega,?_⟩,by omega,⟨⟨_,rfl,rfl⟩,trivial⟩,?_,rfl⟩
   ·rw[fU (d:=0) hi' hall]; exact h4'
   ·repeat' (first|exact trivial|exact⟨_,rfl,rfl⟩|constructor)
 ·have hi':l.length<=i:=by simpa using h3
  rw[List.take_of_length_le hi'] at hall
  conv=>whnf
  exact ak.bool hall
theorem S.oZ(states some chosen:List Int)(f g k:Bool)(h1:states.length<2^30)(h2:some.length<2^30)(h3:chosen.length<2^30):aj Tryz.prog 81 [.row 0 f (.ints states),.row 0 g (.ints some),.row 0 k (.ints chosen)] (.bool (ZW some states chosen)):=by
 refine aj.of Bd.oZ (by simp) rfl rfl ?_
 conv=>whnf
 refine aC.same [0,1,2] (fun i:Nat=>[(7,.int i)]) (fun i=>i<=states.length/\((List.range i).any fun(i:Nat)=>rF some (states.getD i 0)&& !(rF chosen (i:Int)))=false) (fun i=>states.length-i) 0 rfl (by decide) rfl (fun _=>rfl) ⟨by omega,by simp⟩ ⟨⟨_,rfl,rfl⟩,trivial⟩ ?_
 conv=>whnf
 refine⟨rfl,?_⟩
 rintro i ⟨hi,hall⟩
 conv=>whnf
 refine⟨fun h4=>?_,fun h4=>?_⟩
 ·have hi':i<states.length:=by simpa using h4
  conv=>whnf
  refine .mk (by simp only[Rw.rng] at *; omega) ?_
  conv=>whnf
  refine ah.pure (S.qI some (states.getD i 0) g (by omega)) rfl ?_
  conv=>whnf
  refine .mk (by exact fun h=>⟨h,h⟩) ?_
  conv=>whnf
  refine ah.cO (fun _=>S.qI chosen i k (by omega)) rfl ?_
  conv=>whnf
  repeat(refine VC.mk id ?_; conv=>whnf)
  refine⟨fun h5=>?_,fun h5=>?_⟩
  ·conv=>whnf
   exact ak.bool (List.any_eq_true.2 ⟨i,List.mem_range.2 hi',h5⟩)
  ·conv=>whnf
   refine .mk (by simp only[okI] at *; omega) ?_
   conv=>whnf
   refine⟨i+1,⟨by omega,?_⟩,by omega,⟨⟨_,rfl,rfl⟩,trivial⟩,?_,rfl⟩
   ·rw[List.range_succ,List.any_append,hall,List.any_cons,List.any_nil,Bool.false_or,Bool.or_false]; exact h5
   ·repeat' (first|exact trivial|exact⟨_,rfl,rfl⟩|constructor)
 ·have hi':i=states.length:=by have: ¬ ((i:Int)<(states.length:Int)):=of_decide_eq_false h4; omega
  subst hi'
  conv=>whnf
  exact ak.bool hall
theorem S.jA(each:List (List Int))(some states:List Int)(f g k:Bool)(h0:each.length<2^30)(he: ∀ i,(each.getD i []).length<2^30)(h1:states.length<2^30)(h2:some.length<2^30): ∀ (rest:List (List Int)) (chosen:List Int) (c:Bool),chosen.length<=each.length->each.drop chosen.length=rest->aj Tryz.prog 37 [.row 0 f (.lG each),.row 0 g (.ints some),.row 0 k (.ints states),.row 0 c (.ints chosen)] (.bool (Fg some states rest chosen)):=by
 intro rest
 induction rest with
 |nil =>
  intro chosen c hc hd
  have hl:each.length=chosen.length:=by have:=List.drop_eq_nil_iff.1 hd; omega
  refine aj.of Bd.jA (by simp) rfl rfl ?_
  conv=>whnf
  refine Fork.mk (fun _=>?_) (fun q=>absurd (q.symm.trans ((by rw[hl]; simp:((each.length:Int)==(chosen.length:Int))=true))) Bool.false_ne_true)
  conv=>whnf
  conv=>whnf
  refine ah.pure (S.oZ states some chosen k g c h1 h2 (by omega)) rfl ?_
  conv=>whnf
  exact ak.bool rfl
 |cons s rest ih =>
  intro chosen c hc hd
  have hl:chosen.length<each.length:=by
   refine Classical.byContradiction fun hn=>?_
   rw[List.drop_eq_nil_of_le (by omega)] at hd; cases hd
  have hs:each.getD chosen.length []=s/\each.drop (chosen.length+1)=rest:=by
   rw[bg [] hl] at hd; exact List.cons.inj hd
  have hsl:s.length<2^30:=by rw[<- hs.1]; exact he _
  refine aj.of Bd.jA (by simp) rfl rfl ?_
  conv=>whnf
  refine Fork.mk (fun q=>absurd (q.symm.trans ((by rw[beq_eq_false_iff_ne]; omega:((each.length:Int)==(chosen.length:Int))=false))).symm Bool.false_ne_true) (fun _=>?_)
  conv=>whnf
  conv=>whnf
  refine aC.same [0,1,2,3] (fun i:Nat=>[(9,.int i)]) (fun i=>i<=states.length/\((List.range i).all fun(i:Nat)=>rF chosen (i:Int)|| !(rF s (states.getD i 0))||Fg some states rest (chosen++[(i:Int)]))=true) (fun i=>states.length-i) 0 rfl (by decide) rfl (fun _=>rfl) ⟨by omega,by simp⟩ ⟨⟨_,rfl,rfl⟩,trivial⟩ ?_
  conv=>whnf
  refine⟨rfl,?_⟩
  rintro i ⟨hi,hall⟩
  conv=>whnf
  refine⟨fun h4=>?_,fun h4=>?_⟩
  ·have hi':i<states.length:=by simpa using h4
   have hnext:((List.range (i+1)).all fun(i:Nat)=>rF chosen (i:Int)|| !(rF s (states.getD i 0))||Fg some states rest (chosen++[(i:Int)]))=(rF chosen (i:Int)|| !(rF s (states.getD i 0))||Fg some states rest (chosen++[(i:Int)])):=by
    rw[List.range_succ,List.all_append,hall,List.all_cons,List.all_nil,Bool.true_and,Bool.and_true]
   conv=>whnf
   refine ah.pure (S.qI chosen i c (by omega)) rfl ?_
   conv=>whnf
   repeat(refine VC.mk (by first|exact id|exact fun h=>⟨h,h⟩|(intro h; (repeat' apply And.intro)<;>first|exact h|omega|(simp only[Rw.kK]; omega)|(simp only[Rw.rng]; omega))) ?_; conv=>whnf)
   have aeh:(each.getD chosen.length []).length<2^40:=by have:=he chosen.length; omega
   refine ah.cO (fun _=>S.qI (each.getD chosen.length []) (states.getD i 0) false aeh) rfl ?_
   conv=>whnf
   repeat(refine VC.mk (by first|exact id|(intro h; rw[h]; rfl)) ?_; conv=>whnf)
   refine⟨fun h5=>?_,fun h5=>?_⟩
   ·have h5':(rF chosen (i:Int)|| !(rF s (states.getD i 0)))=true:=by rw[<- hs.1]; exact h5
    conv=>whnf
    refine .mk (by simp only[okI] at *; omega) ?_
    conv=>whnf
    refine⟨i+1,⟨by omega,?_⟩,by omega,⟨⟨_,rfl,rfl⟩,trivial⟩,?_,rfl⟩
    ·rw[hnext,h5']; rfl
    ·repeat' (first|exact trivial|exact⟨_,rfl,rfl⟩|constructor)
   ·have h5':(rF chosen (i:Int)|| !(rF s (states.getD i 0)))=false:=by rw[<- hs.1]; exact h5
    have hcl:(chosen++[(i:Int)]).length=chosen.length+1:=by simp
    conv=>whnf
    repeat(refine VC.mk (by first|(show(chosen.length+(0+1))*8<=140737488355328/\chosen.length+(0+1)<=1152921504606846976; omega)|(simp only[kJ,jG,Rw.len]; omega)) ?_; conv=>whnf)
    have hI:=ih (chosen++[(i:Int)]) false (by omega) (by rw[hcl]; exact hs.2)
    refine ah.lend hI ⟨aB _,aB _,aB _,zU trivial rfl,trivial⟩ rfl rfl ?_
    conv=>whnf
    refine⟨fun h6=>?_,fun h6=>?_⟩
    ·have h6':Fg some states rest (chosen++[(i:Int)])=false:=by simpa using h6
     conv=>whnf
     refine ak.bool ?_
     show((List.range states.length).all fun(i:Nat)=>rF chosen (i:Int)|| !(rF s (states.getD i 0))||Fg some states rest (chosen++[(i:Int)]))=false
     rw[List.all_eq_false]
     exact⟨i,List.mem_range.2 hi',by rw[h5',h6']; decide⟩
    ·have h6':Fg some states rest (chosen++[(i:Int)])=true:=by simpa using h6
     conv=>whnf
     refine .mk (by simp only[okI] at *; omega) ?_
     conv=>whnf
     refine⟨i+1,⟨by omega,?_⟩,by omega,⟨⟨_,rfl,rfl⟩,trivial⟩,?_,rfl⟩
     ·rw[hnext,h5',h6']; rfl
     ·repeat' (first|exact trivial|exact⟨_,rfl,rfl⟩|constructor)
  ·have hi':i=states.length:=by have: ¬ ((i:Int)<(states.length:Int)):=of_decide_eq_false h4; omega
   subst hi'
   conv=>whnf
   exact ak.bool hall
theorem Z5(c:Nat)(v:V): ∀ (cs:List V),V.aX (cs.set c v)=(V.aX cs).set c v.aH:=by
 induction c with
 |zero=>intro cs; cases cs<;>rfl
 |succ c ih =>
  intro cs
  cases cs with
  |nil=>rfl
  |cons x r=>show x.aH::V.aX (r.set c v)=x.aH::(V.aX r).set c v.aH; rw[ih r]
theorem MV: ∀ (cs:List V),(V.aX cs).length=cs.length:=by
 intro cs
 induction cs with
 |nil=>rfl
 |cons x r ih=>show(V.aX r).length+1=r.length+1; rw[ih]
theorem aC.aei{P:Program}{N pn nx:Nat}{b:iE}{Q:Qz}{m:Fm}{h:Hz}(j c ty k:Nat){k' oty:Nat}{cs:List V}(hj:h.get j=some (.box oty (cs.length+1) (.agg cs)))(hc:c<cs.length)(hg:(V.aX cs).getD c .any= .sl k' true [])(hk:yh k=true)(hn:j<nx)
  (H:aC P N pn b Q m ((nx,some (.row ty k .nil []))::(j,some (.box oty (cs.length+1) (.agg (cs.set c (.own nx)))))::h) (nx+1)):aC P N pn b Q m h nx:=by
 refine⟨fun fr hl R=>?_⟩
 have H':=H.ok fr hl R
 have e:Hz.au ((nx,some (.row ty k .nil []))::(j,some (.box oty (cs.length+1) (.agg (cs.set c (.own nx)))))::h)=upd (upd h.au j (some ⟨oty,(V.aX cs).length+1,[.agg ((V.aX cs).set c (.own nx))]⟩)) nx (some ⟨ty,k,[]⟩):=by
  rw[bD,bD,MV]
  show upd (upd h.au j (some ⟨oty,cs.length+1,[.agg (V.aX (cs.set c (.own nx)))]⟩)) nx (some ⟨ty,k,[]⟩)=_
  rw[Z5]; rfl
 rw[e] at H'
 obtain⟨I,μ,⟨s0,w0,i0⟩,round⟩:=H'
 have hj':h.au j=some ⟨oty,(V.aX cs).length+1,[.agg (V.aX cs)]⟩:=by rw[MV]; exact aK hj
 exact⟨I,μ,⟨s0,Wk.Z7 j c ty k hj' (by rw[MV]; exact hc) hg hk hn w0,i0⟩,round⟩
def Xn:V:=.agg [.row 0 true .nil,.row 0 true .nil,.int 0,.row 0 true .nil,.row 0 true .nil,.int 0]
def BK(p:aP)(e:Elem):Int:=bif BX p e !=0 then BX p e else bif dK e==0 then 1 else bif decide (dK e>8) then 4 else 0
def RS(p:aP)(e:Elem):V:=.fA [bif BK p e==0 then .agg [.row 0 true .nil,.row 0 false (.ints (NZ e.counts)),.int (dK e),.row 0 true .nil,.row 0 true .nil,.int e.value] else Xn,.int (BK p e)]
theorem DR{p:aP}{e:Elem}{x:Int}(h:BK p e=x)(hx:x≠0):RS p e= .fA [Xn,.int x]:=by
 rw[RS,h,show(x==0)=false from beq_eq_false_iff_ne.2 hx]; rfl
theorem TL{p:aP}{e:Elem}(h:BK p e=0):RS p e= .fA [.agg [.row 0 true .nil,.row 0 false (.ints (NZ e.counts)),.int (dK e),.row 0 true .nil,.row 0 true .nil,.int e.value],.int 0]:=by
 rw[RS,h]; rfl
def stP(c:List Int)(i:Nat):List Int:=(List.range i).flatMap fun x=>List.replicate (c.getD x 0).toNat (x:Int)
theorem Ph{c:List Int}{i:Nat}:stP c (i+1)=stP c i++List.replicate (c.getD i 0).toNat (i:Int):=by
 rw[stP,List.range_succ,List.flatMap_append,List.flatMap_cons,List.flatMap_nil,List.append_nil]; rfl
theorem TM{c:List Int}(h:yO c): ∀ i,(stP c i).length<=i*1048576:=by
 intro i
 induction i with
 |zero=>exact Nat.le_refl _
 |succ i ih =>
  rw[Ph,List.length_append,List.length_replicate]
  have:=h.g i
  omega
set_option maxHeartbeats 1000000 in
theorem S.jf(p:aP)(e:Elem)(hp:bH p)(he:e.counts.length<2^30):aj Tryz.prog 35 [.dat (.bW p),.dat (.elem e)] (RS p e):=by
 have hfree:(RS p e).free=true:=by
  unfold RS
  cases BK p e==0<;>rfl
 refine aj.of Bd.jf (by simp) rfl hfree ?_
 conv=>whnf
 refine ah.pure (S.iG p e hp he) rfl ?_
 conv=>whnf
 refine⟨fun h1=>?_,fun h1=>?_⟩
 ·have e0:BK p e=BX p e:=by rw[BK,show(BX p e !=0)=true from h1]; rfl
  rw[DR e0 (by simpa using h1)]
  conv=>whnf
  exact ak.eqv rfl
 have e1:BK p e=bif dK e==0 then 1 else bif decide (dK e>8) then 4 else 0:=by rw[BK,show(BX p e !=0)=false from h1]; rfl
 conv=>whnf
 refine ah.pure (S.gU e (by omega)) rfl ?_
 conv=>whnf
 refine⟨fun h2=>?_,fun h2=>?_⟩
 ·have e0:BK p e=1:=by rw[e1,show(dK e==0)=true from h2]; rfl
  rw[DR e0 (by decide)]
  conv=>whnf
  exact ak.eqv rfl
 have e2:BK p e=bif decide (dK e>8) then 4 else 0:=by rw[e1,show(dK e==0)=false from h2]; rfl
 conv=>whnf
 refine⟨fun h3=>?_,fun h3=>?_⟩
 ·have e0:BK p e=4:=by rw[e2,show decide (dK e>8)=true from h3]; rfl
  rw[DR e0 (by decide)]
  conv=>whnf
  exact ak.eqv rfl
 have e0:BK p e=0:=by rw[e2,show decide (dK e>8)=false from h3]; rfl
 rw[TL e0]
 obtain⟨hl6,hok⟩:e.counts.length<=6/\yO e.counts:=by
  have h4:dK e≠0:=by simpa using h2
  unfold dK at h4
  by_cases h5:6<e.counts.length
  ·rw[if_pos h5] at h4; exact absurd rfl h4
  ·rw[if_neg h5] at h4
   by_cases h6:e.counts.all Fq=true
   ·exact⟨by omega,fun x hx=>MG.1 (List.all_eq_true.1 h6 x hx)⟩
   ·rw[if_neg h6] at h4; exact absurd rfl h4
 conv=>whnf
 refine aC.aei 21 1 3 0 (cs:=[.row 0 true .nil,.row 0 true .nil,.int (dK e),.row 0 true .nil,.row 0 true .nil,.int e.value]) rfl (Nat.lt_of_sub_eq_succ rfl) rfl rfl (Nat.lt_of_sub_eq_succ rfl) ?_
 refine aC.vH 100 [4,8,31,32] (fun i:Nat=>[(33,.int i)]) (fun i=>[(2,.box 69 7 Xn),(21,.box 69 7 (.agg [.row 0 true .nil,.own 27,.int (dK e),.row 0 true .nil,.row 0 true .nil,.int e.value])),(27,iR (stP e.counts i))]) (fun i=>i<=e.counts.length) (fun i=>e.counts.length-i) 0 [2,21,27] rfl (by decide) (fun _=>rfl) (Nat.zero_le _) ?_ ?_ ?_
 ·exact⟨⟨_,rfl,.eq rfl⟩,trivial⟩
 ·exact⟨okF rfl nofun rfl rfl rfl ⟨rfl,rfl⟩ rfl,⟨rfl,nofun,rfl,rfl,_,rfl,rfl,rfl,aV.of_eq rfl⟩,okF rfl nofun rfl rfl rfl ⟨rfl,rfl⟩ rfl,trivial⟩
 conv=>whnf
 refine⟨⟨⟨_,rfl,.eq rfl⟩,⟨_,rfl,.eq rfl⟩,⟨_,rfl,.eq rfl⟩,⟨_,rfl,.eq rfl⟩,trivial⟩,rfl,?_⟩
 rintro i hi
 have hsl:=TM hok i
 conv=>whnf
 refine⟨fun h4=>?_,fun h4=>?_⟩
 ·have hi':i<e.counts.length:=by simpa using h4
  have hgi:=hok.g i
  conv=>whnf
  refine .mk (by simp only[Rw.rng] at *; omega) ?_
  conv=>whnf
  refine aC.vH 200 [4,8,9,31,32,33,38] (fun j:Nat=>[(39,.int j)]) (fun j=>[(2,.box 69 7 Xn),(21,.box 69 7 (.agg [.row 0 true .nil,.own 27,.int (dK e),.row 0 true .nil,.row 0 true .nil,.int e.value])),(27,iR (stP e.counts i++List.replicate j (i:Int)))]) (fun j=>j<=(e.counts.getD i 0).toNat) (fun j=>(e.counts.getD i 0).toNat-j) 0 [2,21,27] rfl (by decide) (fun _=>rfl) (Nat.zero_le _) ?_ ?_ ?_
  ·exact⟨⟨_,rfl,.eq rfl⟩,trivial⟩
  ·exact⟨okF rfl nofun rfl rfl rfl ⟨rfl,rfl⟩ rfl,⟨rfl,nofun,rfl,rfl,_,rfl,rfl,rfl,aV.of_eq rfl⟩,okF rfl nofun rfl rfl rfl ⟨rfl,rfl⟩ (by simp),trivial⟩
  conv=>whnf
  refine⟨⟨⟨_,rfl,.eq rfl⟩,⟨_,rfl,.eq rfl⟩,⟨_,rfl,.eq rfl⟩,⟨_,rfl,.eq rfl⟩,⟨_,rfl,.eq rfl⟩,⟨_,rfl,.eq rfl⟩,⟨_,rfl,.eq rfl⟩,trivial⟩,rfl,?_⟩
  rintro j hj
  conv=>whnf
  refine⟨fun h5=>?_,fun h5=>?_⟩
  ·have hj':j<(e.counts.getD i 0).toNat:=by
    have:(j:Int)<e.counts.getD i 0:=of_decide_eq_true h5
    omega
   have hrl:(stP e.counts i++List.replicate j (i:Int)).length<=8*1048576:=by rw[List.length_append,List.length_replicate]; omega
   conv=>whnf
   repeat(refine VC.mk (by first|(show((stP e.counts i++List.replicate j (i:Int)).length+(0+1))*8<=140737488355328/\(stP e.counts i++List.replicate j (i:Int)).length+(0+1)<=1152921504606846976; omega)|(simp only[okI] at *; omega)) ?_; conv=>whnf)
   refine⟨j+1,[2,21,205],by omega,by omega,⟨⟨_,rfl,.eq rfl⟩,trivial⟩,⟨⟨_,rfl,.eq rfl⟩,⟨_,rfl,.eq rfl⟩,⟨_,rfl,.eq rfl⟩,⟨_,rfl,.eq rfl⟩,⟨_,rfl,.eq rfl⟩,⟨_,rfl,.eq rfl⟩,⟨_,rfl,.eq rfl⟩,trivial⟩,okF rfl nofun rfl rfl rfl ⟨rfl,rfl⟩ rfl,⟨rfl,nofun,rfl,rfl,_,rfl,rfl,rfl,aV.of_eq rfl⟩,okF rfl nofun rfl rfl rfl ⟨rfl,rfl⟩ ?_,trivial⟩
   rw[List.replicate_succ',<- List.append_assoc]
  ·have hj':j=(e.counts.getD i 0).toNat:=by
    have: ¬ ((j:Int)<e.counts.getD i 0):=of_decide_eq_false h5
    omega
   subst hj'
   rw[<- Ph]
   conv=>whnf
   refine .mk (by simp only[okI] at *; omega) ?_
   conv=>whnf
   exact⟨i+1,[2,21,27],by omega,by omega,⟨⟨_,rfl,.eq rfl⟩,trivial⟩,⟨⟨_,rfl,.eq rfl⟩,⟨_,rfl,.eq rfl⟩,⟨_,rfl,.eq rfl⟩,⟨_,rfl,.eq rfl⟩,trivial⟩,okF rfl nofun rfl rfl rfl ⟨rfl,rfl⟩ rfl,⟨rfl,nofun,rfl,rfl,_,rfl,rfl,rfl,aV.of_eq rfl⟩,okF rfl nofun rfl rfl rfl ⟨rfl,rfl⟩ rfl,trivial⟩
 ·have hi':i=e.counts.length:=by have: ¬ ((i:Int)<(e.counts.length:Int)):=of_decide_eq_false h4; omega
  subst hi'
  have hend:stP e.counts e.counts.length=NZ e.counts:=rfl
  rw[hend]
  conv=>whnf
  exact⟨show T.sub _ _ (.fA [.agg [.sl 0 true [],.sl 0 false ((NZ e.counts).map T.int),.int (dK e),.sl 0 true [],.sl 0 true [],.int e.value],.int 0]) (.fA [.agg [.sl 0 true [],.own 27,.int (dK e),.sl 0 true [],.sl 0 true [],.int e.value],.int 0]) from⟨⟨aB _,zU trivial rfl,aB _,aB _,aB _,aB _,trivial⟩,aB _,trivial⟩⟩
end Go.Proofs.YtifbibbicplneaaGreatDoor
