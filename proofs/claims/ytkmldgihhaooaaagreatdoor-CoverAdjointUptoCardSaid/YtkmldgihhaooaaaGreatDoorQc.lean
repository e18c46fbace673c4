/-
 What is before a step with a rule: the program's answer. No condition.
-/
import Derived.Test.YtkmldgihhaooaaaGreatDoorQb
import Derived.Test.YtkmldgihhaooaaaGreatDoorFa
namespace Go.Proofs.YtkmldgihhaooaaaGreatDoor
open Go.Ab Go.Proofs
set_option maxRecDepth 100000
def uY(vs:List Int)(cs:List (List Int))(i j:Nat):List Elem:=((vs.take i).flatMap fun v=>cs.map fun c=>(⟨v,c⟩:Elem))++(cs.take j).map fun c=>⟨vs.getD i 0,c⟩
theorem QU{vs:List Int}{cs:List (List Int)}{i j:Nat}(hi:i<=vs.length)(hj:j<=cs.length):(uY vs cs i j).length=i*cs.length+j:=by
 have: ∀ L:List Int,(L.flatMap fun v=>cs.map fun c=>(⟨v,c⟩:Elem)).length=L.length*cs.length:=by
  intro L
  induction L with
  |nil=>simp
  |cons c L ih=>rw[List.flatMap_cons,List.length_append,ih,List.length_map,List.length_cons,Nat.succ_mul,Nat.add_comm]
 unfold uY
 rw[List.length_append,this,List.length_map,List.length_take,List.length_take,Nat.min_eq_left hi,Nat.min_eq_left hj]
theorem Xt{vs:List Int}{cs:List (List Int)}{i j:Nat}(hj:j<cs.length):uY vs cs i (j+1)=uY vs cs i j++[⟨vs.getD i 0,cs.getD j []⟩]:=by
 unfold uY
 rw[List.take_succ_eq_append_getElem hj,List.map_append,<- List.append_assoc,getD_some hj]; rfl
theorem Xu{vs:List Int}{cs:List (List Int)}{i:Nat}(hi:i<vs.length):uY vs cs (i+1) 0=uY vs cs i cs.length:=by
 unfold uY
 rw[List.take_succ_eq_append_getElem hi,List.flatMap_append,List.take_length,getD_some hi]
 simp
theorem QV{vs:List Int}{cs:List (List Int)}:uY vs cs vs.length 0=vs.flatMap fun v=>cs.map fun c=>⟨v,c⟩:=by
 unfold uY
 rw[List.take_length]; simp
theorem ZU{vs:List Int}{cs:List (List Int)}{i j:Nat}{x:Elem}(h:x∈uY vs cs i j):x.counts∈cs:=by
 unfold uY at h
 rcases List.mem_append.1 h with h|h
 ·obtain⟨v,_,h⟩:=List.mem_flatMap.1 h
  obtain⟨c,hc,rfl⟩:=List.mem_map.1 h
  exact hc
 ·obtain⟨c,hc,rfl⟩:=List.mem_map.1 h
  exact List.mem_of_mem_take hc
def ZV(x:Elem):Bool:= !(x.counts.all Aa)
def QW(x:Int×List Elem):V:=.cO [.row 3 false (.elems x.2),.int x.1]
theorem Kt{r:Rule}{c:List Int}(hp:FT c.length r)(h0:Lr c)(hl:c.length<=6): ∀ l∈yg r c,l.length=c.length:=by
 intro l hl'
 obtain⟨d,hd,rfl⟩:=List.mem_map.1 hl'
 rw[jf]
 exact(CZ hp h0 hl d hd).1
set_option maxHeartbeats 2000000 in
theorem S.oM(p:aP)(r:Rule)(e:Elem)(hv:p.values.length<2^20)(hr:sG r)(hp:FT e.counts.length r)(h0:Lr e.counts)(hl0:0<e.counts.length)(hl:e.counts.length<=6)(hx:r.ex.length<=100)(hk:r.kind=1\/r.kind=2\/r.kind=3):ak Tryz.prog 52 [.dat (.iU p),.dat (.rule r),.dat (.elem e)] (QW (rO p r e)):=by
 rw[<- abX]
 generalize hres:QW (abW p r e)=res
 have hvl:(oJ p r e.value).length<2^21:=by
  unfold oJ
  cases decide (0<=r.write)&&r.write !=e.value
  ·cases decide (r.write<0)&&(decide (0<=r.read)&&r.read !=e.value)
   ·cases decide (0<=r.read)
    ·cases decide (r.write<0)
     ·show((List.range _).map _).length<_
      rw[List.length_map,List.length_range]; omega
     ·exact(by decide:(1:Nat)<2^21)
    ·exact(by decide:(1:Nat)<2^21)
   ·exact(by decide:(0:Nat)<2^21)
  ·exact(by decide:(0:Nat)<2^21)
 have hcl:=Kt hp h0 hl
 refine ak.of Bd.oM (by simp) rfl (by rw[<- hres]; rfl) ?_
 conv=>whnf
 refine ah.pure (S.jM p r e.value hv) rfl ?_
 conv=>whnf
 have hC:abW p r e=bif (oJ p r e.value).length==0 then(0,[]) else bif decide (100<(yg r e.counts).length)||decide (100<(yg r e.counts).length*(oJ p r e.value).length) then(4,[]) else
  bif (uY (oJ p r e.value) (yg r e.counts) (oJ p r e.value).length 0).any ZV then(4,[]) else(0,bF (uY (oJ p r e.value) (yg r e.counts) (oJ p r e.value).length 0)):=by rw[QV]; rfl
 have hS:=S.jO r e.counts false hr hp h0 hl0 hl hx hk
 generalize hvs:oJ p r e.value=vs at hC hvl ⊢
 generalize hcs:yg r e.counts=cs at hC hcl
 refine⟨fun h1=>?_,fun h1=>?_⟩
 ·conv=>whnf
  have h1':(vs.length==0)=true:=by
   have:((vs.length:Int)==0)=true:=h1
   simpa using this
  rw[<- hres,hC,h1']
  exact aj.zI
 have h1':(vs.length==0)=false:=by
  have:((vs.length:Int)==0)=false:=h1
  simpa using this
 rw[h1',cond_false] at hC
 conv=>whnf
 refine ah.pure hS Na ?_
 unfold Kq
 rw[hcs]
 cases h2:decide (cs.length<=100) with
 |false =>
  have h2':=of_decide_eq_false h2
  rw[decide_eq_true (by omega:100<cs.length),Bool.true_or,cond_true] at hC
  conv=>whnf
  repeat(refine VC.mk (by first|exact id|(intro h; rw[h]; rfl)|(intro h; simp_all; done)) ?_; conv=>whnf)
  refine Fork.mk (fun _=>?_) (fun q=>absurd (q.symm.trans (rfl)) Bool.false_ne_true)
  conv=>whnf
  rw[<- hres,hC]
  exact aj.zI
 |true =>
  have h2':=of_decide_eq_true h2
  rw[decide_eq_false (by omega: ¬ 100<cs.length),Bool.false_or] at hC
  have hmul:cs.length*vs.length<=100*2^21:=Nat.mul_le_mul h2' (Nat.le_of_lt hvl)
  conv=>whnf
  repeat(refine VC.mk (by first|(intro _; refine⟨rfl,rfl,?_⟩; show okI ((cs.length:Int)*(vs.length:Int)); rw[<- Int.natCast_mul]; simp only[okI]; omega)|exact fun h=>h|(intro h; rw[h]; rfl)) ?_; conv=>whnf)
  refine⟨fun h3=>?_,fun h3=>?_⟩
  ·have h3':100<cs.length*vs.length:=by
    replace h3:decide (100<(cs.length:Int)*(vs.length:Int))=true:=h3
    have:=of_decide_eq_true h3
    rw[<- Int.natCast_mul] at this
    omega
   rw[decide_eq_true h3',cond_true] at hC
   conv=>whnf
   rw[<- hres,hC]
   exact aj.zI
  have h3':cs.length*vs.length<=100:=by
   replace h3:decide (100<(cs.length:Int)*(vs.length:Int))=false:=h3
   have:=of_decide_eq_false h3
   rw[<- Int.natCast_mul] at this
   omega
  rw[decide_eq_false (by omega: ¬ 100<cs.length*vs.length),cond_false] at hC
  rw[Nat.mul_comm] at h3'
  conv=>whnf
  refine aG.nil 11 35 3 (by rfl) rfl rfl rfl ?_
  refine aG.objs 3 [41,42,9] (fun i:Nat=>[(43,.int i),(11,.own 2)]) (fun i=>[(2,dF (uY vs cs i 0))]) (fun i=>i<=vs.length/\(uY vs cs i 0).any ZV=false) (fun i=>vs.length-i) 0 [37] rfl (by decide) (fun _=>rfl) ⟨Nat.zero_le _,rfl⟩ (sR rfl) ⟨⟨rfl,nofun,rfl,rfl,rfl,_,rfl,rfl,rfl,aI.of_eq rfl⟩,trivial⟩ ?_
  conv=>whnf
  refine⟨(sR rfl),rfl,?_⟩
  rintro i ⟨hi,hno⟩
  have hN0:=QU hi (Nat.zero_le cs.length)
  have hN0':i*cs.length<=100:=Nat.le_trans (Nat.mul_le_mul_right _ hi) h3'
  conv=>whnf
  refine⟨fun h4=>?_,fun h4=>?_⟩
  ·have hi':i<vs.length:=by simpa using h4
   conv=>whnf
   refine .mk (by simp only[Rw.rng] at *; first|omega|(simp_all; done)|(simp_all; omega)) ?_
   conv=>whnf
   refine aG.acu 3 [47,48,13,41,42,43,9] (fun j:Nat=>[(49,.int j),(11,.own 2)]) (fun j=>[(2,dF (uY vs cs i j))]) (fun j=>j<=cs.length/\(uY vs cs i j).any ZV=false) (fun j=>cs.length-j) 0 [2] [(2,some (dF (uY vs cs i 0)))] rfl (by decide) (fun _=>rfl) ⟨Nat.zero_le _,hno⟩ (sR rfl) ⟨fun _=>False,qQ (Z:=fun _=>False) rfl (fun q=>q),trivial⟩ ⟨okH rfl rfl,trivial⟩ ?_
   conv=>whnf
   refine⟨(sR rfl),rfl,?_⟩
   rintro j ⟨hj,ad3⟩
   have hNj:=QU hi hj
   have ad1:i*cs.length+j<=100:=by
    have:=Nat.mul_le_mul_right cs.length hi'
    rw[Nat.succ_mul] at this
    omega
   conv=>whnf
   refine⟨fun h5=>?_,fun h5=>?_⟩
   ·have hj':j<cs.length:=by simpa using h5
    have hst:=Xt (vs:=vs) (i:=i) hj'
    have hcj:=hcl (cs.getD j []) (by rw[getD_some hj']; exact List.getElem_mem hj')
    replace hcj:(cs.getD ((j:Int)).toNat []).length=e.counts.length:=hcj
    conv=>whnf
    repeat(refine VC.mk (by first|(first|(simp only[nK,nT,Rw.len]; omega)|(show((uY vs cs i j).length+(0+1))*32<=140737488355328/\(uY vs cs i j).length+(0+1)<=1152921504606846976; omega))|(simp only[Rw.rng] at *; first|omega|(simp_all; done)|(simp_all; omega))) ?_; conv=>whnf)
    refine ah.pure (S.kQ (cs.getD j []) false (by show(cs.getD ((j:Int)).toNat []).length<_; omega)) rfl ?_
    conv=>whnf
    refine⟨fun h6=>?_,fun h6=>?_⟩
    ·conv=>whnf
     have hb:(uY vs cs vs.length 0).any ZV=true:=by
      rw[List.any_eq_true]
      refine⟨⟨vs.getD i 0,cs.getD j []⟩,?_,h6⟩
      rw[QV]
      exact List.mem_flatMap.2 ⟨vs.getD i 0,by rw[getD_some hi']; exact List.getElem_mem hi',List.mem_map.2 ⟨cs.getD j [],by rw[getD_some hj']; exact List.getElem_mem hj',rfl⟩⟩
     rw[hb,cond_true] at hC
     rw[<- hres,hC]
     exact aj.zI
    ·conv=>whnf
     refine .mk (by simp only[okI] at *; first|omega|(simp_all; done)|(simp_all; omega)) ?_
     conv=>whnf
     refine⟨[(13,some (dF (uY vs cs i j++[⟨vs.getD i 0,cs.getD j []⟩])))],j+1,[13],⟨fun i=>i=10,O9 (Z:=fun i=>i=10) (i:=13) (j:=10) rfl (by decide) rfl rfl,trivial⟩,⟨hj',?_⟩,by omega,(sR rfl),(sR rfl),okF rfl nofun rfl rfl rfl ⟨rfl,rfl⟩ (by rw[hst]),trivial⟩
     rw[hst,List.any_append,ad3]
     show(ZV _||false)=false
     rw[Bool.or_false]
     exact h6
   ·have hj':j=cs.length:=by have:=of_decide_eq_false h5; omega
    subst hj'
    rw[<- Xu hi'] at ad3 ⊢
    conv=>whnf
    refine .mk (by simp only[okI] at *; first|omega|(simp_all; done)|(simp_all; omega)) ?_
    conv=>whnf
    exact⟨i+1,[2],⟨hi',ad3⟩,by omega,(sR rfl),(sR rfl),⟨rfl,nofun,rfl,rfl,rfl,_,rfl,rfl,rfl,aI.of_eq rfl⟩,trivial⟩
  ·have hi':i=vs.length:=by have:=of_decide_eq_false h4; omega
   subst hi'
   rw[hno,cond_false] at hC
   rw[<- hres,hC]
   conv=>whnf
   refine ah.shut (fun _=>True) (h2:=[]) trivial (S.kZ (uY vs cs vs.length 0) false (by omega) (fun x hx=>by have:=hcl _ (ZU hx); omega)) ⟨LD trivial rfl,trivial⟩ ?_
   conv=>whnf
   exact aj.eqv rfl
theorem ab2: ∀ {l:List Int},FC l=true->l.Pairwise (· < ·):=by
 intro l
 induction l with
 |nil=>intro _; exact .nil
 |cons a r ih =>
  intro h
  cases r with
  |nil=>exact List.pairwise_singleton ..
  |cons b r =>
   simp only[FC,Bool.and_eq_true,decide_eq_true_eq] at h
   have h2:=ih h.2
   refine List.pairwise_cons.2 ⟨fun x hx=>?_,h2⟩
   rcases List.mem_cons.1 hx with rfl|hx
   ·exact h.1
   ·have:=(List.pairwise_cons.1 h2).1 x hx; omega
theorem ad4{n:Int}: ∀ {l:List Int} {k:Int},l.Pairwise (· < ·)->(∀ x∈l,k<=x/\x<n)->k<=n->k+l.length<=n:=by
 intro l
 induction l with
 |nil=>intro k _ _ h; simp; exact h
 |cons a r ih =>
  intro k hp hx hk
  have ha:=hx a (by simp)
  have:=ih (k:=a+1) (List.pairwise_cons.1 hp).2 (fun x h=>⟨(List.pairwise_cons.1 hp).1 x h,(hx x (by simp[h])).2⟩) (by omega)
  rw[List.length_cons]; omega
theorem ab3{l:List Int}{n:Int}(h:jo l n=0):FC l=true:=by
 unfold jo at h
 obtain⟨_,h⟩:=bz (fun _=>by decide) h
 cases hb:FC l with
 |true=>rfl
 |false=>rw[hb] at h; exact absurd h (by decide)
structure acJ(n:Nat)(p:aP)(r:Rule):Prop where
 rf:Uo n p r
 nd:r.ex.Nodup
 xl:r.ex.length<=n
theorem Lp{p:aP}{i:Nat}(hv:Ns p)(ht:p.topology=1)(hi:i<p.rules.length):acJ p.states.length p (p.rules.getD i default):=by
 have hf:=YtkmldgihhaooaaaGreatDoor.Ur hv ht hi
 suffices hh:(p.rules.getD i default).ex.Nodup/\(p.rules.getD i default).ex.length<=p.states.length from⟨hf,hh.1,hh.2⟩
 by_cases hk:(p.rules.getD i default).kind=1
 ·have h:=hv.rule i hi
  simp only[gQ] at h
  obtain⟨_,h⟩:=bz (fun _=>by decide) h
  obtain⟨_,h⟩:=bz (fun _=>by decide) h
  obtain⟨_,h⟩:=bz nz h
  rw[hk] at h
  have g:=kN h
  have hs:=ab2 (ab3 (g (jo (p.rules.getD i default).ex p.states.length) (by simp)))
  refine⟨hs.imp fun h=>by omega,?_⟩
  have:=ad4 (k:=0) hs (fun x hx=>hf.place.exs x hx) (by omega)
  omega
 ·rw[(hf.ex1 hk).1]
  exact⟨List.nodup_nil,Nat.zero_le _⟩
theorem zY.Lp{p:aP}{e:Elem}(h:zY p e){r:Rule}(hr:r∈p.rules):acJ e.counts.length p r:=by
 obtain⟨i,hi,rfl⟩:=List.getElem_of_mem hr
 have:=YtkmldgihhaooaaaGreatDoor.Lp h.valid (Lu h.plain) hi
 rw[getD_some hi] at this
 rw[h.len]; exact this
theorem ZW{n:Nat}{p:aP}{r:Rule}{v:Int}(hr:Uo n p r)(hv:0<=v/\v<max 1 (p.values.length:Int)): ∀ u∈oJ p r v,0<=u/\u<max 1 (p.values.length:Int):=by
 have ho: ∀ x:Int,qN x p.values.length=false->0<=x/\x<max 1 (p.values.length:Int):=fun x h=>by
  have:=uS h
  omega
 intro u hu
 unfold oJ at hu
 cases h1:decide (0<=r.write)&&r.write !=v with
 |true=>rw[h1] at hu; cases hu
 |false =>
  rw[h1,cond_false] at hu
  cases h2:decide (r.write<0)&&(decide (0<=r.read)&&r.read !=v) with
  |true=>rw[h2] at hu; cases hu
  |false =>
   rw[h2,cond_false] at hu
   cases h3:decide (0<=r.read) with
   |true =>
    rw[h3,cond_true,List.mem_singleton] at hu
    subst hu
    have:=of_decide_eq_true h3
    rcases hr.rd with h|h
    ·exact ho _ h
    ·omega
   |false =>
    rw[h3,cond_false] at hu
    cases h4:decide (r.write<0) with
    |true=>rw[h4,cond_true,List.mem_singleton] at hu; subst hu; exact hv
    |false =>
     rw[h4,cond_false,List.mem_map] at hu
     obtain⟨x,hx,rfl⟩:=hu
     have:=List.mem_range.1 hx
     omega
theorem ZX{p:aP}{r:Rule}{e:Elem}:(rO p r e).1=0\/(rO p r e).1=4:=by
 unfold rO
 cases decide (100<(uQ p r e).length)||(uQ p r e).any fun x=> !(x.counts.all Aa)
 ·exact .inl rfl
 ·exact .inr rfl
theorem Ku{p:aP}{r:Rule}{e:Elem}:(rO p r e).2.length<=100:=by
 unfold rO
 cases h:decide (100<(uQ p r e).length)||(uQ p r e).any fun x=> !(x.counts.all Aa) with
 |true=>exact Nat.zero_le _
 |false =>
  rw[Bool.or_eq_false_iff] at h
  have:=of_decide_eq_false h.1
  exact Nat.le_trans (Dt _) (by omega)
theorem QX{p:aP}{r:Rule}{e x:Elem}(hF:zY p e)(hr:r∈p.rules)(h:x∈(rO p r e).2):nR p x=false:=by
 have hX:=hF.Lp hr
 have h6:=hF.valid.states
 have hl:=hF.len
 unfold rO at h
 cases hb:decide (100<(uQ p r e).length)||(uQ p r e).any fun x=> !(x.counts.all Aa) with
 |true=>rw[hb] at h; cases h
 |false =>
  rw[hb,cond_false] at h
  rw[Bool.or_eq_false_iff] at hb
  have h:=rZ h
  obtain⟨h1,h2⟩:=Nq.1 h
  have h3:=ZW hX.rf hF.val _ h1
  have h4:=Kt hX.rf.place hF.nums (by omega) _ h2
  have h5:=List.any_eq_false.1 hb.2 x h
  unfold nR
  rw[show((x.counts.length:Int) !=p.states.length)=false by simp; omega,show decide (x.value<0)=false by simp; omega,show decide (x.value>=max 1 (p.values.length:Int))=false by simp only[decide_eq_false_iff_not]; omega]
  simpa using h5
theorem ZY{p:aP}{e x:Elem}(hF:zY p e)(h:nR p x=false):zY p x:=by
 unfold nR at h
 simp only[Bool.or_eq_false_iff] at h
 obtain⟨⟨⟨h1,h2⟩,h3⟩,h4⟩:=h
 have h1':(x.counts.length:Int)=p.states.length:=by simpa using h1
 refine⟨hF.valid,hF.plain,by omega,fun y hy=>?_,?_⟩
 ·have:x.counts.all Aa=true:=by simpa using h2
  have:=List.all_eq_true.1 this y hy
  unfold Aa at this
  simpa using this
 ·have:=of_decide_eq_false h3
  have:=of_decide_eq_false h4
  omega
def Dc(p:aP):Int:=bif bg p !=0 then bg p else bif (iV p).cover then 0 else 7
theorem IU{p:aP}{e:Elem}(h1:Dc p=0)(h2:nR p e=false):zY p e:=by
 unfold Dc at h1
 obtain⟨h0,h1⟩:=bz nz h1
 have hv:bg p=0:=by simpa using h0
 refine aaB (C9 hv ?_ h2)
 cases hc:(iV p).cover with
 |true=>rfl
 |false=>rw[hc] at h1; exact absurd h1 (by decide)
theorem S.jD(p:aP)(hp:fM p):ak Tryz.prog 51 [.dat (.iU p)] (.int (Dc p)):=by
 refine ak.of Bd.jD (by simp) rfl rfl ?_
 conv=>whnf
 refine ah.pure (S.gY p hp) rfl ?_
 conv=>whnf
 repeat(refine VC.mk id ?_; conv=>whnf)
 refine⟨fun h1=>?_,fun h1=>?_⟩
 ·replace h1:((bg p==0)&& !(bif bg p !=0 then G7 else iV p).cover)=true:=h1
  conv=>whnf
  refine aj.int ?_
  rw[Bool.and_eq_true] at h1
  have hv:(bg p !=0)=false:=by simpa using h1.1
  rw[hv] at h1
  unfold Dc
  rw[hv,show(iV p).cover=false by simpa using h1.2]; rfl
 ·replace h1:((bg p==0)&& !(bif bg p !=0 then G7 else iV p).cover)=false:=h1
  conv=>whnf
  refine aj.int ?_
  unfold Dc
  cases hv:(bg p !=0) with
  |true=>rfl
  |false =>
   have hz:bg p=0:=by simpa using hv
   rw[hv,hz] at h1
   rw[cond_false,hz]
   have:(iV p).cover=true:=by simpa using h1
   rw[this]; rfl
def Ud(p:aP)(i:Int)(e:Elem):Int×List Elem:=bif Dc p !=0 then(Dc p,[]) else bif nR p e then(1,[]) else bif decide (i<0)||decide (i>=p.rules.length) then(6,[]) else rO p (p.rules.getD i.toNat default) e
theorem BU{b:Bool}:(dM b 1 !=0)=b:=by cases b<;>rfl
theorem Z4{b:Bool}(h:(dM b 1 !=0)=true):dM b 1=1:=by cases b<;>first|rfl|cases h
set_option maxHeartbeats 1000000 in
theorem S.pq(p:aP)(i:Int)(e:Elem)(hp:fM p)(he:e.counts.length<2^30):ak Tryz.prog 20 [.dat (.iU p),.int i,.dat (.elem e)] (QW (Ud p i e)):=by
 have hpr:=hp.rules
 generalize hres:QW (Ud p i e)=res
 refine ak.of Bd.pq (by simp) rfl (by rw[<- hres]; rfl) ?_
 conv=>whnf
 refine ah.pure (S.jD p hp) rfl ?_
 conv=>whnf
 refine⟨fun h1=>?_,fun h1=>?_⟩
 ·conv=>whnf
  rw[<- hres,Ud,h1]
  exact aj.zI
 conv=>whnf
 refine ah.pure (S.fF p e hp he) rfl ?_
 conv=>whnf
 refine⟨fun h2=>?_,fun h2=>?_⟩
 ·replace h2:(dM (nR p e) 1 !=0)=true:=h2
  conv=>whnf
  rw[Z4 h2]
  rw[BU] at h2
  rw[<- hres,Ud,h1,h2]
  exact aj.zI
 replace h2:(dM (nR p e) 1 !=0)=false:=h2
 rw[BU] at h2
 have hF:=IU (Ce h1) h2
 have h6:=hF.valid.states
 have h0:=hF.valid.pos
 have hl:=hF.len
 conv=>whnf
 repeat(refine VC.mk (by first|exact id|exact fun h=>⟨h,h⟩|(intro h; rw[h]; rfl)) ?_; conv=>whnf)
 refine⟨fun h3=>?_,fun h3=>?_⟩
 ·replace h3:(decide (i<0)||decide (i>=p.rules.length))=true:=h3
  conv=>whnf
  rw[<- hres,Ud,h1,h2,h3]
  exact aj.zI
 ·replace h3:(decide (i<0)||decide (i>=p.rules.length))=false:=h3
  have h3':=h3
  simp only[Bool.or_eq_false_iff,decide_eq_false_iff_not] at h3'
  have hi:i.toNat<p.rules.length:=by omega
  have hX:=hF.Lp (r:=p.rules.getD i.toNat default) (by rw[getD_some hi]; exact List.getElem_mem hi)
  conv=>whnf
  refine .mk (by simp only[Rw.rng]; omega) ?_
  conv=>whnf
  refine ah.pure (S.oM p (p.rules.getD i.toNat default) e hp.values (hp.rule _) hX.rf.place hF.nums (by omega) (by omega) (by have:=hX.xl; omega) hX.rf.kind) rfl ?_
  conv=>whnf
  rw[<- hres,Ud,h1,h2,h3]
  exact aj.eqv rfl
def jZ(p:aP)(e:Elem)(i:Nat):List Elem:=(p.rules.take i).flatMap fun r=>(rO p r e).2
def pG(p:aP)(e:Elem):Int×List Elem:=bif p.rules.any (fun r=>(rO p r e).1 !=0) then(4,[]) else bif decide (100<(bF (jZ p e p.rules.length)).length) then(4,[]) else(0,bF (jZ p e p.rules.length))
theorem QY{p:aP}{e:Elem}{i:Nat}(hi:i<p.rules.length):jZ p e (i+1)=jZ p e i++(rO p (p.rules.getD i default) e).2:=by
 unfold jZ
 rw[List.take_succ_eq_append_getElem hi,List.flatMap_append,getD_some hi]; simp
theorem Ue{p:aP}{e:Elem}{i:Nat}:(jZ p e i).length<=i*100:=by
 unfold jZ
 have: ∀ L:List Rule,(L.flatMap fun r=>(rO p r e).2).length<=L.length*100:=by
  intro L
  induction L with
  |nil=>simp
  |cons c L ih=>rw[List.flatMap_cons,List.length_append,List.length_cons,Nat.succ_mul]; have:=@Ku p c e; omega
 exact Nat.le_trans (this _) (Nat.mul_le_mul_right _ (by rw[List.length_take]; omega))
theorem Kv{p:aP}{e x:Elem}{i:Nat}(hF:zY p e)(h:x∈jZ p e i):nR p x=false:=by
 obtain⟨r,hr,h⟩:=List.mem_flatMap.1 h
 exact QX hF (List.mem_of_mem_take hr) h
theorem Nr{p:aP}{x:Elem}(h:nR p x=false):x.counts.length=p.states.length:=by
 unfold nR at h
 simp only[Bool.or_eq_false_iff] at h
 have:(x.counts.length:Int)=p.states.length:=by simpa using h.1.1.1
 omega
set_option maxHeartbeats 1000000 in
theorem S.tC(p:aP)(e:Elem)(hp:fM p)(hF:zY p e):ak Tryz.prog 54 [.dat (.iU p),.dat (.elem e)] (QW (pG p e)):=by
 have hpr:=hp.rules
 have h6:=hF.valid.states
 have h8:=hF.valid.acO
 have h0:=hF.valid.pos
 have hl:=hF.len
 generalize hres:QW (pG p e)=res
 refine ak.of Bd.tC (by simp) rfl (by rw[<- hres]; rfl) ?_
 conv=>whnf
 refine aG.nil 6 35 3 (by rfl) rfl rfl rfl ?_
 refine aG.objs 3 [2,3,13,14] (fun i:Nat=>[(15,.int i),(6,.own 2)]) (fun i=>[(0,.box 27 11 (.dat (.iU p))),(1,.box 35 3 (.dat (.elem e))),(2,dF (jZ p e i))]) (fun i=>i<=p.rules.length/\(p.rules.take i).any (fun r=>(rO p r e).1 !=0)=false) (fun i=>p.rules.length-i) 0 [0,1,9] rfl (by decide) (fun _=>rfl) ⟨Nat.zero_le _,rfl⟩ (sR rfl) ⟨⟨rfl,nofun,rfl,rfl,rfl,_,rfl,rfl,rfl,aI.of_eq rfl⟩,⟨rfl,nofun,rfl,rfl,rfl,_,rfl,rfl,rfl,aI.of_eq rfl⟩,⟨rfl,nofun,rfl,rfl,rfl,_,rfl,rfl,rfl,aI.of_eq rfl⟩,trivial⟩ ?_
 conv=>whnf
 refine⟨(sR rfl),rfl,?_⟩
 rintro i ⟨hi,hno⟩
 have hpl:=Ue (p:=p) (e:=e) (i:=i)
 conv=>whnf
 refine⟨fun h1=>?_,fun h1=>?_⟩
 ·have hi':i<p.rules.length:=by simpa using h1
  have hst:=QY (e:=e) hi'
  have hmem:p.rules.getD i default∈p.rules:=by rw[getD_some hi']; exact List.getElem_mem hi'
  have hX:=hF.Lp hmem
  have hlen:=@Ku p (p.rules.getD i default) e
  conv=>whnf
  refine .mk (by simp only[Rw.rng] at *; first|omega|(simp_all; done)|(simp_all; omega)) ?_
  conv=>whnf
  refine ah.pure (S.oM p (p.rules.getD i default) e hp.values (hp.rule _) hX.rf.place hF.nums (by omega) (by omega) (by have:=hX.xl; omega) hX.rf.kind) rfl ?_
  have herr:=@ZX p (p.rules.getD i default) e
  generalize hq:rO p (p.rules.getD i default) e=q at hst hlen herr
  conv=>whnf
  refine⟨fun h2=>?_,fun h2=>?_⟩
  ·replace h2:(q.1 !=0)=true:=h2
   conv=>whnf
   have h4:q.1=4:=by
    rcases herr with h|h
    ·rw[h] at h2; cases h2
    ·exact h
   have hany:p.rules.any (fun r=>(rO p r e).1 !=0)=true:=List.any_eq_true.2 ⟨_,hmem,by rw[hq]; exact h2⟩
   rw[<- hres,pG,hany,h4]
   exact aj.zI
  ·replace h2:(q.1 !=0)=false:=h2
   conv=>whnf
   repeat(refine VC.mk (by first|(show((jZ p e i).length+q.2.length)*32<=140737488355328/\(jZ p e i).length+q.2.length<=1152921504606846976; omega)|(simp only[okI] at *; first|omega|(simp_all; done)|(simp_all; omega))) ?_; conv=>whnf)
   refine⟨i+1,[0,1,21],⟨hi',?_⟩,by omega,(sR rfl),(sR rfl),⟨rfl,nofun,rfl,rfl,rfl,_,rfl,rfl,rfl,aI.of_eq rfl⟩,⟨rfl,nofun,rfl,rfl,rfl,_,rfl,rfl,rfl,aI.of_eq rfl⟩,⟨rfl,nofun,rfl,rfl,rfl,_,rfl,rfl,rfl,aI.of_eq (by rw[hst])⟩,trivial⟩
   rw[List.take_succ_eq_append_getElem hi',List.any_append,hno,Bool.false_or,<- getD_some (d:=default) hi']
   show((rO p (p.rules.getD i default) e).1 !=0||false)=false
   rw[hq,h2]; rfl
 ·have hi':i=p.rules.length:=by have:=of_decide_eq_false h1; omega
  subst hi'
  rw[List.take_length] at hno
  have hX:pG p e=bif decide (100<(bF (jZ p e p.rules.length)).length) then(4,[]) else(0,bF (jZ p e p.rules.length)):=by unfold pG; rw[hno]; rfl
  conv=>whnf
  refine ah.shut (fun c=>c=2) (h2:=[]) trivial (S.kZ (jZ p e p.rules.length) false (by omega) (fun x hx=>by have:=Nr (Kv hF hx); omega)) ⟨LD rfl rfl,trivial⟩ ?_
  generalize bF (jZ p e p.rules.length)=M at hX
  conv=>whnf
  refine⟨fun h2=>?_,fun h2=>?_⟩
  ·replace h2:decide (100<(M.length:Int))=true:=h2
   have:=of_decide_eq_true h2
   rw[decide_eq_true (by omega:100<M.length),cond_true] at hX
   conv=>whnf
   rw[<- hres,hX]
   exact aj.zI
  ·replace h2:decide (100<(M.length:Int))=false:=h2
   have:=of_decide_eq_false h2
   rw[decide_eq_false (by omega: ¬ 100<M.length),cond_false] at hX
   conv=>whnf
   rw[<- hres,hX]
   exact aj.eqv rfl
def prA(p:aP)(e:Elem):Int×List Elem:=bif Dc p !=0 then(Dc p,[]) else bif nR p e then(1,[]) else pG p e
theorem S.yu(p:aP)(e:Elem)(hp:fM p)(he:e.counts.length<2^30):ak Tryz.prog 22 [.dat (.iU p),.dat (.elem e)] (QW (prA p e)):=by
 generalize hres:QW (prA p e)=res
 refine ak.of Bd.yu (by simp) rfl (by rw[<- hres]; rfl) ?_
 conv=>whnf
 refine ah.pure (S.jD p hp) rfl ?_
 conv=>whnf
 refine⟨fun h1=>?_,fun h1=>?_⟩
 ·conv=>whnf
  rw[<- hres,prA,h1]
  exact aj.zI
 conv=>whnf
 refine ah.pure (S.fF p e hp he) rfl ?_
 conv=>whnf
 refine⟨fun h2=>?_,fun h2=>?_⟩
 ·replace h2:(dM (nR p e) 1 !=0)=true:=h2
  conv=>whnf
  rw[Z4 h2]
  rw[BU] at h2
  rw[<- hres,prA,h1,h2]
  exact aj.zI
 replace h2:(dM (nR p e) 1 !=0)=false:=h2
 rw[BU] at h2
 have hF:=IU (Ce h1) h2
 conv=>whnf
 refine ah.pure (S.tC p e hp hF) rfl ?_
 conv=>whnf
 rw[<- hres,prA,h1,h2]
 exact aj.eqv rfl
def O4(b:List Elem)(y:Elem):Bool:=b.any fun z=>kU z y
def Xv(p:aP)(b:List Elem)(i:Int)(x:Elem):Bool:=(Ud p i x).1==0&&(Ud p i x).2.all (O4 b)
def Kw(p:aP)(q:Prop')(b:List Elem)(i:Int):Bool:=(fU p q==0)&& !(decide (i<0)||decide (i>=p.rules.length))&&b.all (Xv p b i)
theorem ab4{p:aP}{i:Int}{e:Elem}:(Ud p i e).2.length<=100:=by
 unfold Ud
 cases Dc p !=0
 ·cases nR p e
  ·cases decide (i<0)||decide (i>=p.rules.length)
   ·exact Ku
   ·exact Nat.zero_le _
  ·exact Nat.zero_le _
 ·exact Nat.zero_le _
theorem ab5{p:aP}{i:Int}{e x:Elem}(h:x∈(Ud p i e).2):nR p x=false:=by
 unfold Ud at h
 cases h1:(Dc p !=0) with
 |true=>rw[h1] at h; cases h
 |false =>
  rw[h1] at h
  cases h2:nR p e with
  |true=>rw[h2] at h; cases h
  |false =>
   rw[h2] at h
   cases h3:decide (i<0)||decide (i>=p.rules.length) with
   |true=>rw[h3] at h; cases h
   |false =>
    rw[h3] at h
    simp only[Bool.or_eq_false_iff,decide_eq_false_iff_not] at h3
    have hi:i.toNat<p.rules.length:=by omega
    exact QX (IU (Ce h1) h2) (by rw[getD_some hi]; exact List.getElem_mem hi) h
theorem FD{α:Type}{P:α->Bool}{l:List α}{i:Nat}{d:α}(h:i<l.length):(l.take (i+1)).all P=((l.take i).all P&&P (l.getD i d)):=by
 rw[List.take_succ_eq_append_getElem h,List.all_append,getD_some h]; simp
theorem IV{α:Type}{P:α->Bool}{l:List α}{i:Nat}{d:α}(h:i<l.length)(hp:P (l.getD i d)=false):l.all P=false:=by
 rw[List.all_eq_false]
 exact⟨_,by rw[getD_some (d:=d) h] at hp; exact List.getElem_mem h,by rw[getD_some h] at hp; rw[hp]; decide⟩
def DV(b:List Elem):Prop:= ∀ x∈b,x.counts.length<2^30
theorem DV.E{b:List Elem}(h:DV b):eF b:=fun x hx=>by have:=h x hx; omega
theorem DV.at{b:List Elem}(h:DV b){i:Nat}(hi:i<b.length):(b.getD i default).counts.length<2^30:=by rw[getD_some hi]; exact h _ (List.getElem_mem hi)
abbrev KN(p:aP):OV:=.box 27 11 (.dat (.iU p))
abbrev OI(q:Prop'):OV:=.box 30 7 (.dat (.prop q))
set_option maxHeartbeats 1000000 in
theorem S.mQ(p:aP)(q:Prop')(b:List Elem)(i:Int)(f:Bool)(hp:fM p)(hq:uH q)(hl:b.length<2^30)(hs:DV b):ak Tryz.prog 12 [.dat (.iU p),.dat (.prop q),.row 3 f (.elems b),.int i] (.bool (Kw p q b i)):=by
 have hpr:=hp.rules
 have hst:=hp.states
 generalize hres:Kw p q b i=res
 refine ak.of Bd.mQ (by simp) rfl rfl ?_
 conv=>whnf
 refine ah.pure (S.nV p q hp hq) rfl ?_
 conv=>whnf
 refine⟨fun h1=>?_,fun h1=>?_⟩
 ·replace h1:(fU p q !=0)=true:=h1
  conv=>whnf
  refine aj.bool ?_
  rw[<- hres]; unfold Kw
  rw[show(fU p q==0)=false by simpa using h1]; rfl
 replace h1:(fU p q !=0)=false:=h1
 have h1':(fU p q==0)=true:=by simpa using h1
 conv=>whnf
 repeat(refine VC.mk (by first|exact id|exact fun h=>⟨h,h⟩|(intro h; rw[h]; rfl)) ?_; conv=>whnf)
 refine⟨fun h2=>?_,fun h2=>?_⟩
 ·replace h2:(decide (i<0)||decide (i>=p.rules.length))=true:=h2
  conv=>whnf
  refine aj.bool ?_
  rw[<- hres]; unfold Kw
  rw[h1',h2]; rfl
 replace h2:(decide (i<0)||decide (i>=p.rules.length))=false:=h2
 have hR:Kw p q b i=b.all (Xv p b i):=by unfold Kw; rw[h1',h2]; rfl
 conv=>whnf
 refine aG.objs 4 [28,29,2,3,4] (fun k:Nat=>[(30,.int k)]) (fun _=>[(0,KN p),(1,OI q)]) (fun k=>k<=b.length/\(b.take k).all (Xv p b i)=true) (fun k=>b.length-k) 0 [0,1] rfl (by decide) (fun _=>rfl) ⟨Nat.zero_le _,rfl⟩ (sR rfl) ⟨⟨rfl,nofun,rfl,rfl,rfl,_,rfl,rfl,rfl,aI.of_eq rfl⟩,⟨rfl,nofun,rfl,rfl,rfl,_,rfl,rfl,rfl,aI.of_eq rfl⟩,trivial⟩ ?_
 conv=>whnf
 refine⟨(sR rfl),rfl,?_⟩
 rintro k ⟨hk,hall⟩
 conv=>whnf
 refine⟨fun h3=>?_,fun h3=>?_⟩
 ·have hk':k<b.length:=by simpa using h3
  have hnx:=FD (P:=Xv p b i) (d:=default) hk'
  have hnot:=fun h=>IV (P:=Xv p b i) (d:=default) hk' h
  have hle:=hs.at hk'
  generalize hX:b.getD k default=X at hnx hnot hle
  conv=>whnf
  refine .mk (by simp only[Rw.rng] at *; first|omega|(simp_all; done)|(simp_all; omega)) ?_
  conv=>whnf
  rw[show b.getD ((k:Int)).toNat default=X from hX]
  refine ah.pure (S.pq p i X hp hle) rfl ?_
  have hlen:=@ab4 p i X
  have hfit:=fun x=>@ab5 p i X x
  have hpo:Xv p b i X=((Ud p i X).1==0&&(Ud p i X).2.all (O4 b)):=rfl
  generalize hY:Ud p i X=PY at hlen hfit hpo
  conv=>whnf
  refine⟨fun h4=>?_,fun h4=>?_⟩
  ·replace h4:(PY.1 !=0)=true:=h4
   conv=>whnf
   refine aj.bool ?_
   rw[<- hres,hR]
   have:(PY.1==0)=false:=by simpa using h4
   exact hnot (by rw[hpo,this]; rfl)
  replace h4:(PY.1 !=0)=false:=h4
  have h4':(PY.1==0)=true:=by simpa using h4
  conv=>whnf
  refine aG.objs 4 [43,44,28,29,30,2,3,4] (fun j:Nat=>[(45,.int j)]) (fun _=>[(0,KN p),(1,OI q)]) (fun j=>j<=PY.2.length/\(PY.2.take j).all (O4 b)=true) (fun j=>PY.2.length-j) 0 [0,1] rfl (by decide) (fun _=>rfl) ⟨Nat.zero_le _,rfl⟩ (sR rfl) ⟨⟨rfl,nofun,rfl,rfl,rfl,_,rfl,rfl,rfl,aI.of_eq rfl⟩,⟨rfl,nofun,rfl,rfl,rfl,_,rfl,rfl,rfl,aI.of_eq rfl⟩,trivial⟩ ?_
  conv=>whnf
  refine⟨(sR rfl),rfl,?_⟩
  rintro j ⟨hj,Z5⟩
  conv=>whnf
  refine⟨fun h5=>?_,fun h5=>?_⟩
  ·have hj':j<PY.2.length:=by simpa using h5
   have hfj:=Nr (hfit (PY.2.getD j default) (by rw[getD_some hj']; exact List.getElem_mem hj'))
   conv=>whnf
   refine .mk (by simp only[Rw.rng] at *; first|omega|(simp_all; done)|(simp_all; omega)) ?_
   conv=>whnf
   refine ah.pure (S.iQ b (PY.2.getD j default) f (by omega) hs.E (by omega)) rfl ?_
   conv=>whnf
   refine⟨fun h6=>?_,fun h6=>?_⟩
   ·replace h6:(!O4 b (PY.2.getD j default))=true:=h6
    conv=>whnf
    refine aj.bool ?_
    rw[<- hres,hR]
    refine hnot ?_
    rw[hpo,h4',Bool.true_and]
    exact IV hj' (by simpa using h6)
   ·replace h6:(!O4 b (PY.2.getD j default))=false:=h6
    conv=>whnf
    refine .mk (by simp only[okI] at *; first|omega|(simp_all; done)|(simp_all; omega)) ?_
    conv=>whnf
    refine⟨j+1,[0,1],⟨hj',by rw[FD (d:=default) hj',Z5,show O4 b (PY.2.getD j default)=true by simpa using h6]; rfl⟩,by omega,(sR rfl),(sR rfl),⟨rfl,nofun,rfl,rfl,rfl,_,rfl,rfl,rfl,aI.of_eq rfl⟩,⟨rfl,nofun,rfl,rfl,rfl,_,rfl,rfl,rfl,aI.of_eq rfl⟩,trivial⟩
  ·have hj':j=PY.2.length:=by have:=of_decide_eq_false h5; omega
   subst hj'
   rw[List.take_length] at Z5
   conv=>whnf
   refine .mk (by simp only[okI] at *; first|omega|(simp_all; done)|(simp_all; omega)) ?_
   conv=>whnf
   refine⟨k+1,[0,1],⟨hk',by rw[hnx,hall,hpo,h4',Z5]; rfl⟩,by omega,(sR rfl),(sR rfl),⟨rfl,nofun,rfl,rfl,rfl,_,rfl,rfl,rfl,aI.of_eq rfl⟩,⟨rfl,nofun,rfl,rfl,rfl,_,rfl,rfl,rfl,aI.of_eq rfl⟩,trivial⟩
 ·have hk':k=b.length:=by have:=of_decide_eq_false h3; omega
  subst hk'
  rw[List.take_length] at hall
  conv=>whnf
  exact aj.bool (by rw[<- hres,hR,hall])
def FH(p:aP)(q:Prop')(x:Elem):Bool:= !(nR p x)&& !(En p q x)
def Xw(p:aP)(q:Prop')(b:List Elem):Bool:=(fU p q==0)&&decide (b.length<=100)&&b.all (FH p q)&&(kT p q).all (O4 b)&&(List.range p.rules.length).all fun i:Nat=>Kw p q b i
set_option maxHeartbeats 1000000 in
theorem S.lI(p:aP)(q:Prop')(b:List Elem)(f:Bool)(hp:fM p)(hq:uH q)(hl:b.length<2^30)(hs:DV b):ak Tryz.prog 14 [.dat (.iU p),.dat (.prop q),.row 3 f (.elems b)] (.bool (Xw p q b)):=by
 have hpr:=hp.rules
 generalize hres:Xw p q b=res
 refine ak.of Bd.lI (by simp) rfl rfl ?_
 conv=>whnf
 refine ah.pure (S.nV p q hp hq) rfl ?_
 conv=>whnf
 repeat(refine VC.mk (by first|exact id|(intro h; rw[h]; rfl)) ?_; conv=>whnf)
 refine⟨fun h1=>?_,fun h1=>?_⟩
 ·replace h1:(fU p q !=0||decide (100<(b.length:Int)))=true:=h1
  conv=>whnf
  refine aj.bool ?_
  rw[<- hres]; unfold Xw
  rw[Bool.or_eq_true] at h1
  rcases h1 with h1|h1
  ·rw[show(fU p q==0)=false by simpa using h1]; rfl
  ·have:=of_decide_eq_true h1
   rw[decide_eq_false (by omega: ¬ b.length<=100),Bool.and_false]; rfl
 replace h1:(fU p q !=0||decide (100<(b.length:Int)))=false:=h1
 rw[Bool.or_eq_false_iff] at h1
 obtain⟨h1,h1b⟩:=h1
 have hlen:=of_decide_eq_false h1b
 have h1':(fU p q==0)=true:=by simpa using h1
 have hc0:fU p q=0:=by simpa using h1
 have hB:Xw p q b=(b.all (FH p q)&&(kT p q).all (O4 b)&&(List.range p.rules.length).all fun i:Nat=>Kw p q b i):=by
  unfold Xw; rw[h1',decide_eq_true (by omega:b.length<=100)]; simp
 obtain⟨_,b2,b3,_⟩:=Nw hc0
 have hv:=Nu b3
 have v1:=hv.pos; have v2:=hv.states; have v3:=hv.values
 have hbad:kT p q=bF (vU q p.states.length (max 1 p.values.length) (4 ^ p.states.length)):=by rw[kT,h1,bad_law]; rfl
 obtain⟨l1,l2⟩:=Hf p q hp
 conv=>whnf
 refine aG.objs 4 [21,22,2,3,4] (fun k:Nat=>[(23,.int k)]) (fun _=>[(0,KN p),(1,OI q)]) (fun k=>k<=b.length/\(b.take k).all (FH p q)=true) (fun k=>b.length-k) 0 [0,1] rfl (by decide) (fun _=>rfl) ⟨Nat.zero_le _,rfl⟩ (sR rfl) ⟨⟨rfl,nofun,rfl,rfl,rfl,_,rfl,rfl,rfl,aI.of_eq rfl⟩,⟨rfl,nofun,rfl,rfl,rfl,_,rfl,rfl,rfl,aI.of_eq rfl⟩,trivial⟩ ?_
 conv=>whnf
 refine⟨(sR rfl),rfl,?_⟩
 rintro k ⟨hk,hall⟩
 conv=>whnf
 refine⟨fun h3=>?_,fun h3=>?_⟩
 ·have hk':k<b.length:=by simpa using h3
  have hnx:=FD (P:=FH p q) (d:=default) hk'
  have hnot:=fun h=>IV (P:=FH p q) (d:=default) hk' h
  have hle:=hs.at hk'
  generalize hX:b.getD k default=X at hnx hnot hle
  conv=>whnf
  refine .mk (by simp only[Rw.rng] at *; first|omega|(simp_all; done)|(simp_all; omega)) ?_
  conv=>whnf
  rw[show b.getD ((k:Int)).toNat default=X from hX]
  refine ah.pure (S.fF p X hp hle) rfl ?_
  conv=>whnf
  refine .mk (by intro h; simp[h]; done) ?_
  conv=>whnf
  refine ah.gJ (fun _=>S.mW p q X hp hq hle (Di hc0)) rfl ?_
  conv=>whnf
  refine .mk (by intro h; rw[h]; rfl) ?_
  conv=>whnf
  refine⟨fun h4=>?_,fun h4=>?_⟩
  ·replace h4:(dM (nR p X) 1 !=0||En p q X)=true:=h4
   conv=>whnf
   refine aj.bool ?_
   rw[<- hres,hB]
   have:FH p q X=false:=by
    unfold FH
    rw[BU] at h4
    rw[<- Bool.not_or,h4]; rfl
   rw[hnot this]; rfl
  ·replace h4:(dM (nR p X) 1 !=0||En p q X)=false:=h4
   conv=>whnf
   refine .mk (by simp only[okI] at *; first|omega|(simp_all; done)|(simp_all; omega)) ?_
   conv=>whnf
   have:FH p q X=true:=by
    unfold FH
    rw[BU] at h4
    rw[<- Bool.not_or,h4]; rfl
   exact⟨k+1,[0,1],⟨hk',by rw[hnx,hall,this]; rfl⟩,by omega,(sR rfl),(sR rfl),⟨rfl,nofun,rfl,rfl,rfl,_,rfl,rfl,rfl,aI.of_eq rfl⟩,⟨rfl,nofun,rfl,rfl,rfl,_,rfl,rfl,rfl,aI.of_eq rfl⟩,trivial⟩
 have hk':k=b.length:=by have:=of_decide_eq_false h3; omega
 subst hk'
 rw[List.take_length] at hall
 rw[hall,Bool.true_and] at hB
 clear h3
 conv=>whnf
 refine ah.pure (S.iY p q p.states.length (max 1 p.values.length) hp hq rfl v1 v2 rfl (by omega) b2) rfl ?_
 conv=>whnf
 rw[<- hbad]
 refine aG.objs 4 [40,41,2,3,4] (fun k:Nat=>[(42,.int k)]) (fun _=>[(0,KN p),(1,OI q)]) (fun k=>k<=(kT p q).length/\((kT p q).take k).all (O4 b)=true) (fun k=>(kT p q).length-k) 0 [0,1] rfl (by decide) (fun _=>rfl) ⟨Nat.zero_le _,rfl⟩ (sR rfl) ⟨⟨rfl,nofun,rfl,rfl,rfl,_,rfl,rfl,rfl,aI.of_eq rfl⟩,⟨rfl,nofun,rfl,rfl,rfl,_,rfl,rfl,rfl,aI.of_eq rfl⟩,trivial⟩ ?_
 conv=>whnf
 refine⟨(sR rfl),rfl,?_⟩
 rintro k ⟨hk,Z7⟩
 conv=>whnf
 refine⟨fun h3=>?_,fun h3=>?_⟩
 ·have hk':k<(kT p q).length:=by simpa using h3
  have hle:=l2 ((kT p q).getD k default) (by rw[getD_some hk']; exact List.getElem_mem hk')
  conv=>whnf
  refine .mk (by simp only[Rw.rng] at *; first|omega|(simp_all; done)|(simp_all; omega)) ?_
  conv=>whnf
  refine ah.pure (S.iQ b ((kT p q).getD k default) f (by omega) hs.E hle) rfl ?_
  conv=>whnf
  refine⟨fun h6=>?_,fun h6=>?_⟩
  ·replace h6:(!O4 b ((kT p q).getD k default))=true:=h6
   conv=>whnf
   refine aj.bool ?_
   rw[<- hres,hB,IV (P:=O4 b) hk' (by simpa using h6)]; rfl
  ·replace h6:(!O4 b ((kT p q).getD k default))=false:=h6
   conv=>whnf
   refine .mk (by simp only[okI] at *; first|omega|(simp_all; done)|(simp_all; omega)) ?_
   conv=>whnf
   exact⟨k+1,[0,1],⟨hk',by rw[FD (d:=default) hk',Z7,show O4 b ((kT p q).getD k default)=true by simpa using h6]; rfl⟩,by omega,(sR rfl),(sR rfl),⟨rfl,nofun,rfl,rfl,rfl,_,rfl,rfl,rfl,aI.of_eq rfl⟩,⟨rfl,nofun,rfl,rfl,rfl,_,rfl,rfl,rfl,aI.of_eq rfl⟩,trivial⟩
 have hk':k=(kT p q).length:=by have:=of_decide_eq_false h3; omega
 subst hk'
 rw[List.take_length] at Z7
 rw[Z7,Bool.true_and] at hB
 clear h3
 conv=>whnf
 refine aG.objs 4 [53,2,3,4] (fun k:Nat=>[(54,.int k)]) (fun _=>[(0,KN p),(1,OI q)]) (fun k=>k<=p.rules.length/\((List.range k).all fun i:Nat=>Kw p q b i)=true) (fun k=>p.rules.length-k) 0 [0,1] rfl (by decide) (fun _=>rfl) ⟨Nat.zero_le _,rfl⟩ (sR rfl) ⟨⟨rfl,nofun,rfl,rfl,rfl,_,rfl,rfl,rfl,aI.of_eq rfl⟩,⟨rfl,nofun,rfl,rfl,rfl,_,rfl,rfl,rfl,aI.of_eq rfl⟩,trivial⟩ ?_
 conv=>whnf
 refine⟨(sR rfl),rfl,?_⟩
 rintro k ⟨hk,acK⟩
 conv=>whnf
 refine⟨fun h3=>?_,fun h3=>?_⟩
 ·have hk':k<p.rules.length:=by simpa using h3
  conv=>whnf
  refine ah.pure (S.mQ p q b k f hp hq hl hs) rfl ?_
  conv=>whnf
  refine⟨fun h6=>?_,fun h6=>?_⟩
  ·replace h6:(!Kw p q b k)=true:=h6
   conv=>whnf
   refine aj.bool ?_
   rw[<- hres,hB]
   rw[List.all_eq_false]
   exact⟨k,List.mem_range.2 hk',by simpa using h6⟩
  ·replace h6:(!Kw p q b k)=false:=h6
   conv=>whnf
   refine .mk (by simp only[okI] at *; first|omega|(simp_all; done)|(simp_all; omega)) ?_
   conv=>whnf
   exact⟨k+1,[0,1],⟨hk',by rw[List.range_succ,List.all_append,acK]; simpa using h6⟩,by omega,(sR rfl),(sR rfl),⟨rfl,nofun,rfl,rfl,rfl,_,rfl,rfl,rfl,aI.of_eq rfl⟩,⟨rfl,nofun,rfl,rfl,rfl,_,rfl,rfl,rfl,aI.of_eq rfl⟩,trivial⟩
 ·have hk':k=p.rules.length:=by have:=of_decide_eq_false h3; omega
  subst hk'
  conv=>whnf
  exact aj.bool (by rw[<- hres,hB,acK])
end Go.Proofs.YtkmldgihhaooaaaGreatDoor
