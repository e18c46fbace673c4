/-
 What is before a step with a rule: the program's answer. No condition.
-/
import Derived.Test.YtkmldgihhaooaaaGreatDoorQb
import Derived.Test.YtkmldgihhaooaaaGreatDoorFa
namespace Go.Proofs.YtkmldgihhaooaaaGreatDoor
open Go.Ab Go.Proofs
set_option maxRecDepth 100000
def oI(vs:List Int)(cs:List (List Int))(i j:Nat):List Elem:=((vs.take i).flatMap fun v=>cs.map fun c=>(⟨v,c⟩:Elem))++(cs.take j).map fun c=>⟨vs.getD i 0,c⟩
theorem MQ{vs:List Int}{cs:List (List Int)}{i j:Nat}(hi:i<=vs.length)(hj:j<=cs.length):(oI vs cs i j).length=i*cs.length+j:=by
 have: ∀ L:List Int,(L.flatMap fun v=>cs.map fun c=>(⟨v,c⟩:Elem)).length=L.length*cs.length:=by
  intro L;induction L with
  |nil=>simp
  |cons c L ih=>rw[List.flatMap_cons,List.length_append,ih,List.length_map,List.length_cons,Nat.succ_mul,Nat.add_comm]
 unfold oI;rw[List.length_append,this,List.length_map,List.length_take,List.length_take,Nat.min_eq_left hi,Nat.min_eq_left hj]
theorem O7{vs:List Int}{cs:List (List Int)}{i j:Nat}(hj:j<cs.length):oI vs cs i (j+1)=oI vs cs i j++[⟨vs.getD i 0,cs.getD j []⟩]:=by
 unfold oI;rw[List.take_succ_eq_append_getElem hj,List.map_append,<- List.append_assoc,getD_some hj]; rfl
theorem O8{vs:List Int}{cs:List (List Int)}{i:Nat}(hi:i<vs.length):oI vs cs (i+1) 0=oI vs cs i cs.length:=by
 unfold oI;rw[List.take_succ_eq_append_getElem hi,List.flatMap_append,List.take_length,getD_some hi];simp
theorem MR{vs:List Int}{cs:List (List Int)}:oI vs cs vs.length 0=vs.flatMap fun v=>cs.map fun c=>⟨v,c⟩:=by
 unfold oI;rw[List.take_length]; simp
theorem Ub{vs:List Int}{cs:List (List Int)}{i j:Nat}{x:Elem}(h:x∈oI vs cs i j):x.counts∈cs:=by
 unfold oI at h;rcases List.mem_append.1 h with h|h
 ·obtain⟨v,_,h⟩:=List.mem_flatMap.1 h;obtain⟨c,hc,rfl⟩:=List.mem_map.1 h;exact hc
 ·obtain⟨c,hc,rfl⟩:=List.mem_map.1 h;exact List.mem_of_mem_take hc
def ab6(x:Elem):Bool:= !(x.counts.all AU)
def MS(x:Int×List Elem):V:=.dW [.row 3 false (.elems x.2),.int x.1]
theorem Az{r:Rule}{c:List Int}(hp:oW c.length r)(h0:NM c)(hl:c.length<=6): ∀ l∈tZ r c,l.length=c.length:=by
 intro l hl';obtain⟨d,hd,rfl⟩:=List.mem_map.1 hl';rw[iU];exact(MO hp h0 hl d hd).1
set_option maxHeartbeats 2000000 in
theorem S.qp(p:aI)(r:Rule)(e:Elem)(hv:p.values.length<2^20)(hr:vG r)(hp:oW e.counts.length r)(h0:NM e.counts)(hl0:0<e.counts.length)(hl:e.counts.length<=6)(hx:r.ex.length<=100)(hk:r.kind=1\/r.kind=2\/r.kind=3):ak Tryz.prog 52 [.dat (.fV p),.dat (.rule r),.dat (.elem e)] (MS (pO p r e)):=by
 rw[<- ael];generalize hres:MS (aek p r e)=res;have hvl:(kL p r e.value).length<2^21:=by
  unfold kL;cases decide (0<=r.write)&&r.write !=e.value
  ·cases decide (r.write<0)&&(decide (0<=r.read)&&r.read !=e.value)
   ·cases decide (0<=r.read)
    ·cases decide (r.write<0)
     ·show((List.range _).map _).length<_;rw[List.length_map,List.length_range]; omega
     ·exact(by decide:(1:Nat)<2^21)
    ·exact(by decide:(1:Nat)<2^21)
   ·exact(by decide:(0:Nat)<2^21)
  ·exact(by decide:(0:Nat)<2^21)
 have hcl:=Az hp h0 hl;refine ak.of Bd.qp (by simp) rfl (by rw[<- hres]; rfl) ?_;refine ah.pure (S.ku p r e.value hv) rfl ?_;conv=>whnf
 have hC:aek p r e=bif (kL p r e.value).length==0 then(0,[]) else bif decide (100<(tZ r e.counts).length)||decide (100<(tZ r e.counts).length*(kL p r e.value).length) then(4,[]) else
  bif (oI (kL p r e.value) (tZ r e.counts) (kL p r e.value).length 0).any ab6 then(4,[]) else(0,aK (oI (kL p r e.value) (tZ r e.counts) (kL p r e.value).length 0)):=by rw[MR]; rfl
 have hS:=S.kC r e.counts false hr hp h0 hl0 hl hx hk;generalize hvs:kL p r e.value=vs at hC hvl ⊢;generalize hcs:tZ r e.counts=cs at hC hcl;refine⟨fun h1=>?_,fun h1=>?_⟩
 ·conv=>whnf
  have h1':(vs.length==0)=true:=by
   have:((vs.length:Int)==0)=true:=h1
   simpa using this
  rw[<- hres,hC,h1'];exact aj.y8
 have h1':(vs.length==0)=false:=by
  have:((vs.length:Int)==0)=false:=h1
  simpa using this
 rw[h1',cond_false] at hC;refine ah.pure hS O6 ?_;unfold MN;rw[hcs];cases h2:decide (cs.length<=100) with
 |false =>
  have h2':=of_decide_eq_false h2;rw[decide_eq_true (by omega:100<cs.length),Bool.true_or,cond_true] at hC;repeat(refine VC.mk (by first|exact id|(intro h; rw[h]; rfl)|(intro h; simp_all; done)) ?_)
  refine Fork.mk (fun _=>?_) (fun q=>absurd (q.symm.trans (rfl)) Bool.false_ne_true);conv=>whnf
  rw[<- hres,hC];exact aj.y8
 |true =>
  have h2':=of_decide_eq_true h2;rw[decide_eq_false (by omega: ¬ 100<cs.length),Bool.false_or] at hC;have hmul:cs.length*vs.length<=100*2^21:=Nat.mul_le_mul h2' (Nat.le_of_lt hvl);repeat(refine VC.mk (by first|(intro _; refine⟨rfl,rfl,?_⟩; show okI ((cs.length:Int)*(vs.length:Int)); rw[<- Int.natCast_mul]; simp only[okI]; omega)|exact fun h=>h|(intro h; rw[h]; rfl)) ?_)
  refine⟨fun h3=>?_,fun h3=>?_⟩
  ·have h3':100<cs.length*vs.length:=by
    replace h3:decide (100<(cs.length:Int)*(vs.length:Int))=true:=h3;have:=of_decide_eq_true h3;rw[<- Int.natCast_mul] at this;omega
   rw[decide_eq_true h3',cond_true] at hC;conv=>whnf
   rw[<- hres,hC];exact aj.y8
  have h3':cs.length*vs.length<=100:=by
   replace h3:decide (100<(cs.length:Int)*(vs.length:Int))=false:=h3;have:=of_decide_eq_false h3;rw[<- Int.natCast_mul] at this;omega
  rw[decide_eq_false (by omega: ¬ 100<cs.length*vs.length),cond_false] at hC;rw[Nat.mul_comm] at h3';refine aA.nil 11 35 3 (by rfl) rfl rfl rfl ?_;refine aA.objs 3 [41,42,9] (fun i:Nat=>[(43,.int i),(11,.own 2)]) (fun i=>[(2,aZ (oI vs cs i 0))]) (fun i=>i<=vs.length/\(oI vs cs i 0).any ab6=false) (fun i=>vs.length-i) 0 [37] rfl (by decide) (fun _=>rfl) ⟨Nat.zero_le _,rfl⟩ (sR rfl) ⟨dL rfl rfl,trivial⟩ ?_;refine⟨(sR rfl),rfl,?_⟩;rintro i ⟨hi,hno⟩;have hN0:=MQ hi (Nat.zero_le cs.length);have hN0':i*cs.length<=100:=Nat.le_trans (Nat.mul_le_mul_right _ hi) h3';refine⟨fun h4=>?_,fun h4=>?_⟩
  ·have hi':i<vs.length:=by simpa using h4
   refine .mk (by simp only[Rw.rng] at *; omega) ?_;refine aA.KG 3 [47,48,13,41,42,43,9] (fun j:Nat=>[(49,.int j),(11,.own 2)]) (fun j=>[(2,aZ (oI vs cs i j))]) (fun j=>j<=cs.length/\(oI vs cs i j).any ab6=false) (fun j=>cs.length-j) 0 [2] [(2,some (aZ (oI vs cs i 0)))] rfl (by decide) (fun _=>rfl) ⟨Nat.zero_le _,hno⟩ (sR rfl) ⟨fun _=>False,dM (Z:=fun _=>False) rfl (fun q=>q),trivial⟩ ⟨FH rfl rfl,trivial⟩ ?_;refine⟨(sR rfl),rfl,?_⟩;rintro j ⟨hj,agk⟩;have hNj:=MQ hi hj;have agi:i*cs.length+j<=100:=by
    have:=Nat.mul_le_mul_right cs.length hi';rw[Nat.succ_mul] at this;omega
   refine⟨fun h5=>?_,fun h5=>?_⟩
   ·have hj':j<cs.length:=by simpa using h5
    have hst:=O7 (vs:=vs) (i:=i) hj';have hcj:=hcl (cs.getD j []) (by rw[getD_some hj']; exact List.getElem_mem hj');replace hcj:(cs.getD ((j:Int)).toNat []).length=e.counts.length:=hcj;repeat(refine VC.mk (by first|(first|(simp only[jH,jP,Rw.len]; omega)|(show((oI vs cs i j).length+(0+1))*32<=140737488355328/\(oI vs cs i j).length+(0+1)<=1152921504606846976; omega))|(simp only[Rw.rng] at *; omega)) ?_)
    refine ah.pure (S.lq (cs.getD j []) false (by show(cs.getD ((j:Int)).toNat []).length<_; omega)) rfl ?_;refine⟨fun h6=>?_,fun h6=>?_⟩
    ·conv=>whnf
     have hb:(oI vs cs vs.length 0).any ab6=true:=by
      rw[List.any_eq_true];refine⟨⟨vs.getD i 0,cs.getD j []⟩,?_,h6⟩;rw[MR];exact List.mem_flatMap.2 ⟨vs.getD i 0,by rw[getD_some hi']; exact List.getElem_mem hi',List.mem_map.2 ⟨cs.getD j [],by rw[getD_some hj']; exact List.getElem_mem hj',rfl⟩⟩
     rw[hb,cond_true] at hC;rw[<- hres,hC];exact aj.y8
    ·conv=>whnf
     refine .mk (by simp only[okI] at *; omega) ?_;refine⟨[(13,some (aZ (oI vs cs i j++[⟨vs.getD i 0,cs.getD j []⟩])))],j+1,[13],⟨fun i=>i=10,KF (Z:=fun i=>i=10) (i:=13) (j:=10) rfl (by decide) rfl rfl,trivial⟩,⟨hj',?_⟩,by omega,(sR rfl),(sR rfl),okF rfl nofun rfl rfl rfl ⟨rfl,rfl⟩ (by rw[hst]),trivial⟩;rw[hst,List.any_append,agk];show(ab6 _||false)=false;rw[Bool.or_false];exact h6
   ·have hj':j=cs.length:=by have:=of_decide_eq_false h5; omega
    subst hj';rw[<- O8 hi'] at agk ⊢;refine .mk (by simp only[okI] at *; omega) ?_;exact⟨i+1,[2],⟨hi',agk⟩,by omega,(sR rfl),(sR rfl),dL rfl rfl,trivial⟩
  ·have hi':i=vs.length:=by have:=of_decide_eq_false h4; omega
   subst hi';rw[hno,cond_false] at hC;rw[<- hres,hC];refine ah.shut (fun _=>True) (h2:=[]) trivial (S.lM (oI vs cs vs.length 0) false (by omega) (fun x hx=>by have:=hcl _ (Ub hx); omega)) ⟨BP trivial rfl,trivial⟩ ?_;exact aj.eqv rfl
theorem aep: ∀ {l:List Int},Hq l=true->l.Pairwise (· < ·):=by
 intro l;induction l with
 |nil=>intro _; exact .nil
 |cons a r ih =>
  intro h;cases r with
  |nil=>exact List.pairwise_singleton ..
  |cons b r =>
   simp only[Hq,Bool.and_eq_true,decide_eq_true_eq] at h;have h2:=ih h.2;refine List.pairwise_cons.2 ⟨fun x hx=>?_,h2⟩;rcases List.mem_cons.1 hx with rfl|hx
   ·exact h.1
   ·have:=(List.pairwise_cons.1 h2).1 x hx; omega
theorem agl{n:Int}: ∀ {l:List Int} {k:Int},l.Pairwise (· < ·)->(∀ x∈l,k<=x/\x<n)->k<=n->k+l.length<=n:=by
 intro l;induction l with
 |nil=>intro k _ _ h; simp; exact h
 |cons a r ih =>
  intro k hp hx hk;have ha:=hx a (by simp);have:=ih (k:=a+1) (List.pairwise_cons.1 hp).2 (fun x h=>⟨(List.pairwise_cons.1 hp).1 x h,(hx x (by simp[h])).2⟩) (by omega);rw[List.length_cons]; omega
theorem aer{l:List Int}{n:Int}(h:iZ l n=0):Hq l=true:=by
 unfold iZ at h;obtain⟨_,h⟩:=bz (fun _=>by decide) h;cases hb:Hq l with
 |true=>rfl
 |false=>rw[hb] at h; exact absurd h (by decide)
structure ae9(n:Nat)(p:aI)(r:Rule):Prop where
 rf:aag n p r
 nd:r.ex.Nodup
 xl:r.ex.length<=n
theorem Ju{p:aI}{i:Nat}(hv:Pq p)(ht:p.topology=1)(hi:i<p.rules.length):ae9 p.states.length p (p.rules.getD i default):=by
 have hf:=YtkmldgihhaooaaaGreatDoor.agF hv ht hi
 suffices hh:(p.rules.getD i default).ex.Nodup/\(p.rules.getD i default).ex.length<=p.states.length from⟨hf,hh.1,hh.2⟩
 by_cases hk:(p.rules.getD i default).kind=1
 ·have h:=hv.rule i hi;simp only[gX] at h;obtain⟨_,h⟩:=bz (fun _=>by decide) h;obtain⟨_,h⟩:=bz (fun _=>by decide) h;obtain⟨_,h⟩:=bz nz h;rw[hk] at h;have g:=lg h;have hs:=aep (aer (g (iZ (p.rules.getD i default).ex p.states.length) (by simp)));refine⟨hs.imp fun h=>by omega,?_⟩;have:=agl (k:=0) hs (fun x hx=>hf.place.exs x hx) (by omega);omega
 ·rw[(hf.ex1 hk).1];exact⟨List.nodup_nil,Nat.zero_le _⟩
theorem Bh.Ju{p:aI}{e:Elem}(h:Bh p e){r:Rule}(hr:r∈p.rules):ae9 e.counts.length p r:=by
 obtain⟨i,hi,rfl⟩:=List.getElem_of_mem hr;have:=YtkmldgihhaooaaaGreatDoor.Ju h.valid (X5 h.plain) hi;rw[getD_some hi] at this;rw[h.len]; exact this
theorem Uc{n:Nat}{p:aI}{r:Rule}{v:Int}(hr:aag n p r)(hv:0<=v/\v<max 1 (p.values.length:Int)): ∀ u∈kL p r v,0<=u/\u<max 1 (p.values.length:Int):=by
 have ho: ∀ x:Int,pR x p.values.length=false->0<=x/\x<max 1 (p.values.length:Int):=fun x h=>by
  have:=vT h;omega
 intro u hu;unfold kL at hu;cases h1:decide (0<=r.write)&&r.write !=v with
 |true=>rw[h1] at hu; cases hu
 |false =>
  rw[h1,cond_false] at hu;cases h2:decide (r.write<0)&&(decide (0<=r.read)&&r.read !=v) with
  |true=>rw[h2] at hu; cases hu
  |false =>
   rw[h2,cond_false] at hu;cases h3:decide (0<=r.read) with
   |true =>
    rw[h3,cond_true,List.mem_singleton] at hu;subst hu;have:=of_decide_eq_true h3;rcases hr.rd with h|h
    ·exact ho _ h
    ·omega
   |false =>
    rw[h3,cond_false] at hu;cases h4:decide (r.write<0) with
    |true=>rw[h4,cond_true,List.mem_singleton] at hu; subst hu; exact hv
    |false =>
     rw[h4,cond_false,List.mem_map] at hu;obtain⟨x,hx,rfl⟩:=hu;have:=List.mem_range.1 hx;omega
theorem Ud{p:aI}{r:Rule}{e:Elem}:(pO p r e).1=0\/(pO p r e).1=4:=by
 unfold pO;cases decide (100<(pI p r e).length)||(pI p r e).any fun x=> !(x.counts.all AU)
 ·exact .inl rfl
 ·exact .inr rfl
theorem Hr{p:aI}{r:Rule}{e:Elem}:(pO p r e).2.length<=100:=by
 unfold pO;cases h:decide (100<(pI p r e).length)||(pI p r e).any fun x=> !(x.counts.all AU) with
 |true=>exact Nat.zero_le _
 |false =>
  rw[Bool.or_eq_false_iff] at h;have:=of_decide_eq_false h.1;exact Nat.le_trans (uy _) (by omega)
theorem Ue{p:aI}{r:Rule}{e x:Elem}(hF:Bh p e)(hr:r∈p.rules)(h:x∈(pO p r e).2):lH p x=false:=by
 have hX:=hF.Ju hr;have h6:=hF.valid.states;have hl:=hF.len;unfold pO at h;cases hb:decide (100<(pI p r e).length)||(pI p r e).any fun x=> !(x.counts.all AU) with
 |true=>rw[hb] at h; cases h
 |false =>
  rw[hb,cond_false] at h;rw[Bool.or_eq_false_iff] at hb;have h:=mX h;obtain⟨h1,h2⟩:=J9.1 h;have h3:=Uc hX.rf hF.val _ h1;have h4:=Az hX.rf.place hF.nums (by omega) _ h2;have h5:=List.any_eq_false.1 hb.2 x h;unfold lH;rw[show((x.counts.length:Int) !=p.states.length)=false by simp; omega,show decide (x.value<0)=false by simp; omega,show decide (x.value>=max 1 (p.values.length:Int))=false by simp only[decide_eq_false_iff_not]; omega];simpa using h5
theorem MV{p:aI}{e x:Elem}(hF:Bh p e)(h:lH p x=false):Bh p x:=by
 unfold lH at h;simp only[Bool.or_eq_false_iff] at h;obtain⟨⟨⟨h1,h2⟩,h3⟩,h4⟩:=h;have h1':(x.counts.length:Int)=p.states.length:=by simpa using h1
 refine⟨hF.valid,hF.plain,by omega,fun y hy=>?_,?_⟩
 ·have:x.counts.all AU=true:=by simpa using h2
  have:=List.all_eq_true.1 this y hy;unfold AU at this;simpa using this
 ·have:=of_decide_eq_false h3;have:=of_decide_eq_false h4;omega
def FK(p:aI):Int:=bif bI p !=0 then bI p else bif (kT p).cover then 0 else 7
theorem QA{p:aI}{e:Elem}(h1:FK p=0)(h2:lH p e=false):Bh p e:=by
 unfold FK at h1;obtain⟨h0,h1⟩:=bz nz h1;have hv:bI p=0:=by simpa using h0
 refine ahD (UR hv ?_ h2);cases hc:(kT p).cover with
 |true=>rfl
 |false=>rw[hc] at h1; exact absurd h1 (by decide)
theorem S.mG(p:aI)(hp:eU p):ak Tryz.prog 51 [.dat (.fV p)] (.int (FK p)):=by
 refine ak.of Bd.mG (by simp) rfl rfl ?_;refine ah.pure (S.jr p hp) rfl ?_;repeat(refine VC.mk id ?_)
 refine⟨fun h1=>?_,fun h1=>?_⟩
 ·replace h1:((bI p==0)&& !(bif bI p !=0 then QZ else kT p).cover)=true:=h1;refine aj.int ?_;rw[Bool.and_eq_true] at h1;have hv:(bI p !=0)=false:=by simpa using h1.1
  rw[hv] at h1;unfold FK;rw[hv,show(kT p).cover=false by simpa using h1.2]; rfl
 ·replace h1:((bI p==0)&& !(bif bI p !=0 then QZ else kT p).cover)=false:=h1;refine aj.int ?_;unfold FK;cases hv:(bI p !=0) with
  |true=>rfl
  |false =>
   have hz:bI p=0:=by simpa using hv
   rw[hv,hz] at h1;rw[cond_false,hz]
   have:(kT p).cover=true:=by simpa using h1
   rw[this]; rfl
def QS(p:aI)(i:Int)(e:Elem):Int×List Elem:=bif FK p !=0 then(FK p,[]) else bif lH p e then(1,[]) else bif decide (i<0)||decide (i>=p.rules.length) then(6,[]) else pO p (p.rules.getD i.toNat default) e
theorem Kr{b:Bool}:(dQ b 1 !=0)=b:=by cases b<;>rfl
theorem agm{b:Bool}(h:(dQ b 1 !=0)=true):dQ b 1=1:=by cases b<;>first|rfl|cases h
set_option maxHeartbeats 1000000 in
theorem S.qP(p:aI)(i:Int)(e:Elem)(hp:eU p)(he:e.counts.length<2^30):ak Tryz.prog 20 [.dat (.fV p),.int i,.dat (.elem e)] (MS (QS p i e)):=by
 have hpr:=hp.rules;generalize hres:MS (QS p i e)=res;refine ak.of Bd.qP (by simp) rfl (by rw[<- hres]; rfl) ?_;refine ah.pure (S.mG p hp) rfl ?_;refine⟨fun h1=>?_,fun h1=>?_⟩
 ·conv=>whnf
  rw[<- hres,QS,h1];exact aj.y8
 refine ah.pure (S.iV p e hp he) rfl ?_;refine⟨fun h2=>?_,fun h2=>?_⟩
 ·replace h2:(dQ (lH p e) 1 !=0)=true:=h2;conv=>whnf
  rw[agm h2];rw[Kr] at h2;rw[<- hres,QS,h1,h2];exact aj.y8
 replace h2:(dQ (lH p e) 1 !=0)=false:=h2;rw[Kr] at h2;have hF:=QA (BD h1) h2;have h6:=hF.valid.states;have h0:=hF.valid.pos;have hl:=hF.len;repeat(refine VC.mk (by first|exact id|exact fun h=>⟨h,h⟩|(intro h; rw[h]; rfl)) ?_)
 refine⟨fun h3=>?_,fun h3=>?_⟩
 ·replace h3:(decide (i<0)||decide (i>=p.rules.length))=true:=h3;conv=>whnf
  rw[<- hres,QS,h1,h2,h3];exact aj.y8
 ·replace h3:(decide (i<0)||decide (i>=p.rules.length))=false:=h3;have h3':=h3;simp only[Bool.or_eq_false_iff,decide_eq_false_iff_not] at h3';have hi:i.toNat<p.rules.length:=by omega
  have hX:=hF.Ju (r:=p.rules.getD i.toNat default) (by rw[getD_some hi]; exact List.getElem_mem hi);refine .mk (by simp only[Rw.rng]; omega) ?_;refine ah.pure (S.qp p (p.rules.getD i.toNat default) e hp.values (hp.rule _) hX.rf.place hF.nums (by omega) (by omega) (by have:=hX.xl; omega) hX.rf.kind) rfl ?_;conv=>whnf
  rw[<- hres,QS,h1,h2,h3];exact aj.eqv rfl
def iw(p:aI)(e:Elem)(i:Nat):List Elem:=(p.rules.take i).flatMap fun r=>(pO p r e).2
def jg(p:aI)(e:Elem):Int×List Elem:=bif p.rules.any (fun r=>(pO p r e).1 !=0) then(4,[]) else bif decide (100<(aK (iw p e p.rules.length)).length) then(4,[]) else(0,aK (iw p e p.rules.length))
theorem Jv{p:aI}{e:Elem}{i:Nat}(hi:i<p.rules.length):iw p e (i+1)=iw p e i++(pO p (p.rules.getD i default) e).2:=by
 unfold iw;rw[List.take_succ_eq_append_getElem hi,List.flatMap_append,getD_some hi]; simp
theorem MW{p:aI}{e:Elem}{i:Nat}:(iw p e i).length<=i*100:=by
 unfold iw
 have: ∀ L:List Rule,(L.flatMap fun r=>(pO p r e).2).length<=L.length*100:=by
  intro L;induction L with
  |nil=>simp
  |cons c L ih=>rw[List.flatMap_cons,List.length_append,List.length_cons,Nat.succ_mul]; have:=@Hr p c e; omega
 exact Nat.le_trans (this _) (Nat.mul_le_mul_right _ (by rw[List.length_take]; omega))
theorem Fb{p:aI}{e x:Elem}{i:Nat}(hF:Bh p e)(h:x∈iw p e i):lH p x=false:=by
 obtain⟨r,hr,h⟩:=List.mem_flatMap.1 h;exact Ue hF (List.mem_of_mem_take hr) h
theorem QB{p:aI}{x:Elem}(h:lH p x=false):x.counts.length=p.states.length:=by
 unfold lH at h;simp only[Bool.or_eq_false_iff] at h
 have:(x.counts.length:Int)=p.states.length:=by simpa using h.1.1.1
 omega
set_option maxHeartbeats 1000000 in
theorem S.wQ(p:aI)(e:Elem)(hp:eU p)(hF:Bh p e):ak Tryz.prog 54 [.dat (.fV p),.dat (.elem e)] (MS (jg p e)):=by
 have hpr:=hp.rules;have h6:=hF.valid.states;have h8:=hF.valid.aaf;have h0:=hF.valid.pos;have hl:=hF.len;generalize hres:MS (jg p e)=res;refine ak.of Bd.wQ (by simp) rfl (by rw[<- hres]; rfl) ?_;refine aA.nil 6 35 3 (by rfl) rfl rfl rfl ?_;refine aA.objs 3 [2,3,13,14] (fun i:Nat=>[(15,.int i),(6,.own 2)]) (fun i=>[(0,.box 27 11 (.dat (.fV p))),(1,.box 35 3 (.dat (.elem e))),(2,aZ (iw p e i))]) (fun i=>i<=p.rules.length/\(p.rules.take i).any (fun r=>(pO p r e).1 !=0)=false) (fun i=>p.rules.length-i) 0 [0,1,9] rfl (by decide) (fun _=>rfl) ⟨Nat.zero_le _,rfl⟩ (sR rfl) ⟨dL rfl rfl,dL rfl rfl,dL rfl rfl,trivial⟩ ?_;refine⟨(sR rfl),rfl,?_⟩;rintro i ⟨hi,hno⟩;have hpl:=MW (p:=p) (e:=e) (i:=i);refine⟨fun h1=>?_,fun h1=>?_⟩
 ·have hi':i<p.rules.length:=by simpa using h1
  have hst:=Jv (e:=e) hi';have hmem:p.rules.getD i default∈p.rules:=by rw[getD_some hi']; exact List.getElem_mem hi'
  have hX:=hF.Ju hmem;have hlen:=@Hr p (p.rules.getD i default) e;refine .mk (by simp only[Rw.rng] at *; omega) ?_;refine ah.pure (S.qp p (p.rules.getD i default) e hp.values (hp.rule _) hX.rf.place hF.nums (by omega) (by omega) (by have:=hX.xl; omega) hX.rf.kind) rfl ?_;have herr:=@Ud p (p.rules.getD i default) e;generalize hq:pO p (p.rules.getD i default) e=q at hst hlen herr;refine⟨fun h2=>?_,fun h2=>?_⟩
  ·replace h2:(q.1 !=0)=true:=h2;conv=>whnf
   have h4:q.1=4:=by
    rcases herr with h|h
    ·rw[h] at h2; cases h2
    ·exact h
   have hany:p.rules.any (fun r=>(pO p r e).1 !=0)=true:=List.any_eq_true.2 ⟨_,hmem,by rw[hq]; exact h2⟩;rw[<- hres,jg,hany,h4];exact aj.y8
  ·replace h2:(q.1 !=0)=false:=h2;repeat(refine VC.mk (by first|(show((iw p e i).length+q.2.length)*32<=140737488355328/\(iw p e i).length+q.2.length<=1152921504606846976; omega)|(simp only[okI] at *; omega)) ?_)
   refine⟨i+1,[0,1,21],⟨hi',?_⟩,by omega,(sR rfl),(sR rfl),dL rfl rfl,dL rfl rfl,⟨rfl,nofun,rfl,rfl,rfl,_,rfl,rfl,rfl,dP.of_eq (by rw[hst])⟩,trivial⟩;rw[List.take_succ_eq_append_getElem hi',List.any_append,hno,Bool.false_or,<- getD_some (d:=default) hi'];show((pO p (p.rules.getD i default) e).1 !=0||false)=false;rw[hq,h2]; rfl
 ·have hi':i=p.rules.length:=by have:=of_decide_eq_false h1; omega
  subst hi';rw[List.take_length] at hno;have hX:jg p e=bif decide (100<(aK (iw p e p.rules.length)).length) then(4,[]) else(0,aK (iw p e p.rules.length)):=by unfold jg; rw[hno]; rfl
  refine ah.shut (fun c=>c=2) (h2:=[]) trivial (S.lM (iw p e p.rules.length) false (by omega) (fun x hx=>by have:=QB (Fb hF hx); omega)) ⟨BP rfl rfl,trivial⟩ ?_;generalize aK (iw p e p.rules.length)=M at hX;refine⟨fun h2=>?_,fun h2=>?_⟩
  ·replace h2:decide (100<(M.length:Int))=true:=h2;have:=of_decide_eq_true h2;rw[decide_eq_true (by omega:100<M.length),cond_true] at hX;conv=>whnf
   rw[<- hres,hX];exact aj.y8
  ·replace h2:decide (100<(M.length:Int))=false:=h2;have:=of_decide_eq_false h2;rw[decide_eq_false (by omega: ¬ 100<M.length),cond_false] at hX;conv=>whnf
   rw[<- hres,hX];exact aj.eqv rfl
def Np(b:List Elem)(y:Elem):Bool:=b.any fun z=>kK z y
def QT(p:aI)(b:List Elem)(i:Int)(x:Elem):Bool:=(QS p i x).1==0&&(QS p i x).2.all (Np b)
def FM(p:aI)(q:Prop')(b:List Elem)(i:Int):Bool:=(dn p q==0)&& !(decide (i<0)||decide (i>=p.rules.length))&&b.all (QT p b i)
theorem aes{p:aI}{i:Int}{e:Elem}:(QS p i e).2.length<=100:=by
 unfold QS;cases FK p !=0
 ·cases lH p e
  ·cases decide (i<0)||decide (i>=p.rules.length)
   ·exact Hr
   ·exact Nat.zero_le _
  ·exact Nat.zero_le _
 ·exact Nat.zero_le _
theorem aeu{p:aI}{i:Int}{e x:Elem}(h:x∈(QS p i e).2):lH p x=false:=by
 unfold QS at h;cases h1:(FK p !=0) with
 |true=>rw[h1] at h; cases h
 |false =>
  rw[h1] at h;cases h2:lH p e with
  |true=>rw[h2] at h; cases h
  |false =>
   rw[h2] at h;cases h3:decide (i<0)||decide (i>=p.rules.length) with
   |true=>rw[h3] at h; cases h
   |false =>
    rw[h3] at h;simp only[Bool.or_eq_false_iff,decide_eq_false_iff_not] at h3;have hi:i.toNat<p.rules.length:=by omega
    exact Ue (QA (BD h1) h2) (by rw[getD_some hi]; exact List.getElem_mem hi) h
theorem Ht{α:Type}{P:α->Bool}{l:List α}{i:Nat}{d:α}(h:i<l.length):(l.take (i+1)).all P=((l.take i).all P&&P (l.getD i d)):=by
 rw[List.take_succ_eq_append_getElem h,List.all_append,getD_some h]; simp
theorem Kt{α:Type}{P:α->Bool}{l:List α}{i:Nat}{d:α}(h:i<l.length)(hp:P (l.getD i d)=false):l.all P=false:=by
 rw[List.all_eq_false];exact⟨_,by rw[getD_some (d:=d) h] at hp; exact List.getElem_mem h,by rw[getD_some h] at hp; rw[hp]; decide⟩
def Fe(b:List Elem):Prop:= ∀ x∈b,x.counts.length<2^30
theorem Fe.E{b:List Elem}(h:Fe b):dK b:=fun x hx=>by have:=h x hx; omega
theorem Fe.at{b:List Elem}(h:Fe b){i:Nat}(hi:i<b.length):(b.getD i default).counts.length<2^30:=by rw[getD_some hi]; exact h _ (List.getElem_mem hi)
abbrev AA(p:aI):OV:=.box 27 11 (.dat (.fV p))
abbrev QC(q:Prop'):OV:=.box 30 7 (.dat (.prop q))
set_option maxHeartbeats 1000000 in
theorem S.nT(p:aI)(q:Prop')(b:List Elem)(i:Int)(f:Bool)(hp:eU p)(hq:kM q)(hl:b.length<2^30)(hs:Fe b):ak Tryz.prog 12 [.dat (.fV p),.dat (.prop q),.row 3 f (.elems b),.int i] (.bool (FM p q b i)):=by
 have hpr:=hp.rules;have hst:=hp.states;generalize hres:FM p q b i=res;refine ak.of Bd.nT (by simp) rfl rfl ?_;refine ah.pure (S.mQ p q hp hq) rfl ?_;refine⟨fun h1=>?_,fun h1=>?_⟩
 ·replace h1:(dn p q !=0)=true:=h1;refine aj.bool ?_;rw[<- hres]; unfold FM;rw[show(dn p q==0)=false by simpa using h1]; rfl
 replace h1:(dn p q !=0)=false:=h1;have h1':(dn p q==0)=true:=by simpa using h1
 repeat(refine VC.mk (by first|exact id|exact fun h=>⟨h,h⟩|(intro h; rw[h]; rfl)) ?_)
 refine⟨fun h2=>?_,fun h2=>?_⟩
 ·replace h2:(decide (i<0)||decide (i>=p.rules.length))=true:=h2;refine aj.bool ?_;rw[<- hres]; unfold FM;rw[h1',h2]; rfl
 replace h2:(decide (i<0)||decide (i>=p.rules.length))=false:=h2;have hR:FM p q b i=b.all (QT p b i):=by unfold FM; rw[h1',h2]; rfl
 refine aA.objs 4 [28,29,2,3,4] (fun k:Nat=>[(30,.int k)]) (fun _=>[(0,AA p),(1,QC q)]) (fun k=>k<=b.length/\(b.take k).all (QT p b i)=true) (fun k=>b.length-k) 0 [0,1] rfl (by decide) (fun _=>rfl) ⟨Nat.zero_le _,rfl⟩ (sR rfl) ⟨dL rfl rfl,dL rfl rfl,trivial⟩ ?_;refine⟨(sR rfl),rfl,?_⟩;rintro k ⟨hk,hall⟩;refine⟨fun h3=>?_,fun h3=>?_⟩
 ·have hk':k<b.length:=by simpa using h3
  have hnx:=Ht (P:=QT p b i) (d:=default) hk';have hnot:=fun h=>Kt (P:=QT p b i) (d:=default) hk' h
  have hle:=hs.at hk';generalize hX:b.getD k default=X at hnx hnot hle;refine .mk (by simp only[Rw.rng] at *; omega) ?_;conv=>whnf
  rw[show b.getD ((k:Int)).toNat default=X from hX];refine ah.pure (S.qP p i X hp hle) rfl ?_;have hlen:=@aes p i X;have hfit:=fun x=>@aeu p i X x
  have hpo:QT p b i X=((QS p i X).1==0&&(QS p i X).2.all (Np b)):=rfl;generalize hY:QS p i X=PY at hlen hfit hpo;refine⟨fun h4=>?_,fun h4=>?_⟩
  ·replace h4:(PY.1 !=0)=true:=h4;refine aj.bool ?_;rw[<- hres,hR]
   have:(PY.1==0)=false:=by simpa using h4
   exact hnot (by rw[hpo,this]; rfl)
  replace h4:(PY.1 !=0)=false:=h4;have h4':(PY.1==0)=true:=by simpa using h4
  refine aA.objs 4 [43,44,28,29,30,2,3,4] (fun j:Nat=>[(45,.int j)]) (fun _=>[(0,AA p),(1,QC q)]) (fun j=>j<=PY.2.length/\(PY.2.take j).all (Np b)=true) (fun j=>PY.2.length-j) 0 [0,1] rfl (by decide) (fun _=>rfl) ⟨Nat.zero_le _,rfl⟩ (sR rfl) ⟨dL rfl rfl,dL rfl rfl,trivial⟩ ?_;refine⟨(sR rfl),rfl,?_⟩;rintro j ⟨hj,ab7⟩;refine⟨fun h5=>?_,fun h5=>?_⟩
  ·have hj':j<PY.2.length:=by simpa using h5
   have hfj:=QB (hfit (PY.2.getD j default) (by rw[getD_some hj']; exact List.getElem_mem hj'));refine .mk (by simp only[Rw.rng] at *; omega) ?_;refine ah.pure (S.jV b (PY.2.getD j default) f (by omega) hs.E (by omega)) rfl ?_;refine⟨fun h6=>?_,fun h6=>?_⟩
   ·replace h6:(!Np b (PY.2.getD j default))=true:=h6;refine aj.bool ?_;rw[<- hres,hR];refine hnot ?_;rw[hpo,h4',Bool.true_and];exact Kt hj' (by simpa using h6)
   ·replace h6:(!Np b (PY.2.getD j default))=false:=h6;refine .mk (by simp only[okI] at *; omega) ?_;refine⟨j+1,[0,1],⟨hj',by rw[Ht (d:=default) hj',ab7,show Np b (PY.2.getD j default)=true by simpa using h6]; rfl⟩,by omega,(sR rfl),(sR rfl),dL rfl rfl,dL rfl rfl,trivial⟩
  ·have hj':j=PY.2.length:=by have:=of_decide_eq_false h5; omega
   subst hj';rw[List.take_length] at ab7;refine .mk (by simp only[okI] at *; omega) ?_;refine⟨k+1,[0,1],⟨hk',by rw[hnx,hall,hpo,h4',ab7]; rfl⟩,by omega,(sR rfl),(sR rfl),dL rfl rfl,dL rfl rfl,trivial⟩
 ·have hk':k=b.length:=by have:=of_decide_eq_false h3; omega
  subst hk';rw[List.take_length] at hall;exact aj.bool (by rw[<- hres,hR,hall])
def AV(p:aI)(q:Prop')(x:Elem):Bool:= !(lH p x)&& !(BA p q x)
def QU(p:aI)(q:Prop')(b:List Elem):Bool:=(dn p q==0)&&decide (b.length<=100)&&b.all (AV p q)&&(iO p q).all (Np b)&&(List.range p.rules.length).all fun i:Nat=>FM p q b i
set_option maxHeartbeats 1000000 in
theorem S.mJ(p:aI)(q:Prop')(b:List Elem)(f:Bool)(hp:eU p)(hq:kM q)(hl:b.length<2^30)(hs:Fe b):ak Tryz.prog 14 [.dat (.fV p),.dat (.prop q),.row 3 f (.elems b)] (.bool (QU p q b)):=by
 have hpr:=hp.rules;generalize hres:QU p q b=res;refine ak.of Bd.mJ (by simp) rfl rfl ?_;refine ah.pure (S.mQ p q hp hq) rfl ?_;repeat(refine VC.mk (by first|exact id|(intro h; rw[h]; rfl)) ?_)
 refine⟨fun h1=>?_,fun h1=>?_⟩
 ·replace h1:(dn p q !=0||decide (100<(b.length:Int)))=true:=h1;refine aj.bool ?_;rw[<- hres]; unfold QU;rw[Bool.or_eq_true] at h1;rcases h1 with h1|h1
  ·rw[show(dn p q==0)=false by simpa using h1]; rfl
  ·have:=of_decide_eq_true h1;rw[decide_eq_false (by omega: ¬ b.length<=100),Bool.and_false]; rfl
 replace h1:(dn p q !=0||decide (100<(b.length:Int)))=false:=h1;rw[Bool.or_eq_false_iff] at h1;obtain⟨h1,h1b⟩:=h1;have hlen:=of_decide_eq_false h1b;have h1':(dn p q==0)=true:=by simpa using h1
 have hc0:dn p q=0:=by simpa using h1
 have hB:QU p q b=(b.all (AV p q)&&(iO p q).all (Np b)&&(List.range p.rules.length).all fun i:Nat=>FM p q b i):=by
  unfold QU; rw[h1',decide_eq_true (by omega:b.length<=100)]; simp
 obtain⟨_,b2,b3,_⟩:=H9 hc0;have hv:=KA b3;have v1:=hv.pos; have v2:=hv.states; have v3:=hv.values;have hbad:iO p q=aK (wX q p.states.length (max 1 p.values.length) (4 ^ p.states.length)):=by rw[iO,h1,bad_law]; rfl
 obtain⟨l1,l2⟩:=BM p q hp;refine aA.objs 4 [21,22,2,3,4] (fun k:Nat=>[(23,.int k)]) (fun _=>[(0,AA p),(1,QC q)]) (fun k=>k<=b.length/\(b.take k).all (AV p q)=true) (fun k=>b.length-k) 0 [0,1] rfl (by decide) (fun _=>rfl) ⟨Nat.zero_le _,rfl⟩ (sR rfl) ⟨dL rfl rfl,dL rfl rfl,trivial⟩ ?_;refine⟨(sR rfl),rfl,?_⟩;rintro k ⟨hk,hall⟩;refine⟨fun h3=>?_,fun h3=>?_⟩
 ·have hk':k<b.length:=by simpa using h3
  have hnx:=Ht (P:=AV p q) (d:=default) hk';have hnot:=fun h=>Kt (P:=AV p q) (d:=default) hk' h
  have hle:=hs.at hk';generalize hX:b.getD k default=X at hnx hnot hle;refine .mk (by simp only[Rw.rng] at *; omega) ?_;conv=>whnf
  rw[show b.getD ((k:Int)).toNat default=X from hX];refine ah.pure (S.iV p X hp hle) rfl ?_;refine .mk (by intro h; simp[h]; done) ?_;refine ah.ig (fun _=>S.nZ p q X hp hq hle (EH hc0)) rfl ?_;refine .mk (by intro h; rw[h]; rfl) ?_;refine⟨fun h4=>?_,fun h4=>?_⟩
  ·replace h4:(dQ (lH p X) 1 !=0||BA p q X)=true:=h4;refine aj.bool ?_;rw[<- hres,hB]
   have:AV p q X=false:=by
    unfold AV;rw[Kr] at h4;rw[<- Bool.not_or,h4]; rfl
   rw[hnot this]; rfl
  ·replace h4:(dQ (lH p X) 1 !=0||BA p q X)=false:=h4;refine .mk (by simp only[okI] at *; omega) ?_;conv=>whnf
   have:AV p q X=true:=by
    unfold AV;rw[Kr] at h4;rw[<- Bool.not_or,h4]; rfl
   exact⟨k+1,[0,1],⟨hk',by rw[hnx,hall,this]; rfl⟩,by omega,(sR rfl),(sR rfl),dL rfl rfl,dL rfl rfl,trivial⟩
 have hk':k=b.length:=by have:=of_decide_eq_false h3; omega
 subst hk';rw[List.take_length] at hall;rw[hall,Bool.true_and] at hB;clear h3;refine ah.pure (S.jv p q p.states.length (max 1 p.values.length) hp hq rfl v1 v2 rfl (by omega) b2) rfl ?_;conv=>whnf
 rw[<- hbad];refine aA.objs 4 [40,41,2,3,4] (fun k:Nat=>[(42,.int k)]) (fun _=>[(0,AA p),(1,QC q)]) (fun k=>k<=(iO p q).length/\((iO p q).take k).all (Np b)=true) (fun k=>(iO p q).length-k) 0 [0,1] rfl (by decide) (fun _=>rfl) ⟨Nat.zero_le _,rfl⟩ (sR rfl) ⟨dL rfl rfl,dL rfl rfl,trivial⟩ ?_;refine⟨(sR rfl),rfl,?_⟩;rintro k ⟨hk,ab8⟩;refine⟨fun h3=>?_,fun h3=>?_⟩
 ·have hk':k<(iO p q).length:=by simpa using h3
  have hle:=l2 ((iO p q).getD k default) (by rw[getD_some hk']; exact List.getElem_mem hk');refine .mk (by simp only[Rw.rng] at *; omega) ?_;refine ah.pure (S.jV b ((iO p q).getD k default) f (by omega) hs.E hle) rfl ?_;refine⟨fun h6=>?_,fun h6=>?_⟩
  ·replace h6:(!Np b ((iO p q).getD k default))=true:=h6;refine aj.bool ?_;rw[<- hres,hB,Kt (P:=Np b) hk' (by simpa using h6)]; rfl
  ·replace h6:(!Np b ((iO p q).getD k default))=false:=h6;refine .mk (by simp only[okI] at *; omega) ?_;exact⟨k+1,[0,1],⟨hk',by rw[Ht (d:=default) hk',ab8,show Np b ((iO p q).getD k default)=true by simpa using h6]; rfl⟩,by omega,(sR rfl),(sR rfl),dL rfl rfl,dL rfl rfl,trivial⟩
 have hk':k=(iO p q).length:=by have:=of_decide_eq_false h3; omega
 subst hk';rw[List.take_length] at ab8;rw[ab8,Bool.true_and] at hB;clear h3;refine aA.objs 4 [53,2,3,4] (fun k:Nat=>[(54,.int k)]) (fun _=>[(0,AA p),(1,QC q)]) (fun k=>k<=p.rules.length/\((List.range k).all fun i:Nat=>FM p q b i)=true) (fun k=>p.rules.length-k) 0 [0,1] rfl (by decide) (fun _=>rfl) ⟨Nat.zero_le _,rfl⟩ (sR rfl) ⟨dL rfl rfl,dL rfl rfl,trivial⟩ ?_;refine⟨(sR rfl),rfl,?_⟩;rintro k ⟨hk,afa⟩;refine⟨fun h3=>?_,fun h3=>?_⟩
 ·have hk':k<p.rules.length:=by simpa using h3
  refine ah.pure (S.nT p q b k f hp hq hl hs) rfl ?_;refine⟨fun h6=>?_,fun h6=>?_⟩
  ·replace h6:(!FM p q b k)=true:=h6;refine aj.bool ?_;rw[<- hres,hB];rw[List.all_eq_false];exact⟨k,List.mem_range.2 hk',by simpa using h6⟩
  ·replace h6:(!FM p q b k)=false:=h6;refine .mk (by simp only[okI] at *; omega) ?_;exact⟨k+1,[0,1],⟨hk',by rw[List.range_succ,List.all_append,afa]; simpa using h6⟩,by omega,(sR rfl),(sR rfl),dL rfl rfl,dL rfl rfl,trivial⟩
 ·have hk':k=p.rules.length:=by have:=of_decide_eq_false h3; omega
  subst hk';exact aj.bool (by rw[<- hres,hB,afa])
end Go.Proofs.YtkmldgihhaooaaaGreatDoor
