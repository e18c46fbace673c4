/-
 What is before a step with a rule: the program's answer. No condition.
-/
import Derived.Test.YtkmldgihhaooaaaGreatDoorQb
import Derived.Test.YtkmldgihhaooaaaGreatDoorFa
namespace Go.Proofs.YtkmldgihhaooaaaGreatDoor
open Go.Ab Go.Proofs
set_option maxRecDepth 100000
def nV(vs:List Int)(cs:List (List Int))(i j:Nat):List Elem:=((vs.take i).flatMap fun v=>cs.map fun c=>(⟨v,c⟩:Elem))++(cs.take j).map fun c=>⟨vs.getD i 0,c⟩
theorem L6{vs:List Int}{cs:List (List Int)}{i j:Nat}(hi:i<=vs.length)(hj:j<=cs.length):(nV vs cs i j).length=i*cs.length+j:=by
 have: ∀ L:List Int,(L.flatMap fun v=>cs.map fun c=>(⟨v,c⟩:Elem)).length=L.length*cs.length:=by
  intro L
  induction L with
  |nil=>simp
  |cons c L ih=>rw[List.flatMap_cons,List.length_append,ih,List.length_map,List.length_cons,Nat.succ_mul,Nat.add_comm]
 unfold nV
 rw[List.length_append,this,List.length_map,List.length_take,List.length_take,Nat.min_eq_left hi,Nat.min_eq_left hj]
theorem OI{vs:List Int}{cs:List (List Int)}{i j:Nat}(hj:j<cs.length):nV vs cs i (j+1)=nV vs cs i j++[⟨vs.getD i 0,cs.getD j []⟩]:=by
 unfold nV
 rw[List.take_succ_eq_append_getElem hj,List.map_append,<- List.append_assoc,getD_some hj]; rfl
theorem OJ{vs:List Int}{cs:List (List Int)}{i:Nat}(hi:i<vs.length):nV vs cs (i+1) 0=nV vs cs i cs.length:=by
 unfold nV
 rw[List.take_succ_eq_append_getElem hi,List.flatMap_append,List.take_length,getD_some hi]
 simp
theorem L8{vs:List Int}{cs:List (List Int)}:nV vs cs vs.length 0=vs.flatMap fun v=>cs.map fun c=>⟨v,c⟩:=by
 unfold nV
 rw[List.take_length]; simp
theorem Tn{vs:List Int}{cs:List (List Int)}{i j:Nat}{x:Elem}(h:x∈nV vs cs i j):x.counts∈cs:=by
 unfold nV at h
 rcases List.mem_append.1 h with h|h
 ·obtain⟨v,_,h⟩:=List.mem_flatMap.1 h
  obtain⟨c,hc,rfl⟩:=List.mem_map.1 h
  exact hc
 ·obtain⟨c,hc,rfl⟩:=List.mem_map.1 h
  exact List.mem_of_mem_take hc
def abB(x:Elem):Bool:= !(x.counts.all AP)
def CJ(x:Int×List Elem):V:=.dU [.row 3 false (.elems x.2),.int x.1]
theorem Ae{r:Rule}{c:List Int}(hp:oC c.length r)(h0:Nq c)(hl:c.length<=6): ∀ l∈sZ r c,l.length=c.length:=by
 intro l hl'
 obtain⟨d,hd,rfl⟩:=List.mem_map.1 hl'
 rw[iQ]
 exact(LY hp h0 hl d hd).1
set_option maxHeartbeats 2000000 in
theorem S.pz(p:aO)(r:Rule)(e:Elem)(hv:p.values.length<2^20)(hr:uT r)(hp:oC e.counts.length r)(h0:Nq e.counts)(hl0:0<e.counts.length)(hl:e.counts.length<=6)(hx:r.ex.length<=100)(hk:r.kind=1\/r.kind=2\/r.kind=3):aj Tryz.prog 52 [.dat (.iI p),.dat (.rule r),.dat (.elem e)] (CJ (pU p r e)):=by
 rw[<- adP]
 generalize hres:CJ (adO p r e)=res
 have hvl:(kG p r e.value).length<2^21:=by
  unfold kG
  cases decide (0<=r.write)&&r.write !=e.value
  ·cases decide (r.write<0)&&(decide (0<=r.read)&&r.read !=e.value)
   ·cases decide (0<=r.read)
    ·cases decide (r.write<0)
     ·show((List.range _).map _).length<_
      rw[List.length_map,List.length_range]; omega
     ·exact(by decide:(1:Nat)<2^21)
    ·exact(by decide:(1:Nat)<2^21)
   ·exact(by decide:(0:Nat)<2^21)
  ·exact(by decide:(0:Nat)<2^21)
 have hcl:=Ae hp h0 hl
 refine aj.of Bd.pz (by simp) rfl (by rw[<- hres]; rfl) ?_
 refine ah.pure (S.jU p r e.value hv) rfl ?_
 conv=>whnf
 have hC:adO p r e=bif (kG p r e.value).length==0 then(0,[]) else bif decide (100<(sZ r e.counts).length)||decide (100<(sZ r e.counts).length*(kG p r e.value).length) then(4,[]) else
  bif (nV (kG p r e.value) (sZ r e.counts) (kG p r e.value).length 0).any abB then(4,[]) else(0,aX (nV (kG p r e.value) (sZ r e.counts) (kG p r e.value).length 0)):=by rw[L8]; rfl
 have hS:=S.jV r e.counts false hr hp h0 hl0 hl hx hk
 generalize hvs:kG p r e.value=vs at hC hvl ⊢
 generalize hcs:sZ r e.counts=cs at hC hcl
 refine⟨fun h1=>?_,fun h1=>?_⟩
 ·conv=>whnf
  have h1':(vs.length==0)=true:=by
   have:((vs.length:Int)==0)=true:=h1
   simpa using this
  rw[<- hres,hC,h1']
  exact ak.pI
 have h1':(vs.length==0)=false:=by
  have:((vs.length:Int)==0)=false:=h1
  simpa using this
 rw[h1',cond_false] at hC
 refine ah.pure hS OH ?_
 unfold LX
 rw[hcs]
 cases h2:decide (cs.length<=100) with
 |false =>
  have h2':=of_decide_eq_false h2
  rw[decide_eq_true (by omega:100<cs.length),Bool.true_or,cond_true] at hC
  repeat(refine VC.mk (by first|exact id|(intro h; rw[h]; rfl)|(intro h; simp_all; done)) ?_)
  refine Fork.mk (fun _=>?_) (fun q=>absurd (q.symm.trans (rfl)) Bool.false_ne_true)
  conv=>whnf
  rw[<- hres,hC]
  exact ak.pI
 |true =>
  have h2':=of_decide_eq_true h2
  rw[decide_eq_false (by omega: ¬ 100<cs.length),Bool.false_or] at hC
  have hmul:cs.length*vs.length<=100*2^21:=Nat.mul_le_mul h2' (Nat.le_of_lt hvl)
  repeat(refine VC.mk (by first|(intro _; refine⟨rfl,rfl,?_⟩; show okI ((cs.length:Int)*(vs.length:Int)); rw[<- Int.natCast_mul]; simp only[okI]; omega)|exact fun h=>h|(intro h; rw[h]; rfl)) ?_)
  refine⟨fun h3=>?_,fun h3=>?_⟩
  ·have h3':100<cs.length*vs.length:=by
    replace h3:decide (100<(cs.length:Int)*(vs.length:Int))=true:=h3
    have:=of_decide_eq_true h3
    rw[<- Int.natCast_mul] at this
    omega
   rw[decide_eq_true h3',cond_true] at hC
   conv=>whnf
   rw[<- hres,hC]
   exact ak.pI
  have h3':cs.length*vs.length<=100:=by
   replace h3:decide (100<(cs.length:Int)*(vs.length:Int))=false:=h3
   have:=of_decide_eq_false h3
   rw[<- Int.natCast_mul] at this
   omega
  rw[decide_eq_false (by omega: ¬ 100<cs.length*vs.length),cond_false] at hC
  rw[Nat.mul_comm] at h3'
  refine aC.nil 11 35 3 (by rfl) rfl rfl rfl ?_
  refine aC.objs 3 [41,42,9] (fun i:Nat=>[(43,.int i),(11,.own 2)]) (fun i=>[(2,bT (nV vs cs i 0))]) (fun i=>i<=vs.length/\(nV vs cs i 0).any abB=false) (fun i=>vs.length-i) 0 [37] rfl (by decide) (fun _=>rfl) ⟨Nat.zero_le _,rfl⟩ (sR rfl) ⟨fC rfl rfl,trivial⟩ ?_
  refine⟨(sR rfl),rfl,?_⟩
  rintro i ⟨hi,hno⟩
  have hN0:=L6 hi (Nat.zero_le cs.length)
  have hN0':i*cs.length<=100:=Nat.le_trans (Nat.mul_le_mul_right _ hi) h3'
  refine⟨fun h4=>?_,fun h4=>?_⟩
  ·have hi':i<vs.length:=by simpa using h4
   refine .mk (by simp only[Rw.rng] at *; omega) ?_
   refine aC.VO 3 [47,48,13,41,42,43,9] (fun j:Nat=>[(49,.int j),(11,.own 2)]) (fun j=>[(2,bT (nV vs cs i j))]) (fun j=>j<=cs.length/\(nV vs cs i j).any abB=false) (fun j=>cs.length-j) 0 [2] [(2,some (bT (nV vs cs i 0)))] rfl (by decide) (fun _=>rfl) ⟨Nat.zero_le _,hno⟩ (sR rfl) ⟨fun _=>False,iW (Z:=fun _=>False) rfl (fun q=>q),trivial⟩ ⟨MO rfl rfl,trivial⟩ ?_
   refine⟨(sR rfl),rfl,?_⟩
   rintro j ⟨hj,afQ⟩
   have hNj:=L6 hi hj
   have afO:i*cs.length+j<=100:=by
    have:=Nat.mul_le_mul_right cs.length hi'
    rw[Nat.succ_mul] at this
    omega
   refine⟨fun h5=>?_,fun h5=>?_⟩
   ·have hj':j<cs.length:=by simpa using h5
    have hst:=OI (vs:=vs) (i:=i) hj'
    have hcj:=hcl (cs.getD j []) (by rw[getD_some hj']; exact List.getElem_mem hj')
    replace hcj:(cs.getD ((j:Int)).toNat []).length=e.counts.length:=hcj
    repeat(refine VC.mk (by first|(first|(simp only[kH,kQ,Rw.len]; omega)|(show((nV vs cs i j).length+(0+1))*32<=140737488355328/\(nV vs cs i j).length+(0+1)<=1152921504606846976; omega))|(simp only[Rw.rng] at *; omega)) ?_)
    refine ah.pure (S.kW (cs.getD j []) false (by show(cs.getD ((j:Int)).toNat []).length<_; omega)) rfl ?_
    refine⟨fun h6=>?_,fun h6=>?_⟩
    ·conv=>whnf
     have hb:(nV vs cs vs.length 0).any abB=true:=by
      rw[List.any_eq_true]
      refine⟨⟨vs.getD i 0,cs.getD j []⟩,?_,h6⟩
      rw[L8]
      exact List.mem_flatMap.2 ⟨vs.getD i 0,by rw[getD_some hi']; exact List.getElem_mem hi',List.mem_map.2 ⟨cs.getD j [],by rw[getD_some hj']; exact List.getElem_mem hj',rfl⟩⟩
     rw[hb,cond_true] at hC
     rw[<- hres,hC]
     exact ak.pI
    ·conv=>whnf
     refine .mk (by simp only[okI] at *; omega) ?_
     refine⟨[(13,some (bT (nV vs cs i j++[⟨vs.getD i 0,cs.getD j []⟩])))],j+1,[13],⟨fun i=>i=10,QE (Z:=fun i=>i=10) (i:=13) (j:=10) rfl (by decide) rfl rfl,trivial⟩,⟨hj',?_⟩,by omega,(sR rfl),(sR rfl),okF rfl nofun rfl rfl rfl ⟨rfl,rfl⟩ (by rw[hst]),trivial⟩
     rw[hst,List.any_append,afQ]
     show(abB _||false)=false
     rw[Bool.or_false]
     exact h6
   ·have hj':j=cs.length:=by have:=of_decide_eq_false h5; omega
    subst hj'
    rw[<- OJ hi'] at afQ ⊢
    refine .mk (by simp only[okI] at *; omega) ?_
    exact⟨i+1,[2],⟨hi',afQ⟩,by omega,(sR rfl),(sR rfl),fC rfl rfl,trivial⟩
  ·have hi':i=vs.length:=by have:=of_decide_eq_false h4; omega
   subst hi'
   rw[hno,cond_false] at hC
   rw[<- hres,hC]
   refine ah.shut (fun _=>True) (h2:=[]) trivial (S.lF (nV vs cs vs.length 0) false (by omega) (fun x hx=>by have:=hcl _ (Tn hx); omega)) ⟨IY trivial rfl,trivial⟩ ?_
   exact ak.eqv rfl
theorem adT: ∀ {l:List Int},GI l=true->l.Pairwise (· < ·):=by
 intro l
 induction l with
 |nil=>intro _; exact .nil
 |cons a r ih =>
  intro h
  cases r with
  |nil=>exact List.pairwise_singleton ..
  |cons b r =>
   simp only[GI,Bool.and_eq_true,decide_eq_true_eq] at h
   have h2:=ih h.2
   refine List.pairwise_cons.2 ⟨fun x hx=>?_,h2⟩
   rcases List.mem_cons.1 hx with rfl|hx
   ·exact h.1
   ·have:=(List.pairwise_cons.1 h2).1 x hx; omega
theorem afR{n:Int}: ∀ {l:List Int} {k:Int},l.Pairwise (· < ·)->(∀ x∈l,k<=x/\x<n)->k<=n->k+l.length<=n:=by
 intro l
 induction l with
 |nil=>intro k _ _ h; simp; exact h
 |cons a r ih =>
  intro k hp hx hk
  have ha:=hx a (by simp)
  have:=ih (k:=a+1) (List.pairwise_cons.1 hp).2 (fun x h=>⟨(List.pairwise_cons.1 hp).1 x h,(hx x (by simp[h])).2⟩) (by omega)
  rw[List.length_cons]; omega
theorem adU{l:List Int}{n:Int}(h:jA l n=0):GI l=true:=by
 unfold jA at h
 obtain⟨_,h⟩:=bz (fun _=>by decide) h
 cases hb:GI l with
 |true=>rfl
 |false=>rw[hb] at h; exact absurd h (by decide)
structure aeC(n:Nat)(p:aO)(r:Rule):Prop where
 rf:ZC n p r
 nd:r.ex.Nodup
 xl:r.ex.length<=n
theorem Jh{p:aO}{i:Nat}(hv:O1 p)(ht:p.topology=1)(hi:i<p.rules.length):aeC p.states.length p (p.rules.getD i default):=by
 have hf:=YtkmldgihhaooaaaGreatDoor.aga hv ht hi
 suffices hh:(p.rules.getD i default).ex.Nodup/\(p.rules.getD i default).ex.length<=p.states.length from⟨hf,hh.1,hh.2⟩
 by_cases hk:(p.rules.getD i default).kind=1
 ·have h:=hv.rule i hi
  simp only[gW] at h
  obtain⟨_,h⟩:=bz (fun _=>by decide) h
  obtain⟨_,h⟩:=bz (fun _=>by decide) h
  obtain⟨_,h⟩:=bz nz h
  rw[hk] at h
  have g:=kV h
  have hs:=adT (adU (g (jA (p.rules.getD i default).ex p.states.length) (by simp)))
  refine⟨hs.imp fun h=>by omega,?_⟩
  have:=afR (k:=0) hs (fun x hx=>hf.place.exs x hx) (by omega)
  omega
 ·rw[(hf.ex1 hk).1]
  exact⟨List.nodup_nil,Nat.zero_le _⟩
theorem AQ.Jh{p:aO}{e:Elem}(h:AQ p e){r:Rule}(hr:r∈p.rules):aeC e.counts.length p r:=by
 obtain⟨i,hi,rfl⟩:=List.getElem_of_mem hr
 have:=YtkmldgihhaooaaaGreatDoor.Jh h.valid (Xo h.plain) hi
 rw[getD_some hi] at this
 rw[h.len]; exact this
theorem Tq{n:Nat}{p:aO}{r:Rule}{v:Int}(hr:ZC n p r)(hv:0<=v/\v<max 1 (p.values.length:Int)): ∀ u∈kG p r v,0<=u/\u<max 1 (p.values.length:Int):=by
 have ho: ∀ x:Int,qX x p.values.length=false->0<=x/\x<max 1 (p.values.length:Int):=fun x h=>by
  have:=vH h
  omega
 intro u hu
 unfold kG at hu
 cases h1:decide (0<=r.write)&&r.write !=v with
 |true=>rw[h1] at hu; cases hu
 |false =>
  rw[h1,cond_false] at hu
  cases h2:decide (r.write<0)&&(decide (0<=r.read)&&r.read !=v) with
  |true=>rw[h2] at hu; cases hu
  |false =>
   rw[h2,cond_false] at hu
   cases h3:decide (0<=r.read) with
   |true =>
    rw[h3,cond_true,List.mem_singleton] at hu
    subst hu
    have:=of_decide_eq_true h3
    rcases hr.rd with h|h
    ·exact ho _ h
    ·omega
   |false =>
    rw[h3,cond_false] at hu
    cases h4:decide (r.write<0) with
    |true=>rw[h4,cond_true,List.mem_singleton] at hu; subst hu; exact hv
    |false =>
     rw[h4,cond_false,List.mem_map] at hu
     obtain⟨x,hx,rfl⟩:=hu
     have:=List.mem_range.1 hx
     omega
theorem Tt{p:aO}{r:Rule}{e:Elem}:(pU p r e).1=0\/(pU p r e).1=4:=by
 unfold pU
 cases decide (100<(oU p r e).length)||(oU p r e).any fun x=> !(x.counts.all AP)
 ·exact .inl rfl
 ·exact .inr rfl
theorem AU{p:aO}{r:Rule}{e:Elem}:(pU p r e).2.length<=100:=by
 unfold pU
 cases h:decide (100<(oU p r e).length)||(oU p r e).any fun x=> !(x.counts.all AP) with
 |true=>exact Nat.zero_le _
 |false =>
  rw[Bool.or_eq_false_iff] at h
  have:=of_decide_eq_false h.1
  exact Nat.le_trans (zL _) (by omega)
theorem JX{p:aO}{r:Rule}{e x:Elem}(hF:AQ p e)(hr:r∈p.rules)(h:x∈(pU p r e).2):jc p x=false:=by
 have hX:=hF.Jh hr
 have h6:=hF.valid.states
 have hl:=hF.len
 unfold pU at h
 cases hb:decide (100<(oU p r e).length)||(oU p r e).any fun x=> !(x.counts.all AP) with
 |true=>rw[hb] at h; cases h
 |false =>
  rw[hb,cond_false] at h
  rw[Bool.or_eq_false_iff] at hb
  have h:=tN h
  obtain⟨h1,h2⟩:=JR.1 h
  have h3:=Tq hX.rf hF.val _ h1
  have h4:=Ae hX.rf.place hF.nums (by omega) _ h2
  have h5:=List.any_eq_false.1 hb.2 x h
  unfold jc
  rw[show((x.counts.length:Int) !=p.states.length)=false by simp; omega,show decide (x.value<0)=false by simp; omega,show decide (x.value>=max 1 (p.values.length:Int))=false by simp only[decide_eq_false_iff_not]; omega]
  simpa using h5
theorem abC{p:aO}{e x:Elem}(hF:AQ p e)(h:jc p x=false):AQ p x:=by
 unfold jc at h
 simp only[Bool.or_eq_false_iff] at h
 obtain⟨⟨⟨h1,h2⟩,h3⟩,h4⟩:=h
 have h1':(x.counts.length:Int)=p.states.length:=by simpa using h1
 refine⟨hF.valid,hF.plain,by omega,fun y hy=>?_,?_⟩
 ·have:x.counts.all AP=true:=by simpa using h2
  have:=List.all_eq_true.1 this y hy
  unfold AP at this
  simpa using this
 ·have:=of_decide_eq_false h3
  have:=of_decide_eq_false h4
  omega
def qW(p:aO):Int:=bif bn p !=0 then bn p else bif (fK p).cover then 0 else 7
theorem xY{p:aO}{e:Elem}(h1:qW p=0)(h2:jc p e=false):AQ p e:=by
 unfold qW at h1
 obtain⟨h0,h1⟩:=bz nz h1
 have hv:bn p=0:=by simpa using h0
 refine ahg (Uj hv ?_ h2)
 cases hc:(fK p).cover with
 |true=>rfl
 |false=>rw[hc] at h1; exact absurd h1 (by decide)
theorem S.jJ(p:aO)(hp:fE p):aj Tryz.prog 51 [.dat (.iI p)] (.int (qW p)):=by
 refine aj.of Bd.jJ (by simp) rfl rfl ?_
 refine ah.pure (S.je p hp) rfl ?_
 repeat(refine VC.mk id ?_)
 refine⟨fun h1=>?_,fun h1=>?_⟩
 ·replace h1:((bn p==0)&& !(bif bn p !=0 then Fe else fK p).cover)=true:=h1
  refine ak.int ?_
  rw[Bool.and_eq_true] at h1
  have hv:(bn p !=0)=false:=by simpa using h1.1
  rw[hv] at h1
  unfold qW
  rw[hv,show(fK p).cover=false by simpa using h1.2]; rfl
 ·replace h1:((bn p==0)&& !(bif bn p !=0 then Fe else fK p).cover)=false:=h1
  refine ak.int ?_
  unfold qW
  cases hv:(bn p !=0) with
  |true=>rfl
  |false =>
   have hz:bn p=0:=by simpa using hv
   rw[hv,hz] at h1
   rw[cond_false,hz]
   have:(fK p).cover=true:=by simpa using h1
   rw[this]; rfl
def EX(p:aO)(i:Int)(e:Elem):Int×List Elem:=bif qW p !=0 then(qW p,[]) else bif jc p e then(1,[]) else bif decide (i<0)||decide (i>=p.rules.length) then(6,[]) else pU p (p.rules.getD i.toNat default) e
theorem Dv{b:Bool}:(dP b 1 !=0)=b:=by cases b<;>rfl
theorem abD{b:Bool}(h:(dP b 1 !=0)=true):dP b 1=1:=by cases b<;>first|rfl|cases h
set_option maxHeartbeats 1000000 in
theorem S.nJ(p:aO)(i:Int)(e:Elem)(hp:fE p)(he:e.counts.length<2^30):aj Tryz.prog 20 [.dat (.iI p),.int i,.dat (.elem e)] (CJ (EX p i e)):=by
 have hpr:=hp.rules
 generalize hres:CJ (EX p i e)=res
 refine aj.of Bd.nJ (by simp) rfl (by rw[<- hres]; rfl) ?_
 refine ah.pure (S.jJ p hp) rfl ?_
 refine⟨fun h1=>?_,fun h1=>?_⟩
 ·conv=>whnf
  rw[<- hres,EX,h1]
  exact ak.pI
 refine ah.pure (S.gK p e hp he) rfl ?_
 refine⟨fun h2=>?_,fun h2=>?_⟩
 ·replace h2:(dP (jc p e) 1 !=0)=true:=h2
  conv=>whnf
  rw[abD h2]
  rw[Dv] at h2
  rw[<- hres,EX,h1,h2]
  exact ak.pI
 replace h2:(dP (jc p e) 1 !=0)=false:=h2
 rw[Dv] at h2
 have hF:=xY (DJ h1) h2
 have h6:=hF.valid.states
 have h0:=hF.valid.pos
 have hl:=hF.len
 repeat(refine VC.mk (by first|exact id|exact fun h=>⟨h,h⟩|(intro h; rw[h]; rfl)) ?_)
 refine⟨fun h3=>?_,fun h3=>?_⟩
 ·replace h3:(decide (i<0)||decide (i>=p.rules.length))=true:=h3
  conv=>whnf
  rw[<- hres,EX,h1,h2,h3]
  exact ak.pI
 ·replace h3:(decide (i<0)||decide (i>=p.rules.length))=false:=h3
  have h3':=h3
  simp only[Bool.or_eq_false_iff,decide_eq_false_iff_not] at h3'
  have hi:i.toNat<p.rules.length:=by omega
  have hX:=hF.Jh (r:=p.rules.getD i.toNat default) (by rw[getD_some hi]; exact List.getElem_mem hi)
  refine .mk (by simp only[Rw.rng]; omega) ?_
  refine ah.pure (S.pz p (p.rules.getD i.toNat default) e hp.values (hp.rule _) hX.rf.place hF.nums (by omega) (by omega) (by have:=hX.xl; omega) hX.rf.kind) rfl ?_
  conv=>whnf
  rw[<- hres,EX,h1,h2,h3]
  exact ak.eqv rfl
def jw(p:aO)(e:Elem)(i:Nat):List Elem:=(p.rules.take i).flatMap fun r=>(pU p r e).2
def sJ(p:aO)(e:Elem):Int×List Elem:=bif p.rules.any (fun r=>(pU p r e).1 !=0) then(4,[]) else bif decide (100<(aX (jw p e p.rules.length)).length) then(4,[]) else(0,aX (jw p e p.rules.length))
theorem Ji{p:aO}{e:Elem}{i:Nat}(hi:i<p.rules.length):jw p e (i+1)=jw p e i++(pU p (p.rules.getD i default) e).2:=by
 unfold jw
 rw[List.take_succ_eq_append_getElem hi,List.flatMap_append,getD_some hi]; simp
theorem L9{p:aO}{e:Elem}{i:Nat}:(jw p e i).length<=i*100:=by
 unfold jw
 have: ∀ L:List Rule,(L.flatMap fun r=>(pU p r e).2).length<=L.length*100:=by
  intro L
  induction L with
  |nil=>simp
  |cons c L ih=>rw[List.flatMap_cons,List.length_append,List.length_cons,Nat.succ_mul]; have:=@AU p c e; omega
 exact Nat.le_trans (this _) (Nat.mul_le_mul_right _ (by rw[List.length_take]; omega))
theorem EL{p:aO}{e x:Elem}{i:Nat}(hF:AQ p e)(h:x∈jw p e i):jc p x=false:=by
 obtain⟨r,hr,h⟩:=List.mem_flatMap.1 h
 exact JX hF (List.mem_of_mem_take hr) h
theorem EY{p:aO}{x:Elem}(h:jc p x=false):x.counts.length=p.states.length:=by
 unfold jc at h
 simp only[Bool.or_eq_false_iff] at h
 have:(x.counts.length:Int)=p.states.length:=by simpa using h.1.1.1
 omega
set_option maxHeartbeats 1000000 in
theorem S.um(p:aO)(e:Elem)(hp:fE p)(hF:AQ p e):aj Tryz.prog 54 [.dat (.iI p),.dat (.elem e)] (CJ (sJ p e)):=by
 have hpr:=hp.rules
 have h6:=hF.valid.states
 have h8:=hF.valid.ZB
 have h0:=hF.valid.pos
 have hl:=hF.len
 generalize hres:CJ (sJ p e)=res
 refine aj.of Bd.um (by simp) rfl (by rw[<- hres]; rfl) ?_
 refine aC.nil 6 35 3 (by rfl) rfl rfl rfl ?_
 refine aC.objs 3 [2,3,13,14] (fun i:Nat=>[(15,.int i),(6,.own 2)]) (fun i=>[(0,.box 27 11 (.dat (.iI p))),(1,.box 35 3 (.dat (.elem e))),(2,bT (jw p e i))]) (fun i=>i<=p.rules.length/\(p.rules.take i).any (fun r=>(pU p r e).1 !=0)=false) (fun i=>p.rules.length-i) 0 [0,1,9] rfl (by decide) (fun _=>rfl) ⟨Nat.zero_le _,rfl⟩ (sR rfl) ⟨fC rfl rfl,fC rfl rfl,fC rfl rfl,trivial⟩ ?_
 refine⟨(sR rfl),rfl,?_⟩
 rintro i ⟨hi,hno⟩
 have hpl:=L9 (p:=p) (e:=e) (i:=i)
 refine⟨fun h1=>?_,fun h1=>?_⟩
 ·have hi':i<p.rules.length:=by simpa using h1
  have hst:=Ji (e:=e) hi'
  have hmem:p.rules.getD i default∈p.rules:=by rw[getD_some hi']; exact List.getElem_mem hi'
  have hX:=hF.Jh hmem
  have hlen:=@AU p (p.rules.getD i default) e
  refine .mk (by simp only[Rw.rng] at *; omega) ?_
  refine ah.pure (S.pz p (p.rules.getD i default) e hp.values (hp.rule _) hX.rf.place hF.nums (by omega) (by omega) (by have:=hX.xl; omega) hX.rf.kind) rfl ?_
  have herr:=@Tt p (p.rules.getD i default) e
  generalize hq:pU p (p.rules.getD i default) e=q at hst hlen herr
  refine⟨fun h2=>?_,fun h2=>?_⟩
  ·replace h2:(q.1 !=0)=true:=h2
   conv=>whnf
   have h4:q.1=4:=by
    rcases herr with h|h
    ·rw[h] at h2; cases h2
    ·exact h
   have hany:p.rules.any (fun r=>(pU p r e).1 !=0)=true:=List.any_eq_true.2 ⟨_,hmem,by rw[hq]; exact h2⟩
   rw[<- hres,sJ,hany,h4]
   exact ak.pI
  ·replace h2:(q.1 !=0)=false:=h2
   repeat(refine VC.mk (by first|(show((jw p e i).length+q.2.length)*32<=140737488355328/\(jw p e i).length+q.2.length<=1152921504606846976; omega)|(simp only[okI] at *; omega)) ?_)
   refine⟨i+1,[0,1,21],⟨hi',?_⟩,by omega,(sR rfl),(sR rfl),fC rfl rfl,fC rfl rfl,⟨rfl,nofun,rfl,rfl,rfl,_,rfl,rfl,rfl,dR.of_eq (by rw[hst])⟩,trivial⟩
   rw[List.take_succ_eq_append_getElem hi',List.any_append,hno,Bool.false_or,<- getD_some (d:=default) hi']
   show((pU p (p.rules.getD i default) e).1 !=0||false)=false
   rw[hq,h2]; rfl
 ·have hi':i=p.rules.length:=by have:=of_decide_eq_false h1; omega
  subst hi'
  rw[List.take_length] at hno
  have hX:sJ p e=bif decide (100<(aX (jw p e p.rules.length)).length) then(4,[]) else(0,aX (jw p e p.rules.length)):=by unfold sJ; rw[hno]; rfl
  refine ah.shut (fun c=>c=2) (h2:=[]) trivial (S.lF (jw p e p.rules.length) false (by omega) (fun x hx=>by have:=EY (EL hF hx); omega)) ⟨IY rfl rfl,trivial⟩ ?_
  generalize aX (jw p e p.rules.length)=M at hX
  refine⟨fun h2=>?_,fun h2=>?_⟩
  ·replace h2:decide (100<(M.length:Int))=true:=h2
   have:=of_decide_eq_true h2
   rw[decide_eq_true (by omega:100<M.length),cond_true] at hX
   conv=>whnf
   rw[<- hres,hX]
   exact ak.pI
  ·replace h2:decide (100<(M.length:Int))=false:=h2
   have:=of_decide_eq_false h2
   rw[decide_eq_false (by omega: ¬ 100<M.length),cond_false] at hX
   conv=>whnf
   rw[<- hres,hX]
   exact ak.eqv rfl
def OZ(p:aO)(e:Elem):Int×List Elem:=bif qW p !=0 then(qW p,[]) else bif jc p e then(1,[]) else sJ p e
theorem S.yO(p:aO)(e:Elem)(hp:fE p)(he:e.counts.length<2^30):aj Tryz.prog 22 [.dat (.iI p),.dat (.elem e)] (CJ (OZ p e)):=by
 generalize hres:CJ (OZ p e)=res
 refine aj.of Bd.yO (by simp) rfl (by rw[<- hres]; rfl) ?_
 refine ah.pure (S.jJ p hp) rfl ?_
 refine⟨fun h1=>?_,fun h1=>?_⟩
 ·conv=>whnf
  rw[<- hres,OZ,h1]
  exact ak.pI
 refine ah.pure (S.gK p e hp he) rfl ?_
 refine⟨fun h2=>?_,fun h2=>?_⟩
 ·replace h2:(dP (jc p e) 1 !=0)=true:=h2
  conv=>whnf
  rw[abD h2]
  rw[Dv] at h2
  rw[<- hres,OZ,h1,h2]
  exact ak.pI
 replace h2:(dP (jc p e) 1 !=0)=false:=h2
 rw[Dv] at h2
 have hF:=xY (DJ h1) h2
 refine ah.pure (S.um p e hp hF) rfl ?_
 conv=>whnf
 rw[<- hres,OZ,h1,h2]
 exact ak.eqv rfl
def YU(b:List Elem)(y:Elem):Bool:=b.any fun z=>mF z y
def YV(p:aO)(b:List Elem)(i:Int)(x:Elem):Bool:=(EX p i x).1==0&&(EX p i x).2.all (YU b)
def Mc(p:aO)(q:Prop')(b:List Elem)(i:Int):Bool:=(fV p q==0)&& !(decide (i<0)||decide (i>=p.rules.length))&&b.all (YV p b i)
theorem adV{p:aO}{i:Int}{e:Elem}:(EX p i e).2.length<=100:=by
 unfold EX
 cases qW p !=0
 ·cases jc p e
  ·cases decide (i<0)||decide (i>=p.rules.length)
   ·exact AU
   ·exact Nat.zero_le _
  ·exact Nat.zero_le _
 ·exact Nat.zero_le _
theorem adW{p:aO}{i:Int}{e x:Elem}(h:x∈(EX p i e).2):jc p x=false:=by
 unfold EX at h
 cases h1:(qW p !=0) with
 |true=>rw[h1] at h; cases h
 |false =>
  rw[h1] at h
  cases h2:jc p e with
  |true=>rw[h2] at h; cases h
  |false =>
   rw[h2] at h
   cases h3:decide (i<0)||decide (i>=p.rules.length) with
   |true=>rw[h3] at h; cases h
   |false =>
    rw[h3] at h
    simp only[Bool.or_eq_false_iff,decide_eq_false_iff_not] at h3
    have hi:i.toNat<p.rules.length:=by omega
    exact JX (xY (DJ h1) h2) (by rw[getD_some hi]; exact List.getElem_mem hi) h
theorem GK{α:Type}{P:α->Bool}{l:List α}{i:Nat}{d:α}(h:i<l.length):(l.take (i+1)).all P=((l.take i).all P&&P (l.getD i d)):=by
 rw[List.take_succ_eq_append_getElem h,List.all_append,getD_some h]; simp
theorem JW{α:Type}{P:α->Bool}{l:List α}{i:Nat}{d:α}(h:i<l.length)(hp:P (l.getD i d)=false):l.all P=false:=by
 rw[List.all_eq_false]
 exact⟨_,by rw[getD_some (d:=d) h] at hp; exact List.getElem_mem h,by rw[getD_some h] at hp; rw[hp]; decide⟩
def EM(b:List Elem):Prop:= ∀ x∈b,x.counts.length<2^30
theorem EM.E{b:List Elem}(h:EM b):dK b:=fun x hx=>by have:=h x hx; omega
theorem EM.at{b:List Elem}(h:EM b){i:Nat}(hi:i<b.length):(b.getD i default).counts.length<2^30:=by rw[getD_some hi]; exact h _ (List.getElem_mem hi)
abbrev DI(p:aO):OV:=.box 27 11 (.dat (.iI p))
abbrev Qp(q:Prop'):OV:=.box 30 7 (.dat (.prop q))
set_option maxHeartbeats 1000000 in
theorem S.nG(p:aO)(q:Prop')(b:List Elem)(i:Int)(f:Bool)(hp:fE p)(hq:uU q)(hl:b.length<2^30)(hs:EM b):aj Tryz.prog 12 [.dat (.iI p),.dat (.prop q),.row 3 f (.elems b),.int i] (.bool (Mc p q b i)):=by
 have hpr:=hp.rules
 have hst:=hp.states
 generalize hres:Mc p q b i=res
 refine aj.of Bd.nG (by simp) rfl rfl ?_
 refine ah.pure (S.oG p q hp hq) rfl ?_
 refine⟨fun h1=>?_,fun h1=>?_⟩
 ·replace h1:(fV p q !=0)=true:=h1
  refine ak.bool ?_
  rw[<- hres]; unfold Mc
  rw[show(fV p q==0)=false by simpa using h1]; rfl
 replace h1:(fV p q !=0)=false:=h1
 have h1':(fV p q==0)=true:=by simpa using h1
 repeat(refine VC.mk (by first|exact id|exact fun h=>⟨h,h⟩|(intro h; rw[h]; rfl)) ?_)
 refine⟨fun h2=>?_,fun h2=>?_⟩
 ·replace h2:(decide (i<0)||decide (i>=p.rules.length))=true:=h2
  refine ak.bool ?_
  rw[<- hres]; unfold Mc
  rw[h1',h2]; rfl
 replace h2:(decide (i<0)||decide (i>=p.rules.length))=false:=h2
 have hR:Mc p q b i=b.all (YV p b i):=by unfold Mc; rw[h1',h2]; rfl
 refine aC.objs 4 [28,29,2,3,4] (fun k:Nat=>[(30,.int k)]) (fun _=>[(0,DI p),(1,Qp q)]) (fun k=>k<=b.length/\(b.take k).all (YV p b i)=true) (fun k=>b.length-k) 0 [0,1] rfl (by decide) (fun _=>rfl) ⟨Nat.zero_le _,rfl⟩ (sR rfl) ⟨fC rfl rfl,fC rfl rfl,trivial⟩ ?_
 refine⟨(sR rfl),rfl,?_⟩
 rintro k ⟨hk,hall⟩
 refine⟨fun h3=>?_,fun h3=>?_⟩
 ·have hk':k<b.length:=by simpa using h3
  have hnx:=GK (P:=YV p b i) (d:=default) hk'
  have hnot:=fun h=>JW (P:=YV p b i) (d:=default) hk' h
  have hle:=hs.at hk'
  generalize hX:b.getD k default=X at hnx hnot hle
  refine .mk (by simp only[Rw.rng] at *; omega) ?_
  conv=>whnf
  rw[show b.getD ((k:Int)).toNat default=X from hX]
  refine ah.pure (S.nJ p i X hp hle) rfl ?_
  have hlen:=@adV p i X
  have hfit:=fun x=>@adW p i X x
  have hpo:YV p b i X=((EX p i X).1==0&&(EX p i X).2.all (YU b)):=rfl
  generalize hY:EX p i X=PY at hlen hfit hpo
  refine⟨fun h4=>?_,fun h4=>?_⟩
  ·replace h4:(PY.1 !=0)=true:=h4
   refine ak.bool ?_
   rw[<- hres,hR]
   have:(PY.1==0)=false:=by simpa using h4
   exact hnot (by rw[hpo,this]; rfl)
  replace h4:(PY.1 !=0)=false:=h4
  have h4':(PY.1==0)=true:=by simpa using h4
  refine aC.objs 4 [43,44,28,29,30,2,3,4] (fun j:Nat=>[(45,.int j)]) (fun _=>[(0,DI p),(1,Qp q)]) (fun j=>j<=PY.2.length/\(PY.2.take j).all (YU b)=true) (fun j=>PY.2.length-j) 0 [0,1] rfl (by decide) (fun _=>rfl) ⟨Nat.zero_le _,rfl⟩ (sR rfl) ⟨fC rfl rfl,fC rfl rfl,trivial⟩ ?_
  refine⟨(sR rfl),rfl,?_⟩
  rintro j ⟨hj,abE⟩
  refine⟨fun h5=>?_,fun h5=>?_⟩
  ·have hj':j<PY.2.length:=by simpa using h5
   have hfj:=EY (hfit (PY.2.getD j default) (by rw[getD_some hj']; exact List.getElem_mem hj'))
   refine .mk (by simp only[Rw.rng] at *; omega) ?_
   refine ah.pure (S.jO b (PY.2.getD j default) f (by omega) hs.E (by omega)) rfl ?_
   refine⟨fun h6=>?_,fun h6=>?_⟩
   ·replace h6:(!YU b (PY.2.getD j default))=true:=h6
    refine ak.bool ?_
    rw[<- hres,hR]
    refine hnot ?_
    rw[hpo,h4',Bool.true_and]
    exact JW hj' (by simpa using h6)
   ·replace h6:(!YU b (PY.2.getD j default))=false:=h6
    refine .mk (by simp only[okI] at *; omega) ?_
    refine⟨j+1,[0,1],⟨hj',by rw[GK (d:=default) hj',abE,show YU b (PY.2.getD j default)=true by simpa using h6]; rfl⟩,by omega,(sR rfl),(sR rfl),fC rfl rfl,fC rfl rfl,trivial⟩
  ·have hj':j=PY.2.length:=by have:=of_decide_eq_false h5; omega
   subst hj'
   rw[List.take_length] at abE
   refine .mk (by simp only[okI] at *; omega) ?_
   refine⟨k+1,[0,1],⟨hk',by rw[hnx,hall,hpo,h4',abE]; rfl⟩,by omega,(sR rfl),(sR rfl),fC rfl rfl,fC rfl rfl,trivial⟩
 ·have hk':k=b.length:=by have:=of_decide_eq_false h3; omega
  subst hk'
  rw[List.take_length] at hall
  exact ak.bool (by rw[<- hres,hR,hall])
def GL(p:aO)(q:Prop')(x:Elem):Bool:= !(jc p x)&& !(Fg p q x)
def YW(p:aO)(q:Prop')(b:List Elem):Bool:=(fV p q==0)&&decide (b.length<=100)&&b.all (GL p q)&&(kZ p q).all (YU b)&&(List.range p.rules.length).all fun i:Nat=>Mc p q b i
set_option maxHeartbeats 1000000 in
theorem S.lV(p:aO)(q:Prop')(b:List Elem)(f:Bool)(hp:fE p)(hq:uU q)(hl:b.length<2^30)(hs:EM b):aj Tryz.prog 14 [.dat (.iI p),.dat (.prop q),.row 3 f (.elems b)] (.bool (YW p q b)):=by
 have hpr:=hp.rules
 generalize hres:YW p q b=res
 refine aj.of Bd.lV (by simp) rfl rfl ?_
 refine ah.pure (S.oG p q hp hq) rfl ?_
 repeat(refine VC.mk (by first|exact id|(intro h; rw[h]; rfl)) ?_)
 refine⟨fun h1=>?_,fun h1=>?_⟩
 ·replace h1:(fV p q !=0||decide (100<(b.length:Int)))=true:=h1
  refine ak.bool ?_
  rw[<- hres]; unfold YW
  rw[Bool.or_eq_true] at h1
  rcases h1 with h1|h1
  ·rw[show(fV p q==0)=false by simpa using h1]; rfl
  ·have:=of_decide_eq_true h1
   rw[decide_eq_false (by omega: ¬ b.length<=100),Bool.and_false]; rfl
 replace h1:(fV p q !=0||decide (100<(b.length:Int)))=false:=h1
 rw[Bool.or_eq_false_iff] at h1
 obtain⟨h1,h1b⟩:=h1
 have hlen:=of_decide_eq_false h1b
 have h1':(fV p q==0)=true:=by simpa using h1
 have hc0:fV p q=0:=by simpa using h1
 have hB:YW p q b=(b.all (GL p q)&&(kZ p q).all (YU b)&&(List.range p.rules.length).all fun i:Nat=>Mc p q b i):=by
  unfold YW; rw[h1',decide_eq_true (by omega:b.length<=100)]; simp
 obtain⟨_,b2,b3,_⟩:=O6 hc0
 have hv:=O4 b3
 have v1:=hv.pos; have v2:=hv.states; have v3:=hv.values
 have hbad:kZ p q=aX (wH q p.states.length (max 1 p.values.length) (4 ^ p.states.length)):=by rw[kZ,h1,bad_law]; rfl
 obtain⟨l1,l2⟩:=IX p q hp
 refine aC.objs 4 [21,22,2,3,4] (fun k:Nat=>[(23,.int k)]) (fun _=>[(0,DI p),(1,Qp q)]) (fun k=>k<=b.length/\(b.take k).all (GL p q)=true) (fun k=>b.length-k) 0 [0,1] rfl (by decide) (fun _=>rfl) ⟨Nat.zero_le _,rfl⟩ (sR rfl) ⟨fC rfl rfl,fC rfl rfl,trivial⟩ ?_
 refine⟨(sR rfl),rfl,?_⟩
 rintro k ⟨hk,hall⟩
 refine⟨fun h3=>?_,fun h3=>?_⟩
 ·have hk':k<b.length:=by simpa using h3
  have hnx:=GK (P:=GL p q) (d:=default) hk'
  have hnot:=fun h=>JW (P:=GL p q) (d:=default) hk' h
  have hle:=hs.at hk'
  generalize hX:b.getD k default=X at hnx hnot hle
  refine .mk (by simp only[Rw.rng] at *; omega) ?_
  conv=>whnf
  rw[show b.getD ((k:Int)).toNat default=X from hX]
  refine ah.pure (S.gK p X hp hle) rfl ?_
  refine .mk (by intro h; simp[h]; done) ?_
  refine ah.ig (fun _=>S.nM p q X hp hq hle (Ea hc0)) rfl ?_
  refine .mk (by intro h; rw[h]; rfl) ?_
  refine⟨fun h4=>?_,fun h4=>?_⟩
  ·replace h4:(dP (jc p X) 1 !=0||Fg p q X)=true:=h4
   refine ak.bool ?_
   rw[<- hres,hB]
   have:GL p q X=false:=by
    unfold GL
    rw[Dv] at h4
    rw[<- Bool.not_or,h4]; rfl
   rw[hnot this]; rfl
  ·replace h4:(dP (jc p X) 1 !=0||Fg p q X)=false:=h4
   refine .mk (by simp only[okI] at *; omega) ?_
   conv=>whnf
   have:GL p q X=true:=by
    unfold GL
    rw[Dv] at h4
    rw[<- Bool.not_or,h4]; rfl
   exact⟨k+1,[0,1],⟨hk',by rw[hnx,hall,this]; rfl⟩,by omega,(sR rfl),(sR rfl),fC rfl rfl,fC rfl rfl,trivial⟩
 have hk':k=b.length:=by have:=of_decide_eq_false h3; omega
 subst hk'
 rw[List.take_length] at hall
 rw[hall,Bool.true_and] at hB
 clear h3
 refine ah.pure (S.jf p q p.states.length (max 1 p.values.length) hp hq rfl v1 v2 rfl (by omega) b2) rfl ?_
 conv=>whnf
 rw[<- hbad]
 refine aC.objs 4 [40,41,2,3,4] (fun k:Nat=>[(42,.int k)]) (fun _=>[(0,DI p),(1,Qp q)]) (fun k=>k<=(kZ p q).length/\((kZ p q).take k).all (YU b)=true) (fun k=>(kZ p q).length-k) 0 [0,1] rfl (by decide) (fun _=>rfl) ⟨Nat.zero_le _,rfl⟩ (sR rfl) ⟨fC rfl rfl,fC rfl rfl,trivial⟩ ?_
 refine⟨(sR rfl),rfl,?_⟩
 rintro k ⟨hk,abG⟩
 refine⟨fun h3=>?_,fun h3=>?_⟩
 ·have hk':k<(kZ p q).length:=by simpa using h3
  have hle:=l2 ((kZ p q).getD k default) (by rw[getD_some hk']; exact List.getElem_mem hk')
  refine .mk (by simp only[Rw.rng] at *; omega) ?_
  refine ah.pure (S.jO b ((kZ p q).getD k default) f (by omega) hs.E hle) rfl ?_
  refine⟨fun h6=>?_,fun h6=>?_⟩
  ·replace h6:(!YU b ((kZ p q).getD k default))=true:=h6
   refine ak.bool ?_
   rw[<- hres,hB,JW (P:=YU b) hk' (by simpa using h6)]; rfl
  ·replace h6:(!YU b ((kZ p q).getD k default))=false:=h6
   refine .mk (by simp only[okI] at *; omega) ?_
   exact⟨k+1,[0,1],⟨hk',by rw[GK (d:=default) hk',abG,show YU b ((kZ p q).getD k default)=true by simpa using h6]; rfl⟩,by omega,(sR rfl),(sR rfl),fC rfl rfl,fC rfl rfl,trivial⟩
 have hk':k=(kZ p q).length:=by have:=of_decide_eq_false h3; omega
 subst hk'
 rw[List.take_length] at abG
 rw[abG,Bool.true_and] at hB
 clear h3
 refine aC.objs 4 [53,2,3,4] (fun k:Nat=>[(54,.int k)]) (fun _=>[(0,DI p),(1,Qp q)]) (fun k=>k<=p.rules.length/\((List.range k).all fun i:Nat=>Mc p q b i)=true) (fun k=>p.rules.length-k) 0 [0,1] rfl (by decide) (fun _=>rfl) ⟨Nat.zero_le _,rfl⟩ (sR rfl) ⟨fC rfl rfl,fC rfl rfl,trivial⟩ ?_
 refine⟨(sR rfl),rfl,?_⟩
 rintro k ⟨hk,aeD⟩
 refine⟨fun h3=>?_,fun h3=>?_⟩
 ·have hk':k<p.rules.length:=by simpa using h3
  refine ah.pure (S.nG p q b k f hp hq hl hs) rfl ?_
  refine⟨fun h6=>?_,fun h6=>?_⟩
  ·replace h6:(!Mc p q b k)=true:=h6
   refine ak.bool ?_
   rw[<- hres,hB]
   rw[List.all_eq_false]
   exact⟨k,List.mem_range.2 hk',by simpa using h6⟩
  ·replace h6:(!Mc p q b k)=false:=h6
   refine .mk (by simp only[okI] at *; omega) ?_
   exact⟨k+1,[0,1],⟨hk',by rw[List.range_succ,List.all_append,aeD]; simpa using h6⟩,by omega,(sR rfl),(sR rfl),fC rfl rfl,fC rfl rfl,trivial⟩
 ·have hk':k=p.rules.length:=by have:=of_decide_eq_false h3; omega
  subst hk'
  exact ak.bool (by rw[<- hres,hB,aeD])
end Go.Proofs.YtkmldgihhaooaaaGreatDoor
