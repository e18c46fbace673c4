/-
 What is before a step with a rule: the program's answer. No condition.
-/
import Derived.Test.YtdhobgbagphngaaGreatDoorQb
import Derived.Test.YtdhobgbagphngaaGreatDoorFa
namespace Go.Proofs.YtdhobgbagphngaaGreatDoor
open Go.Ab Go.Proofs
set_option maxRecDepth 100000
def vS(vs:List Int)(cs:List (List Int))(i j:Nat):List Elem:=((vs.take i).flatMap fun v=>cs.map fun c=>(⟨v,c⟩:Elem))++(cs.take j).map fun c=>⟨vs.getD i 0,c⟩
theorem RY{vs:List Int}{cs:List (List Int)}{i j:Nat}(hi:i<=vs.length)(hj:j<=cs.length):(vS vs cs i j).length=i*cs.length+j:=by
 have: ∀ L:List Int,(L.flatMap fun v=>cs.map fun c=>(⟨v,c⟩:Elem)).length=L.length*cs.length:=by
  intro L;induction L with
  |nil=>simp
  |cons c L ih=>rw[List.flatMap_cons,List.length_append,ih,List.length_map,List.length_cons,Nat.succ_mul,Nat.add_comm]
 unfold vS;rw[List.length_append,this,List.length_map,List.length_take,List.length_take,Nat.min_eq_left hi,Nat.min_eq_left hj]
theorem X9{vs:List Int}{cs:List (List Int)}{i j:Nat}(hj:j<cs.length):vS vs cs i (j+1)=vS vs cs i j++[⟨vs.getD i 0,cs.getD j []⟩]:=by
 unfold vS;rw[List.take_succ_eq_append_getElem hj,List.map_append,<- List.append_assoc,getD_some hj]; rfl
theorem Ya{vs:List Int}{cs:List (List Int)}{i:Nat}(hi:i<vs.length):vS vs cs (i+1) 0=vS vs cs i cs.length:=by
 unfold vS;rw[List.take_succ_eq_append_getElem hi,List.flatMap_append,List.take_length,getD_some hi];simp
theorem RZ{vs:List Int}{cs:List (List Int)}:vS vs cs vs.length 0=vs.flatMap fun v=>cs.map fun c=>⟨v,c⟩:=by
 unfold vS;rw[List.take_length]; simp
theorem aaB{vs:List Int}{cs:List (List Int)}{i j:Nat}{x:Elem}(h:x∈vS vs cs i j):x.counts∈cs:=by
 unfold vS at h;rcases List.mem_append.1 h with h|h
 ·obtain⟨v,_,h⟩:=List.mem_flatMap.1 h;obtain⟨c,hc,rfl⟩:=List.mem_map.1 h;exact hc
 ·obtain⟨c,hc,rfl⟩:=List.mem_map.1 h;exact List.mem_of_mem_take hc
def aaC(x:Elem):Bool:= !(x.counts.all Ag)
def Yb(x:Int×List Elem):V:=.dn [.row 3 false (.elems x.2),.int x.1]
theorem KX{r:Rule}{c:List Int}(hp:Jp c.length r)(h0:TB c)(hl:c.length<=6): ∀ l∈yJ r c,l.length=c.length:=by
 intro l hl';obtain⟨d,hd,rfl⟩:=List.mem_map.1 hl';rw[uq];exact(KT hp h0 hl d hd).1
set_option maxHeartbeats 2000000 in
theorem S.oV(p:aH)(r:Rule)(e:Elem)(hv:p.values.length<2^20)(hr:uV r)(hp:Jp e.counts.length r)(h0:TB e.counts)(hl0:0<e.counts.length)(hl:e.counts.length<=6)(hx:r.ex.length<=100)(hk:r.kind=1\/r.kind=2\/r.kind=3):aj Tryz.prog 117 [.dat (.fK p),.dat (.rule r),.dat (.elem e)] (Yb (xR p r e)):=by
 rw[<- acI];generalize hres:Yb (acH p r e)=res;have hvl:(qE p r e.value).length<2^21:=by
  unfold qE;cases decide (0<=r.write)&&r.write !=e.value
  ·cases decide (r.write<0)&&(decide (0<=r.read)&&r.read !=e.value)
   ·cases decide (0<=r.read)
    ·cases decide (r.write<0)
     ·show((List.range _).map _).length<_;rw[List.length_map,List.length_range]; omega
     ·exact(by decide:(1:Nat)<2^21)
    ·exact(by decide:(1:Nat)<2^21)
   ·exact(by decide:(0:Nat)<2^21)
  ·exact(by decide:(0:Nat)<2^21)
 have hcl:=KX hp h0 hl;refine aj.of Bd.oV (by simp) rfl (by rw[<- hres]; rfl) ?_;refine ah.pure (S.jG p r e.value hv) rfl ?_;conv=>whnf
 have hC:acH p r e=bif (qE p r e.value).length==0 then(0,[]) else bif decide (100<(yJ r e.counts).length)||decide (100<(yJ r e.counts).length*(qE p r e.value).length) then(4,[]) else
  bif (vS (qE p r e.value) (yJ r e.counts) (qE p r e.value).length 0).any aaC then(4,[]) else(0,bW (vS (qE p r e.value) (yJ r e.counts) (qE p r e.value).length 0)):=by rw[RZ]; rfl
 have hS:=S.jH r e.counts false hr hp h0 hl0 hl hx hk;generalize hvs:qE p r e.value=vs at hC hvl ⊢;generalize hcs:yJ r e.counts=cs at hC hcl;refine⟨fun h1=>?_,fun h1=>?_⟩
 ·conv=>whnf
  have h1':(vs.length==0)=true:=by
   have:((vs.length:Int)==0)=true:=h1
   simpa using this
  rw[<- hres,hC,h1'];exact ak.EL
 have h1':(vs.length==0)=false:=by
  have:((vs.length:Int)==0)=false:=h1
  simpa using this
 rw[h1',cond_false] at hC;refine ah.pure hS NS ?_;unfold KR;rw[hcs];cases h2:decide (cs.length<=100) with
 |false =>
  have h2':=of_decide_eq_false h2;rw[decide_eq_true (by omega:100<cs.length),Bool.true_or,cond_true] at hC;repeat(refine VC.mk (by first|exact id|(intro h; rw[h]; rfl)|(intro h; simp_all; done)) ?_)
  refine Fork.mk (fun _=>?_) (fun q=>absurd (q.symm.trans (rfl)) Bool.false_ne_true);conv=>whnf
  rw[<- hres,hC];exact ak.EL
 |true =>
  have h2':=of_decide_eq_true h2;rw[decide_eq_false (by omega: ¬ 100<cs.length),Bool.false_or] at hC;have hmul:cs.length*vs.length<=100*2^21:=Nat.mul_le_mul h2' (Nat.le_of_lt hvl);repeat(refine VC.mk (by first|(intro _; refine⟨rfl,rfl,?_⟩; show okI ((cs.length:Int)*(vs.length:Int)); rw[<- Int.natCast_mul]; simp only[okI]; omega)|exact fun h=>h|(intro h; rw[h]; rfl)) ?_)
  refine⟨fun h3=>?_,fun h3=>?_⟩
  ·have h3':100<cs.length*vs.length:=by
    replace h3:decide (100<(cs.length:Int)*(vs.length:Int))=true:=h3;have:=of_decide_eq_true h3;rw[<- Int.natCast_mul] at this;omega
   rw[decide_eq_true h3',cond_true] at hC;conv=>whnf
   rw[<- hres,hC];exact ak.EL
  have h3':cs.length*vs.length<=100:=by
   replace h3:decide (100<(cs.length:Int)*(vs.length:Int))=false:=h3;have:=of_decide_eq_false h3;rw[<- Int.natCast_mul] at this;omega
  rw[decide_eq_false (by omega: ¬ 100<cs.length*vs.length),cond_false] at hC;rw[Nat.mul_comm] at h3';refine aC.nil 11 31 3 (by rfl) rfl rfl rfl ?_;refine aC.objs 3 [41,42,9] (fun i:Nat=>[(43,.int i),(11,.own 2)]) (fun i=>[(2,dF (vS vs cs i 0))]) (fun i=>i<=vs.length/\(vS vs cs i 0).any aaC=false) (fun i=>vs.length-i) 0 [37] rfl (by decide) (fun _=>rfl) ⟨Nat.zero_le _,rfl⟩ (sR rfl) ⟨iQ rfl rfl,trivial⟩ ?_;refine⟨(sR rfl),rfl,?_⟩;rintro i ⟨hi,hno⟩;have hN0:=RY hi (Nat.zero_le cs.length);have hN0':i*cs.length<=100:=Nat.le_trans (Nat.mul_le_mul_right _ hi) h3';refine⟨fun h4=>?_,fun h4=>?_⟩
  ·have hi':i<vs.length:=by simpa using h4
   refine .mk (by simp only[Rw.rng] at *; omega) ?_;refine aC.adg 3 [47,48,13,41,42,43,9] (fun j:Nat=>[(49,.int j),(11,.own 2)]) (fun j=>[(2,dF (vS vs cs i j))]) (fun j=>j<=cs.length/\(vS vs cs i j).any aaC=false) (fun j=>cs.length-j) 0 [2] [(2,some (dF (vS vs cs i 0)))] rfl (by decide) (fun _=>rfl) ⟨Nat.zero_le _,hno⟩ (sR rfl) ⟨fun _=>False,rH (Z:=fun _=>False) rfl (fun q=>q),trivial⟩ ⟨vJ rfl rfl,trivial⟩ ?_;refine⟨(sR rfl),rfl,?_⟩;rintro j ⟨hj,aeS⟩;have hNj:=RY hi hj;have aeQ:i*cs.length+j<=100:=by
    have:=Nat.mul_le_mul_right cs.length hi';rw[Nat.succ_mul] at this;omega
   refine⟨fun h5=>?_,fun h5=>?_⟩
   ·have hj':j<cs.length:=by simpa using h5
    have hst:=X9 (vs:=vs) (i:=i) hj';have hcj:=hcl (cs.getD j []) (by rw[getD_some hj']; exact List.getElem_mem hj');replace hcj:(cs.getD ((j:Int)).toNat []).length=e.counts.length:=hcj;repeat(refine VC.mk (by first|(first|(simp only[mJ,nP,Rw.len]; omega)|(show((vS vs cs i j).length+(0+1))*32<=140737488355328/\(vS vs cs i j).length+(0+1)<=1152921504606846976; omega))|(simp only[Rw.rng] at *; omega)) ?_)
    refine ah.pure (S.kQ (cs.getD j []) false (by show(cs.getD ((j:Int)).toNat []).length<_; omega)) rfl ?_;refine⟨fun h6=>?_,fun h6=>?_⟩
    ·conv=>whnf
     have hb:(vS vs cs vs.length 0).any aaC=true:=by
      rw[List.any_eq_true];refine⟨⟨vs.getD i 0,cs.getD j []⟩,?_,h6⟩;rw[RZ];exact List.mem_flatMap.2 ⟨vs.getD i 0,by rw[getD_some hi']; exact List.getElem_mem hi',List.mem_map.2 ⟨cs.getD j [],by rw[getD_some hj']; exact List.getElem_mem hj',rfl⟩⟩
     rw[hb,cond_true] at hC;rw[<- hres,hC];exact ak.EL
    ·conv=>whnf
     refine .mk (by simp only[okI] at *; omega) ?_;refine⟨[(13,some (dF (vS vs cs i j++[⟨vs.getD i 0,cs.getD j []⟩])))],j+1,[13],⟨fun i=>i=10,P8 (Z:=fun i=>i=10) (i:=13) (j:=10) rfl (by decide) rfl rfl,trivial⟩,⟨hj',?_⟩,by omega,(sR rfl),(sR rfl),okF rfl nofun rfl rfl rfl ⟨rfl,rfl⟩ (by rw[hst]),trivial⟩;rw[hst,List.any_append,aeS];show(aaC _||false)=false;rw[Bool.or_false];exact h6
   ·have hj':j=cs.length:=by have:=of_decide_eq_false h5; omega
    subst hj';rw[<- Ya hi'] at aeS ⊢;refine .mk (by simp only[okI] at *; omega) ?_;exact⟨i+1,[2],⟨hi',aeS⟩,by omega,(sR rfl),(sR rfl),iQ rfl rfl,trivial⟩
  ·have hi':i=vs.length:=by have:=of_decide_eq_false h4; omega
   subst hi';rw[hno,cond_false] at hC;rw[<- hres,hC];refine ah.shut (fun _=>True) (h2:=[]) trivial (S.kY (vS vs cs vs.length 0) false (by omega) (fun x hx=>by have:=hcl _ (aaB hx); omega)) ⟨Qj trivial rfl,trivial⟩ ?_;exact ak.eqv rfl
theorem acM: ∀ {l:List Int},F8 l=true->l.Pairwise (· < ·):=by
 intro l;induction l with
 |nil=>intro _; exact .nil
 |cons a r ih =>
  intro h;cases r with
  |nil=>exact List.pairwise_singleton ..
  |cons b r =>
   simp only[F8,Bool.and_eq_true,decide_eq_true_eq] at h;have h2:=ih h.2;refine List.pairwise_cons.2 ⟨fun x hx=>?_,h2⟩;rcases List.mem_cons.1 hx with rfl|hx
   ·exact h.1
   ·have:=(List.pairwise_cons.1 h2).1 x hx; omega
theorem aeT{n:Int}: ∀ {l:List Int} {k:Int},l.Pairwise (· < ·)->(∀ x∈l,k<=x/\x<n)->k<=n->k+l.length<=n:=by
 intro l;induction l with
 |nil=>intro k _ _ h; simp; exact h
 |cons a r ih =>
  intro k hp hx hk;have ha:=hx a (by simp);have:=ih (k:=a+1) (List.pairwise_cons.1 hp).2 (fun x h=>⟨(List.pairwise_cons.1 hp).1 x h,(hx x (by simp[h])).2⟩) (by omega);rw[List.length_cons]; omega
theorem acN{l:List Int}{n:Int}(h:jf l n=0):F8 l=true:=by
 unfold jf at h;obtain⟨_,h⟩:=bz (fun _=>by decide) h;cases hb:F8 l with
 |true=>rfl
 |false=>rw[hb] at h; exact absurd h (by decide)
structure adx(n:Nat)(p:aH)(r:Rule):Prop where
 rf:YG n p r
 nd:r.ex.Nodup
 xl:r.ex.length<=n
theorem Si{p:aH}{i:Nat}(hv:Oa p)(ht:p.topology=1)(hi:i<p.rules.length):adx p.states.length p (p.rules.getD i default):=by
 have hf:=YtdhobgbagphngaaGreatDoor.afa hv ht hi
 suffices hh:(p.rules.getD i default).ex.Nodup/\(p.rules.getD i default).ex.length<=p.states.length from⟨hf,hh.1,hh.2⟩
 by_cases hk:(p.rules.getD i default).kind=1
 ·have h:=hv.rule i hi;simp only[gK] at h;obtain⟨_,h⟩:=bz (fun _=>by decide) h;obtain⟨_,h⟩:=bz (fun _=>by decide) h;obtain⟨_,h⟩:=bz nz h;rw[hk] at h;have g:=kP h;have hs:=acM (acN (g (jf (p.rules.getD i default).ex p.states.length) (by simp)));refine⟨hs.imp fun h=>by omega,?_⟩;have:=aeT (k:=0) hs (fun x hx=>hf.place.exs x hx) (by omega);omega
 ·rw[(hf.ex1 hk).1];exact⟨List.nodup_nil,Nat.zero_le _⟩
theorem IC.Si{p:aH}{e:Elem}(h:IC p e){r:Rule}(hr:r∈p.rules):adx e.counts.length p r:=by
 obtain⟨i,hi,rfl⟩:=List.getElem_of_mem hr;have:=YtdhobgbagphngaaGreatDoor.Si h.valid (Wu h.plain) hi;rw[getD_some hi] at this;rw[h.len]; exact this
theorem aaD{n:Nat}{p:aH}{r:Rule}{v:Int}(hr:YG n p r)(hv:0<=v/\v<max 1 (p.values.length:Int)): ∀ u∈qE p r v,0<=u/\u<max 1 (p.values.length:Int):=by
 have ho: ∀ x:Int,rE x p.values.length=false->0<=x/\x<max 1 (p.values.length:Int):=fun x h=>by
  have:=vK h;omega
 intro u hu;unfold qE at hu;cases h1:decide (0<=r.write)&&r.write !=v with
 |true=>rw[h1] at hu; cases hu
 |false =>
  rw[h1,cond_false] at hu;cases h2:decide (r.write<0)&&(decide (0<=r.read)&&r.read !=v) with
  |true=>rw[h2] at hu; cases hu
  |false =>
   rw[h2,cond_false] at hu;cases h3:decide (0<=r.read) with
   |true =>
    rw[h3,cond_true,List.mem_singleton] at hu;subst hu;have:=of_decide_eq_true h3;rcases hr.rd with h|h
    ·exact ho _ h
    ·omega
   |false =>
    rw[h3,cond_false] at hu;cases h4:decide (r.write<0) with
    |true=>rw[h4,cond_true,List.mem_singleton] at hu; subst hu; exact hv
    |false =>
     rw[h4,cond_false,List.mem_map] at hu;obtain⟨x,hx,rfl⟩:=hu;have:=List.mem_range.1 hx;omega
theorem aaE{p:aH}{r:Rule}{e:Elem}:(xR p r e).1=0\/(xR p r e).1=4:=by
 unfold xR;cases decide (100<(BQ p r e).length)||(BQ p r e).any fun x=> !(x.counts.all Ag)
 ·exact .inl rfl
 ·exact .inr rfl
theorem KY{p:aH}{r:Rule}{e:Elem}:(xR p r e).2.length<=100:=by
 unfold xR;cases h:decide (100<(BQ p r e).length)||(BQ p r e).any fun x=> !(x.counts.all Ag) with
 |true=>exact Nat.zero_le _
 |false =>
  rw[Bool.or_eq_false_iff] at h;have:=of_decide_eq_false h.1;exact Nat.le_trans (D6 _) (by omega)
theorem Sj{p:aH}{r:Rule}{e x:Elem}(hF:IC p e)(hr:r∈p.rules)(h:x∈(xR p r e).2):nX p x=false:=by
 have hX:=hF.Si hr;have h6:=hF.valid.states;have hl:=hF.len;unfold xR at h;cases hb:decide (100<(BQ p r e).length)||(BQ p r e).any fun x=> !(x.counts.all Ag) with
 |true=>rw[hb] at h; cases h
 |false =>
  rw[hb,cond_false] at h;rw[Bool.or_eq_false_iff] at hb;have h:=wP h;obtain⟨h1,h2⟩:=acE.1 h;have h3:=aaD hX.rf hF.val _ h1;have h4:=KX hX.rf.place hF.nums (by omega) _ h2;have h5:=List.any_eq_false.1 hb.2 x h;unfold nX;rw[show((x.counts.length:Int) !=p.states.length)=false by simp; omega,show decide (x.value<0)=false by simp; omega,show decide (x.value>=max 1 (p.values.length:Int))=false by simp only[decide_eq_false_iff_not]; omega];simpa using h5
theorem aaF{p:aH}{e x:Elem}(hF:IC p e)(h:nX p x=false):IC p x:=by
 unfold nX at h;simp only[Bool.or_eq_false_iff] at h;obtain⟨⟨⟨h1,h2⟩,h3⟩,h4⟩:=h;have h1':(x.counts.length:Int)=p.states.length:=by simpa using h1
 refine⟨hF.valid,hF.plain,by omega,fun y hy=>?_,?_⟩
 ·have:x.counts.all Ag=true:=by simpa using h2
  have:=List.all_eq_true.1 this y hy;unfold Ag at this;simpa using this
 ·have:=of_decide_eq_false h3;have:=of_decide_eq_false h4;omega
def KZ(p:aH):Int:=bif aX p !=0 then aX p else bif (gW p).cover then 0 else 7
theorem Py{p:aH}{e:Elem}(h1:KZ p=0)(h2:nX p e=false):IC p e:=by
 unfold KZ at h1;obtain⟨h0,h1⟩:=bz nz h1;have hv:aX p=0:=by simpa using h0
 refine ags (TF hv ?_ h2);cases hc:(gW p).cover with
 |true=>rfl
 |false=>rw[hc] at h1; exact absurd h1 (by decide)
theorem S.lG(p:aH)(hp:dG p):aj Tryz.prog 123 [.dat (.fK p)] (.int (KZ p)):=by
 refine aj.of Bd.lG (by simp) rfl rfl ?_;refine ah.pure (S.gX p hp) rfl ?_;repeat(refine VC.mk id ?_)
 refine⟨fun h1=>?_,fun h1=>?_⟩
 ·replace h1:((aX p==0)&& !(bif aX p !=0 then EM else gW p).cover)=true:=h1;refine ak.int ?_;rw[Bool.and_eq_true] at h1;have hv:(aX p !=0)=false:=by simpa using h1.1
  rw[hv] at h1;unfold KZ;rw[hv,show(gW p).cover=false by simpa using h1.2]; rfl
 ·replace h1:((aX p==0)&& !(bif aX p !=0 then EM else gW p).cover)=false:=h1;refine ak.int ?_;unfold KZ;cases hv:(aX p !=0) with
  |true=>rfl
  |false =>
   have hz:aX p=0:=by simpa using hv
   rw[hv,hz] at h1;rw[cond_false,hz]
   have:(gW p).cover=true:=by simpa using h1
   rw[this]; rfl
def U7(p:aH)(i:Int)(e:Elem):Int×List Elem:=bif KZ p !=0 then(KZ p,[]) else bif nX p e then(1,[]) else bif decide (i<0)||decide (i>=p.rules.length) then(6,[]) else xR p (p.rules.getD i.toNat default) e
theorem Jk{b:Bool}:(dV b 1 !=0)=b:=by cases b<;>rfl
theorem aeU{b:Bool}(h:(dV b 1 !=0)=true):dV b 1=1:=by cases b<;>first|rfl|cases h
set_option maxHeartbeats 1000000 in
theorem S.pX(p:aH)(i:Int)(e:Elem)(hp:dG p)(he:e.counts.length<2^30):aj Tryz.prog 93 [.dat (.fK p),.int i,.dat (.elem e)] (Yb (U7 p i e)):=by
 have hpr:=hp.rules;generalize hres:Yb (U7 p i e)=res;refine aj.of Bd.pX (by simp) rfl (by rw[<- hres]; rfl) ?_;refine ah.pure (S.lG p hp) rfl ?_;refine⟨fun h1=>?_,fun h1=>?_⟩
 ·conv=>whnf
  rw[<- hres,U7,h1];exact ak.EL
 refine ah.pure (S.gI p e hp he) rfl ?_;refine⟨fun h2=>?_,fun h2=>?_⟩
 ·replace h2:(dV (nX p e) 1 !=0)=true:=h2;conv=>whnf
  rw[aeU h2];rw[Jk] at h2;rw[<- hres,U7,h1,h2];exact ak.EL
 replace h2:(dV (nX p e) 1 !=0)=false:=h2;rw[Jk] at h2;have hF:=Py (AA h1) h2;have h6:=hF.valid.states;have h0:=hF.valid.pos;have hl:=hF.len;repeat(refine VC.mk (by first|exact id|exact fun h=>⟨h,h⟩|(intro h; rw[h]; rfl)) ?_)
 refine⟨fun h3=>?_,fun h3=>?_⟩
 ·replace h3:(decide (i<0)||decide (i>=p.rules.length))=true:=h3;conv=>whnf
  rw[<- hres,U7,h1,h2,h3];exact ak.EL
 ·replace h3:(decide (i<0)||decide (i>=p.rules.length))=false:=h3;have h3':=h3;simp only[Bool.or_eq_false_iff,decide_eq_false_iff_not] at h3';have hi:i.toNat<p.rules.length:=by omega
  have hX:=hF.Si (r:=p.rules.getD i.toNat default) (by rw[getD_some hi]; exact List.getElem_mem hi);refine .mk (by simp only[Rw.rng]; omega) ?_;refine ah.pure (S.oV p (p.rules.getD i.toNat default) e hp.values (hp.rule _) hX.rf.place hF.nums (by omega) (by omega) (by have:=hX.xl; omega) hX.rf.kind) rfl ?_;conv=>whnf
  rw[<- hres,U7,h1,h2,h3];exact ak.eqv rfl
def nK(p:aH)(e:Elem)(i:Nat):List Elem:=(p.rules.take i).flatMap fun r=>(xR p r e).2
def xJ(p:aH)(e:Elem):Int×List Elem:=bif p.rules.any (fun r=>(xR p r e).1 !=0) then(4,[]) else bif decide (100<(bW (nK p e p.rules.length)).length) then(4,[]) else(0,bW (nK p e p.rules.length))
theorem Sl{p:aH}{e:Elem}{i:Nat}(hi:i<p.rules.length):nK p e (i+1)=nK p e i++(xR p (p.rules.getD i default) e).2:=by
 unfold nK;rw[List.take_succ_eq_append_getElem hi,List.flatMap_append,getD_some hi]; simp
theorem U8{p:aH}{e:Elem}{i:Nat}:(nK p e i).length<=i*100:=by
 unfold nK
 have: ∀ L:List Rule,(L.flatMap fun r=>(xR p r e).2).length<=L.length*100:=by
  intro L;induction L with
  |nil=>simp
  |cons c L ih=>rw[List.flatMap_cons,List.length_append,List.length_cons,Nat.succ_mul]; have:=@KY p c e; omega
 exact Nat.le_trans (this _) (Nat.mul_le_mul_right _ (by rw[List.length_take]; omega))
theorem La{p:aH}{e x:Elem}{i:Nat}(hF:IC p e)(h:x∈nK p e i):nX p x=false:=by
 obtain⟨r,hr,h⟩:=List.mem_flatMap.1 h;exact Sj hF (List.mem_of_mem_take hr) h
theorem V5{p:aH}{x:Elem}(h:nX p x=false):x.counts.length=p.states.length:=by
 unfold nX at h;simp only[Bool.or_eq_false_iff] at h
 have:(x.counts.length:Int)=p.states.length:=by simpa using h.1.1.1
 omega
set_option maxHeartbeats 1000000 in
theorem S.wC(p:aH)(e:Elem)(hp:dG p)(hF:IC p e):aj Tryz.prog 85 [.dat (.fK p),.dat (.elem e)] (Yb (xJ p e)):=by
 have hpr:=hp.rules;have h6:=hF.valid.states;have h8:=hF.valid.adE;have h0:=hF.valid.pos;have hl:=hF.len;generalize hres:Yb (xJ p e)=res;refine aj.of Bd.wC (by simp) rfl (by rw[<- hres]; rfl) ?_;refine aC.nil 6 31 3 (by rfl) rfl rfl rfl ?_;refine aC.objs 3 [2,3,13,14] (fun i:Nat=>[(15,.int i),(6,.own 2)]) (fun i=>[(0,.box 27 11 (.dat (.fK p))),(1,.box 31 3 (.dat (.elem e))),(2,dF (nK p e i))]) (fun i=>i<=p.rules.length/\(p.rules.take i).any (fun r=>(xR p r e).1 !=0)=false) (fun i=>p.rules.length-i) 0 [0,1,9] rfl (by decide) (fun _=>rfl) ⟨Nat.zero_le _,rfl⟩ (sR rfl) ⟨iQ rfl rfl,iQ rfl rfl,iQ rfl rfl,trivial⟩ ?_;refine⟨(sR rfl),rfl,?_⟩;rintro i ⟨hi,hno⟩;have hpl:=U8 (p:=p) (e:=e) (i:=i);refine⟨fun h1=>?_,fun h1=>?_⟩
 ·have hi':i<p.rules.length:=by simpa using h1
  have hst:=Sl (e:=e) hi';have hmem:p.rules.getD i default∈p.rules:=by rw[getD_some hi']; exact List.getElem_mem hi'
  have hX:=hF.Si hmem;have hlen:=@KY p (p.rules.getD i default) e;refine .mk (by simp only[Rw.rng] at *; omega) ?_;refine ah.pure (S.oV p (p.rules.getD i default) e hp.values (hp.rule _) hX.rf.place hF.nums (by omega) (by omega) (by have:=hX.xl; omega) hX.rf.kind) rfl ?_;have herr:=@aaE p (p.rules.getD i default) e;generalize hq:xR p (p.rules.getD i default) e=q at hst hlen herr;refine⟨fun h2=>?_,fun h2=>?_⟩
  ·replace h2:(q.1 !=0)=true:=h2;conv=>whnf
   have h4:q.1=4:=by
    rcases herr with h|h
    ·rw[h] at h2; cases h2
    ·exact h
   have hany:p.rules.any (fun r=>(xR p r e).1 !=0)=true:=List.any_eq_true.2 ⟨_,hmem,by rw[hq]; exact h2⟩;rw[<- hres,xJ,hany,h4];exact ak.EL
  ·replace h2:(q.1 !=0)=false:=h2;repeat(refine VC.mk (by first|(show((nK p e i).length+q.2.length)*32<=140737488355328/\(nK p e i).length+q.2.length<=1152921504606846976; omega)|(simp only[okI] at *; omega)) ?_)
   refine⟨i+1,[0,1,21],⟨hi',?_⟩,by omega,(sR rfl),(sR rfl),iQ rfl rfl,iQ rfl rfl,⟨rfl,nofun,rfl,rfl,rfl,_,rfl,rfl,rfl,dQ.of_eq (by rw[hst])⟩,trivial⟩;rw[List.take_succ_eq_append_getElem hi',List.any_append,hno,Bool.false_or,<- getD_some (d:=default) hi'];show((xR p (p.rules.getD i default) e).1 !=0||false)=false;rw[hq,h2]; rfl
 ·have hi':i=p.rules.length:=by have:=of_decide_eq_false h1; omega
  subst hi';rw[List.take_length] at hno;have hX:xJ p e=bif decide (100<(bW (nK p e p.rules.length)).length) then(4,[]) else(0,bW (nK p e p.rules.length)):=by unfold xJ; rw[hno]; rfl
  refine ah.shut (fun c=>c=2) (h2:=[]) trivial (S.kY (nK p e p.rules.length) false (by omega) (fun x hx=>by have:=V5 (La hF hx); omega)) ⟨Qj rfl rfl,trivial⟩ ?_;generalize bW (nK p e p.rules.length)=M at hX;refine⟨fun h2=>?_,fun h2=>?_⟩
  ·replace h2:decide (100<(M.length:Int))=true:=h2;have:=of_decide_eq_true h2;rw[decide_eq_true (by omega:100<M.length),cond_true] at hX;conv=>whnf
   rw[<- hres,hX];exact ak.EL
  ·replace h2:decide (100<(M.length:Int))=false:=h2;have:=of_decide_eq_false h2;rw[decide_eq_false (by omega: ¬ 100<M.length),cond_false] at hX;conv=>whnf
   rw[<- hres,hX];exact ak.eqv rfl
def Yc(b:List Elem)(y:Elem):Bool:=b.any fun z=>tV z y
def Ye(p:aH)(b:List Elem)(i:Int)(x:Elem):Bool:=(U7 p i x).1==0&&(U7 p i x).2.all (Yc b)
def Lc(p:aH)(q:Prop')(b:List Elem)(i:Int):Bool:=(fP p q==0)&& !(decide (i<0)||decide (i>=p.rules.length))&&b.all (Ye p b i)
theorem acO{p:aH}{i:Int}{e:Elem}:(U7 p i e).2.length<=100:=by
 unfold U7;cases KZ p !=0
 ·cases nX p e
  ·cases decide (i<0)||decide (i>=p.rules.length)
   ·exact KY
   ·exact Nat.zero_le _
  ·exact Nat.zero_le _
 ·exact Nat.zero_le _
theorem acP{p:aH}{i:Int}{e x:Elem}(h:x∈(U7 p i e).2):nX p x=false:=by
 unfold U7 at h;cases h1:(KZ p !=0) with
 |true=>rw[h1] at h; cases h
 |false =>
  rw[h1] at h;cases h2:nX p e with
  |true=>rw[h2] at h; cases h
  |false =>
   rw[h2] at h;cases h3:decide (i<0)||decide (i>=p.rules.length) with
   |true=>rw[h3] at h; cases h
   |false =>
    rw[h3] at h;simp only[Bool.or_eq_false_iff,decide_eq_false_iff_not] at h3;have hi:i.toNat<p.rules.length:=by omega
    exact Sj (Py (AA h1) h2) (by rw[getD_some hi]; exact List.getElem_mem hi) h
theorem F9{α:Type}{P:α->Bool}{l:List α}{i:Nat}{d:α}(h:i<l.length):(l.take (i+1)).all P=((l.take i).all P&&P (l.getD i d)):=by
 rw[List.take_succ_eq_append_getElem h,List.all_append,getD_some h]; simp
theorem Jl{α:Type}{P:α->Bool}{l:List α}{i:Nat}{d:α}(h:i<l.length)(hp:P (l.getD i d)=false):l.all P=false:=by
 rw[List.all_eq_false];exact⟨_,by rw[getD_some (d:=d) h] at hp; exact List.getElem_mem h,by rw[getD_some h] at hp; rw[hp]; decide⟩
def Es(b:List Elem):Prop:= ∀ x∈b,x.counts.length<2^30
theorem Es.E{b:List Elem}(h:Es b):eH b:=fun x hx=>by have:=h x hx; omega
theorem Es.at{b:List Elem}(h:Es b){i:Nat}(hi:i<b.length):(b.getD i default).counts.length<2^30:=by rw[getD_some hi]; exact h _ (List.getElem_mem hi)
abbrev IJ(p:aH):OV:=.box 27 11 (.dat (.fK p))
abbrev Pz(q:Prop'):OV:=.box 68 7 (.dat (.prop q))
set_option maxHeartbeats 1000000 in
theorem S.mW(p:aH)(q:Prop')(b:List Elem)(i:Int)(f:Bool)(hp:dG p)(hq:tJ q)(hl:b.length<2^30)(hs:Es b):aj Tryz.prog 49 [.dat (.fK p),.dat (.prop q),.row 3 f (.elems b),.int i] (.bool (Lc p q b i)):=by
 have hpr:=hp.rules;have hst:=hp.states;generalize hres:Lc p q b i=res;refine aj.of Bd.mW (by simp) rfl rfl ?_;refine ah.pure (S.nY p q hp hq) rfl ?_;refine⟨fun h1=>?_,fun h1=>?_⟩
 ·replace h1:(fP p q !=0)=true:=h1;refine ak.bool ?_;rw[<- hres]; unfold Lc;rw[show(fP p q==0)=false by simpa using h1]; rfl
 replace h1:(fP p q !=0)=false:=h1;have h1':(fP p q==0)=true:=by simpa using h1
 repeat(refine VC.mk (by first|exact id|exact fun h=>⟨h,h⟩|(intro h; rw[h]; rfl)) ?_)
 refine⟨fun h2=>?_,fun h2=>?_⟩
 ·replace h2:(decide (i<0)||decide (i>=p.rules.length))=true:=h2;refine ak.bool ?_;rw[<- hres]; unfold Lc;rw[h1',h2]; rfl
 replace h2:(decide (i<0)||decide (i>=p.rules.length))=false:=h2;have hR:Lc p q b i=b.all (Ye p b i):=by unfold Lc; rw[h1',h2]; rfl
 refine aC.objs 4 [28,29,2,3,4] (fun k:Nat=>[(30,.int k)]) (fun _=>[(0,IJ p),(1,Pz q)]) (fun k=>k<=b.length/\(b.take k).all (Ye p b i)=true) (fun k=>b.length-k) 0 [0,1] rfl (by decide) (fun _=>rfl) ⟨Nat.zero_le _,rfl⟩ (sR rfl) ⟨iQ rfl rfl,iQ rfl rfl,trivial⟩ ?_;refine⟨(sR rfl),rfl,?_⟩;rintro k ⟨hk,hall⟩;refine⟨fun h3=>?_,fun h3=>?_⟩
 ·have hk':k<b.length:=by simpa using h3
  have hnx:=F9 (P:=Ye p b i) (d:=default) hk';have hnot:=fun h=>Jl (P:=Ye p b i) (d:=default) hk' h
  have hle:=hs.at hk';generalize hX:b.getD k default=X at hnx hnot hle;refine .mk (by simp only[Rw.rng] at *; omega) ?_;conv=>whnf
  rw[show b.getD ((k:Int)).toNat default=X from hX];refine ah.pure (S.pX p i X hp hle) rfl ?_;have hlen:=@acO p i X;have hfit:=fun x=>@acP p i X x
  have hpo:Ye p b i X=((U7 p i X).1==0&&(U7 p i X).2.all (Yc b)):=rfl;generalize hY:U7 p i X=PY at hlen hfit hpo;refine⟨fun h4=>?_,fun h4=>?_⟩
  ·replace h4:(PY.1 !=0)=true:=h4;refine ak.bool ?_;rw[<- hres,hR]
   have:(PY.1==0)=false:=by simpa using h4
   exact hnot (by rw[hpo,this]; rfl)
  replace h4:(PY.1 !=0)=false:=h4;have h4':(PY.1==0)=true:=by simpa using h4
  refine aC.objs 4 [43,44,28,29,30,2,3,4] (fun j:Nat=>[(45,.int j)]) (fun _=>[(0,IJ p),(1,Pz q)]) (fun j=>j<=PY.2.length/\(PY.2.take j).all (Yc b)=true) (fun j=>PY.2.length-j) 0 [0,1] rfl (by decide) (fun _=>rfl) ⟨Nat.zero_le _,rfl⟩ (sR rfl) ⟨iQ rfl rfl,iQ rfl rfl,trivial⟩ ?_;refine⟨(sR rfl),rfl,?_⟩;rintro j ⟨hj,aaG⟩;refine⟨fun h5=>?_,fun h5=>?_⟩
  ·have hj':j<PY.2.length:=by simpa using h5
   have hfj:=V5 (hfit (PY.2.getD j default) (by rw[getD_some hj']; exact List.getElem_mem hj'));refine .mk (by simp only[Rw.rng] at *; omega) ?_;refine ah.pure (S.jB b (PY.2.getD j default) f (by omega) hs.E (by omega)) rfl ?_;refine⟨fun h6=>?_,fun h6=>?_⟩
   ·replace h6:(!Yc b (PY.2.getD j default))=true:=h6;refine ak.bool ?_;rw[<- hres,hR];refine hnot ?_;rw[hpo,h4',Bool.true_and];exact Jl hj' (by simpa using h6)
   ·replace h6:(!Yc b (PY.2.getD j default))=false:=h6;refine .mk (by simp only[okI] at *; omega) ?_;refine⟨j+1,[0,1],⟨hj',by rw[F9 (d:=default) hj',aaG,show Yc b (PY.2.getD j default)=true by simpa using h6]; rfl⟩,by omega,(sR rfl),(sR rfl),iQ rfl rfl,iQ rfl rfl,trivial⟩
  ·have hj':j=PY.2.length:=by have:=of_decide_eq_false h5; omega
   subst hj';rw[List.take_length] at aaG;refine .mk (by simp only[okI] at *; omega) ?_;refine⟨k+1,[0,1],⟨hk',by rw[hnx,hall,hpo,h4',aaG]; rfl⟩,by omega,(sR rfl),(sR rfl),iQ rfl rfl,iQ rfl rfl,trivial⟩
 ·have hk':k=b.length:=by have:=of_decide_eq_false h3; omega
  subst hk';rw[List.take_length] at hall;exact ak.bool (by rw[<- hres,hR,hall])
def Gf(p:aH)(q:Prop')(x:Elem):Bool:= !(nX p x)&& !(EN p q x)
def Yf(p:aH)(q:Prop')(b:List Elem):Bool:=(fP p q==0)&&decide (b.length<=100)&&b.all (Gf p q)&&(kS p q).all (Yc b)&&(List.range p.rules.length).all fun i:Nat=>Lc p q b i
set_option maxHeartbeats 1000000 in
theorem S.lH(p:aH)(q:Prop')(b:List Elem)(f:Bool)(hp:dG p)(hq:tJ q)(hl:b.length<2^30)(hs:Es b):aj Tryz.prog 23 [.dat (.fK p),.dat (.prop q),.row 3 f (.elems b)] (.bool (Yf p q b)):=by
 have hpr:=hp.rules;generalize hres:Yf p q b=res;refine aj.of Bd.lH (by simp) rfl rfl ?_;refine ah.pure (S.nY p q hp hq) rfl ?_;repeat(refine VC.mk (by first|exact id|(intro h; rw[h]; rfl)) ?_)
 refine⟨fun h1=>?_,fun h1=>?_⟩
 ·replace h1:(fP p q !=0||decide (100<(b.length:Int)))=true:=h1;refine ak.bool ?_;rw[<- hres]; unfold Yf;rw[Bool.or_eq_true] at h1;rcases h1 with h1|h1
  ·rw[show(fP p q==0)=false by simpa using h1]; rfl
  ·have:=of_decide_eq_true h1;rw[decide_eq_false (by omega: ¬ b.length<=100),Bool.and_false]; rfl
 replace h1:(fP p q !=0||decide (100<(b.length:Int)))=false:=h1;rw[Bool.or_eq_false_iff] at h1;obtain⟨h1,h1b⟩:=h1;have hlen:=of_decide_eq_false h1b;have h1':(fP p q==0)=true:=by simpa using h1
 have hc0:fP p q=0:=by simpa using h1
 have hB:Yf p q b=(b.all (Gf p q)&&(kS p q).all (Yc b)&&(List.range p.rules.length).all fun i:Nat=>Lc p q b i):=by
  unfold Yf; rw[h1',decide_eq_true (by omega:b.length<=100)]; simp
 obtain⟨_,b2,b3,_⟩:=Og hc0;have hv:=DT b3;have v1:=hv.pos; have v2:=hv.states; have v3:=hv.values;have hbad:kS p q=bW (wG q p.states.length (max 1 p.values.length) (4 ^ p.states.length)):=by rw[kS,h1,bad_law]; rfl
 obtain⟨l1,l2⟩:=Ic p q hp;refine aC.objs 4 [21,22,2,3,4] (fun k:Nat=>[(23,.int k)]) (fun _=>[(0,IJ p),(1,Pz q)]) (fun k=>k<=b.length/\(b.take k).all (Gf p q)=true) (fun k=>b.length-k) 0 [0,1] rfl (by decide) (fun _=>rfl) ⟨Nat.zero_le _,rfl⟩ (sR rfl) ⟨iQ rfl rfl,iQ rfl rfl,trivial⟩ ?_;refine⟨(sR rfl),rfl,?_⟩;rintro k ⟨hk,hall⟩;refine⟨fun h3=>?_,fun h3=>?_⟩
 ·have hk':k<b.length:=by simpa using h3
  have hnx:=F9 (P:=Gf p q) (d:=default) hk';have hnot:=fun h=>Jl (P:=Gf p q) (d:=default) hk' h
  have hle:=hs.at hk';generalize hX:b.getD k default=X at hnx hnot hle;refine .mk (by simp only[Rw.rng] at *; omega) ?_;conv=>whnf
  rw[show b.getD ((k:Int)).toNat default=X from hX];refine ah.pure (S.gI p X hp hle) rfl ?_;refine .mk (by intro h; simp[h]; done) ?_;refine ah.eG (fun _=>S.ny p q X hp hq hle (DW hc0)) rfl ?_;refine .mk (by intro h; rw[h]; rfl) ?_;refine⟨fun h4=>?_,fun h4=>?_⟩
  ·replace h4:(dV (nX p X) 1 !=0||EN p q X)=true:=h4;refine ak.bool ?_;rw[<- hres,hB]
   have:Gf p q X=false:=by
    unfold Gf;rw[Jk] at h4;rw[<- Bool.not_or,h4]; rfl
   rw[hnot this]; rfl
  ·replace h4:(dV (nX p X) 1 !=0||EN p q X)=false:=h4;refine .mk (by simp only[okI] at *; omega) ?_;conv=>whnf
   have:Gf p q X=true:=by
    unfold Gf;rw[Jk] at h4;rw[<- Bool.not_or,h4]; rfl
   exact⟨k+1,[0,1],⟨hk',by rw[hnx,hall,this]; rfl⟩,by omega,(sR rfl),(sR rfl),iQ rfl rfl,iQ rfl rfl,trivial⟩
 have hk':k=b.length:=by have:=of_decide_eq_false h3; omega
 subst hk';rw[List.take_length] at hall;rw[hall,Bool.true_and] at hB;clear h3;refine ah.pure (S.iR p q p.states.length (max 1 p.values.length) hp hq rfl v1 v2 rfl (by omega) b2) rfl ?_;conv=>whnf
 rw[<- hbad];refine aC.objs 4 [40,41,2,3,4] (fun k:Nat=>[(42,.int k)]) (fun _=>[(0,IJ p),(1,Pz q)]) (fun k=>k<=(kS p q).length/\((kS p q).take k).all (Yc b)=true) (fun k=>(kS p q).length-k) 0 [0,1] rfl (by decide) (fun _=>rfl) ⟨Nat.zero_le _,rfl⟩ (sR rfl) ⟨iQ rfl rfl,iQ rfl rfl,trivial⟩ ?_;refine⟨(sR rfl),rfl,?_⟩;rintro k ⟨hk,aaH⟩;refine⟨fun h3=>?_,fun h3=>?_⟩
 ·have hk':k<(kS p q).length:=by simpa using h3
  have hle:=l2 ((kS p q).getD k default) (by rw[getD_some hk']; exact List.getElem_mem hk');refine .mk (by simp only[Rw.rng] at *; omega) ?_;refine ah.pure (S.jB b ((kS p q).getD k default) f (by omega) hs.E hle) rfl ?_;refine⟨fun h6=>?_,fun h6=>?_⟩
  ·replace h6:(!Yc b ((kS p q).getD k default))=true:=h6;refine ak.bool ?_;rw[<- hres,hB,Jl (P:=Yc b) hk' (by simpa using h6)]; rfl
  ·replace h6:(!Yc b ((kS p q).getD k default))=false:=h6;refine .mk (by simp only[okI] at *; omega) ?_;exact⟨k+1,[0,1],⟨hk',by rw[F9 (d:=default) hk',aaH,show Yc b ((kS p q).getD k default)=true by simpa using h6]; rfl⟩,by omega,(sR rfl),(sR rfl),iQ rfl rfl,iQ rfl rfl,trivial⟩
 have hk':k=(kS p q).length:=by have:=of_decide_eq_false h3; omega
 subst hk';rw[List.take_length] at aaH;rw[aaH,Bool.true_and] at hB;clear h3;refine aC.objs 4 [53,2,3,4] (fun k:Nat=>[(54,.int k)]) (fun _=>[(0,IJ p),(1,Pz q)]) (fun k=>k<=p.rules.length/\((List.range k).all fun i:Nat=>Lc p q b i)=true) (fun k=>p.rules.length-k) 0 [0,1] rfl (by decide) (fun _=>rfl) ⟨Nat.zero_le _,rfl⟩ (sR rfl) ⟨iQ rfl rfl,iQ rfl rfl,trivial⟩ ?_;refine⟨(sR rfl),rfl,?_⟩;rintro k ⟨hk,ady⟩;refine⟨fun h3=>?_,fun h3=>?_⟩
 ·have hk':k<p.rules.length:=by simpa using h3
  refine ah.pure (S.mW p q b k f hp hq hl hs) rfl ?_;refine⟨fun h6=>?_,fun h6=>?_⟩
  ·replace h6:(!Lc p q b k)=true:=h6;refine ak.bool ?_;rw[<- hres,hB];rw[List.all_eq_false];exact⟨k,List.mem_range.2 hk',by simpa using h6⟩
  ·replace h6:(!Lc p q b k)=false:=h6;refine .mk (by simp only[okI] at *; omega) ?_;exact⟨k+1,[0,1],⟨hk',by rw[List.range_succ,List.all_append,ady]; simpa using h6⟩,by omega,(sR rfl),(sR rfl),iQ rfl rfl,iQ rfl rfl,trivial⟩
 ·have hk':k=p.rules.length:=by have:=of_decide_eq_false h3; omega
  subst hk';exact ak.bool (by rw[<- hres,hB,ady])
end Go.Proofs.YtdhobgbagphngaaGreatDoor
