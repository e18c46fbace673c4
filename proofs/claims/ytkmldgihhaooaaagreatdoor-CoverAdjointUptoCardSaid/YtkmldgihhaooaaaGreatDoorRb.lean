/-
 The two programs' rules for a protocol's rules say the same. No condition.
-/
import Derived.Test.YtkmldgihhaooaaaGreatDoorRa
import Derived.Test.YtkmldgihhaooaaaGreatDoorLg
namespace Go.Proofs.YtkmldgihhaooaaaGreatDoor
open Go.Ab Go.Proofs
theorem D6{x n:Int}:(!(je x 0 (n-1)))=qN x n:=by rw[oN,Bool.not_not]
theorem vals_eq(p:aP)(r:Rule):zQ p r=((decide (r.read< -1)||decide (r.read>=p.values.length))||(decide (r.write< -1)||decide (r.write>=p.values.length))):=by
 simp only[zQ,D6,qN]
 rw[Bool.eq_iff_iff]; simp; omega
theorem aah(a b:Bool)(v:Int)(r:List Int)(h:v≠0):bH (dM (a||b) v::r)=bH (dM a v::dM b v::r):=by
 cases a<;>cases b<;>simp[dM,bH,h]
theorem OM(p:aP)(l:List zT)(r:List Int):bH (xR p l::r)=bH (jW p l::dM (decide ((l.length:Int)>2)) 4::r):=by
 by_cases h:jW p l=0
 ·rw[show xR p l=dM (decide ((l.length:Int)>2)) 4 from if_pos h,h]; rfl
 ·rw[show xR p l=jW p l from if_neg h,fN h,fN h]
theorem Us{c d:Bool}:(bif c then true else d)=(c||d):=by cases c<;>rfl
theorem len_nil{α:Type}{l:List α}(h:decide ((l.length:Int)>0)=false):l=[]:=by
 cases l with
 |nil=>rfl
 |cons a r=>simp at h
theorem Ls{r:Rule}{t:Int}(h:lS r t=false) :
  (r.kind≠1->r.guards=[]/\r.ex=[]/\r.all=[]/\r.send=[])/\(r.kind≠1->r.kind≠2->r.kind≠3->r.read= -1/\r.write= -1) /\
  (r.kind≠3->r.response=[])/\(r.kind≠5->r.direction=0)/\(r.kind≠4->r.pos=0/\r.left=[]/\r.right=[])/\(¬(r.kind=4/\t=4)->r.parent=[]):=by
 simp only[lS,Us,Bool.or_eq_false_iff] at h
 obtain⟨h1,h2,h3,⟨h4,h5⟩,h6,h7⟩:=h
 refine⟨fun k=>?_,fun k1 k2 k3=>?_,fun k=>?_,fun k=>?_,fun k=>?_,fun k=>?_⟩
 ·simp only[beq_eq_false_iff_ne.2 k,Bool.not_false,Bool.true_and,Bool.or_eq_false_iff] at h1
  exact⟨len_nil h1.1.1.1,len_nil h1.1.1.2,len_nil h1.1.2,len_nil h1.2⟩
 ·simp only[beq_eq_false_iff_ne.2 k1,beq_eq_false_iff_ne.2 k2,beq_eq_false_iff_ne.2 k3,Bool.not_false,Bool.true_and,Bool.or_eq_false_iff] at h2
  exact⟨RJ h2.1,RJ h2.2⟩
 ·simp only[beq_eq_false_iff_ne.2 k,Bool.not_false,Bool.true_and] at h4
  exact len_nil h4
 ·simp only[beq_eq_false_iff_ne.2 k,Bool.not_false,Bool.true_and] at h5
  exact RJ h5
 ·simp only[beq_eq_false_iff_ne.2 k,Bool.not_false,Bool.true_and,Bool.or_eq_false_iff] at h6
  exact⟨RJ h6.1.1,len_nil h6.1.2,len_nil h6.2⟩
 ·refine len_nil ?_
  rw[Bool.and_eq_false_iff] at h7
  rcases h7 with h7|h7
  ·exact h7
  ·simp only[Bool.not_eq_false',Bool.and_eq_true,beq_iff_eq] at h7
   exact absurd h7 k
theorem kind_eq{r:Rule}{t:Int}:((!(je r.kind 1 5)||(decide (r.kind<=3) !=(t==1)))||lS r t)=(!(uN r.kind t)||kJ r t):=by
 by_cases hk:1<=r.kind/\r.kind<=5
 ·rw[Ae hk]
  congr 1
  have hk':r.kind=1\/r.kind=2\/r.kind=3\/r.kind=4\/r.kind=5:=by omega
  rcases hk' with e|e|e|e|e<;>rw[e]<;>cases ht:(t==1)<;>simp[je,uN,ht]
 ·have h1:je r.kind 1 5=false:=by rw[je,Bool.and_eq_false_iff]; simp; omega
  have h2:uN r.kind t=false:=by
   have:r.kind≠1/\r.kind≠2/\r.kind≠3/\r.kind≠4/\r.kind≠5:=by omega
   obtain⟨a,b,c,d,e⟩:=this
   simp[uN,a,b,c,d,e]
  rw[h1,h2]; rfl
theorem Il(p:aP)(r:Rule):(wW p r !=0)=(qN r.fr p.states.length||qN r.to p.states.length):=by
 simp only[wW,dh]
 cases qN r.fr p.states.length<;>cases qN r.to p.states.length<;>rfl
theorem ad7(p:aP)(r:Rule)(h:(wW p r !=0)=true):wW p r=5:=by
 rw[Il] at h
 simp only[wW,dh]
 revert h
 cases qN r.fr p.states.length<;>cases qN r.to p.states.length<;>intro h<;>first|rfl|cases h
theorem Bl(n:Int):jo [] n=0:=rfl
theorem XC(x:Int):bH [x,0,0,0,0,0,0]=bH [x]:=by
 simp only[bH]; simp
theorem CX{a:Int}{X Y:List Int}(h:bH X=bH Y):bH (a::X)=bH (a::Y):=by simp only[bH,h]
theorem Uh(x:Int):bH [x,0,0,0,0,0,0,0]=bH [x]:=by
 simp only[bH]; simp
theorem Ui(x:Int):bH [x,0,0]=bH [x]:=by
 simp only[bH]; simp
theorem KG(p:aP)(r:Rule):bH [dM (zQ p r) 5,0,0,0,0,0,0,0]=bH [jH p r.read,jH p r.write]:=by
 rw[vals_eq,aah _ _ _ _ (by decide)]
 exact CX (Uh _)
theorem aai(p:aP)(i:Nat):yZ p i=gQ p i:=by
 simp only[yZ,gQ,rJ,qO]
 generalize p.rules.getD i default=r
 cases hv:validName r.name with
 |false=>rfl
 |true =>
 cases ha:(p.rules.take i).any (fun x=>x.name==r.name) with
 |true=>rfl
 |false =>
 simp only[H9,kind_eq,Bool.not_true,Bool.or_false,cond_false]
 cases hk:(!(uN r.kind p.topology)||kJ r p.topology) with
 |true=>rfl
 |false =>
 have hk2:=hk
 rw[<- kind_eq,Bool.or_eq_false_iff,Bool.or_eq_false_iff,Bool.not_eq_false'] at hk2
 obtain⟨⟨k1,_⟩,k2⟩:=hk2
 obtain⟨u1,u2,u3,u4,u5,u6⟩:=Ls k2
 have hk':r.kind=1\/r.kind=2\/r.kind=3\/r.kind=4\/r.kind=5:=by
  simp only[je,Bool.and_eq_true,decide_eq_true_eq] at k1; omega
 cases he:(wW p r !=0) with
 |true =>
  rw[ad7 p r he]
  rw[Il] at he
  simp only[H8,D6,he]; rfl
 |false =>
 rw[Il] at he
 simp only[H8,D6,he,Bool.false_or,cond_false]
 rcases hk' with e|e|e|e|e
 ·have a5:=u5 (by omega)
  have m4:DY p r=false:=by simp[DY,e]
  have d1:DZ p r=false:=by simp[DZ,e]
  have d2:D5 p r=false:=by simp[D5,e]
  simp only[iq,m4,d1,d2,a5.2.1,a5.2.2,u6 (by omega),e,Bl,Int.reduceBEq,Bool.or_self,Bool.false_and,cond_false,cond_true]
  rw[OM]
  refine CX (CX (CX (CX ?_)))
  rw[vals_eq,aah _ _ _ _ (by decide)]
  refine CX (CX ?_)
  exact XC _
 ·obtain⟨g1,g2,g3,g4⟩:=u1 (by omega)
  have a5:=u5 (by omega)
  have m4:DY p r=false:=by simp[DY,e]
  have d1:DZ p r=false:=by simp[DZ,e]
  have d2:D5 p r=false:=by simp[D5,e]
  simp only[iq,m4,d1,d2,g1,g2,g3,g4,a5.2.1,a5.2.2,u6 (by omega),e,Bl,Int.reduceBEq,Bool.or_false,Bool.true_and,cond_false,cond_true,dh]
  cases qN r.dS p.states.length with
  |true=>rfl
  |false =>
   cases qN r.wX p.states.length with
   |true=>rfl
   |false=>exact KG p r
 ·obtain⟨g1,g2,g3,g4⟩:=u1 (by omega)
  have a5:=u5 (by omega)
  have m4:DY p r=false:=by simp[DY,e]
  have d1:DZ p r=false:=by simp[DZ,e]
  have d2:D5 p r=false:=by simp[D5,e]
  simp only[iq,m4,d1,d2,g1,g2,g3,g4,a5.2.1,a5.2.2,u6 (by omega),e,Bl,Int.reduceBEq,Bool.or_self,Bool.false_and,cond_false,cond_true,Ei]
  cases ((r.response.length:Int) !=p.states.length) with
  |true=>rfl
  |false =>
   simp only[cond_false]
   by_cases hz:pI r.response p.states.length=0
   ·rw[hz]; exact KG p r
   ·rw[show(pI r.response p.states.length !=0)=true by simpa using hz,fN hz]; rfl
 ·obtain⟨g1,g2,g3,g4⟩:=u1 (by omega)
  obtain⟨v1,v2⟩:=u2 (by omega) (by omega) (by omega)
  have m4:DY p r=aaj p r:=by
   simp only[DY,aaj,e,qE]; rfl
  have d1:DZ p r=false:=by simp[DZ,e]
  have d2:D5 p r=false:=by simp[D5,e]
  have vv:zQ p r=false:=by simp[zQ,v1,v2]
  simp only[iq,m4,d1,d2,vv,g1,g2,g3,g4,e,Bl,Int.reduceBEq,Bool.or_self,Bool.false_and,cond_false,cond_true]
  exact CX (CX (CX (Ui _)))
 ·obtain⟨g1,g2,g3,g4⟩:=u1 (by omega)
  obtain⟨v1,v2⟩:=u2 (by omega) (by omega) (by omega)
  have a5:=u5 (by omega)
  have m4:DY p r=false:=by simp[DY,e]
  have vv:zQ p r=false:=by simp[zQ,v1,v2]
  have d1:DZ p r=((p.topology==4)&&(decide (r.direction<3)||decide (r.direction>4))):=by
   simp only[DZ,e,qE]; rfl
  have d2:D5 p r=(!(p.topology==4)&&(decide (r.direction<1)||decide (r.direction>2))):=by
   simp only[D5,e,qE]; rfl
  simp only[iq,m4,d1,d2,vv,g1,g2,g3,g4,a5.2.1,a5.2.2,u6 (by omega),e,Bl,Int.reduceBEq,Bool.or_true,Bool.true_and,cond_false,dh]
  cases qN r.dS p.states.length with
  |true=>cases (p.topology==4)<;>rfl
  |false =>
   cases qN r.wX p.states.length with
   |true=>cases (p.topology==4)<;>rfl
   |false =>
    cases (p.topology==4) with
    |true=>cases (decide (r.direction<3)||decide (r.direction>4))<;>rfl
    |false=>cases (decide (r.direction<1)||decide (r.direction>2))<;>rfl
theorem aak{p:aP}:(!(je p.topology 1 4)|| !(je p.fault 0 3))=uM p:=by
 simp only[qE,uM,Bool.or_assoc]
theorem S.XD(p:aP)(i:Nat)(hi:i<p.rules.length)(hp:fM p):ak Tryz.prog 103 [.dat (.iU p),.int i] (.int (gQ p i)):=by
 rw[<- aai]; exact S.Bj p i hi hp
theorem afm{h:Hz}{j:Nat}{Z:Nat->Prop}{l:List Str}(hz:Z j)(q:h.get j=some (.row 9 0 (.strs l) [])):T.sub Z h.au (V.row 0 false (.strs l)).aF (V.own j).aF:=by
 show T.sub Z h.au (.sl 0 false (l.map eS)) (.own j)
 simp only[T.sub]
 refine⟨trivial,hz,?_,by decide,9,?_⟩
 ·rw[iw]; intro t ht; obtain⟨x,_,rfl⟩:=List.mem_map.1 ht; rfl
 ·have:=aQ q
  rw[this]; simp[OV.aA,Rw.aW,V.aW]
theorem S.rM(p:aP)(hp:fM p):ak Tryz.prog 65 [.dat (.iU p)] (.int (bg p)):=by
 have g1:=hp.states; have g2:=hp.messages; have g3:=hp.values; have g4:=hp.bZ; have g5:=hp.initial; have g6:=hp.leader; have g7:=hp.rules
 refine ak.of Bd.rM (by simp) rfl rfl ?_
 conv=>whnf
 refine ah.pure (S.kS p.name) rfl ?_
 conv=>whnf
 refine⟨fun h1=>?_,fun h1=>?_⟩
 ·conv=>whnf
  exact aj.int (by rw[bg,h1]; rfl)
 conv=>whnf
 refine ah.pure (S.aZ p.topology 1 4) rfl ?_
 conv=>whnf
 repeat(refine VC.mk id ?_; conv=>whnf)
 refine ah.gJ (fun _=>S.aZ p.fault 0 3) rfl ?_
 conv=>whnf
 repeat(refine VC.mk (by first|exact id|(intro h; rw[h]; rfl)) ?_; conv=>whnf)
 refine⟨fun h2=>?_,fun h2=>?_⟩
 ·conv=>whnf
  rw[aak] at h2
  exact aj.int (by rw[bg,h1,h2]; rfl)
 rw[aak] at h2
 conv=>whnf
 refine⟨fun h3=>?_,fun h3=>?_⟩
 ·conv=>whnf
  exact aj.int (by rw[bg,h1,h2,show((p.states.length:Int)==0)=true from h3]; rfl)
 replace h3:((p.states.length:Int)==0)=false:=h3
 conv=>whnf
 repeat(refine VC.mk (by first|exact id|(intro h; rw[h]; rfl)) ?_; conv=>whnf)
 refine⟨fun h4=>?_,fun h4=>?_⟩
 ·conv=>whnf
  exact aj.int (by rw[bg,h1,h2,h3,show vS p=true from h4]; rfl)
 replace h4:vS p=false:=h4
 have h0:0<p.states.length:=by
  rcases Nat.eq_zero_or_pos p.states.length with e|e
  ·rw[e] at h3; exact absurd h3 (by decide)
  ·exact e
 have hlen:(allNames p).length<2^30:=by simp only[allNames,List.length_append]; omega
 conv=>whnf
 repeat(refine VC.mk (by simp only[nK,nT,Rw.len,List.length_append]; omega) ?_; conv=>whnf)
 refine aG.fz 3 57 0 (.strs (allNames p)) rfl rfl (afm rfl rfl) ?_
 conv=>whnf
 refine aG.same [1,3] (fun i:Nat=>[(4,.int i)]) (fun i=>i<=(allNames p).length/\(List.range i).any (OO (allNames p))=false) (fun i=>(allNames p).length-i) 0 rfl (by decide) rfl (fun _=>rfl) ⟨Nat.zero_le _,rfl⟩ ⟨⟨_,rfl,rfl⟩,trivial⟩ ?_
 conv=>whnf
 refine⟨rfl,?_⟩
 rintro i ⟨hi,hall⟩
 conv=>whnf
 refine⟨fun h5=>?_,fun h5=>?_⟩
 ·have hi':i<(allNames p).length:=by have:(i:Int)<((allNames p).length:Int):=of_decide_eq_true h5; omega
  conv=>whnf
  refine .mk (by simp only[Rw.rng] at *; omega) ?_
  conv=>whnf
  refine ah.pure (S.kS ((allNames p).getD i [])) rfl ?_
  conv=>whnf
  repeat(refine VC.mk (by first|exact id|exact fun h=>⟨h,h⟩|(intro h; (repeat' apply And.intro)<;>first|exact h|omega|(simp only[Rw.rP]; omega)|(simp only[Rw.rng]; omega))) ?_; conv=>whnf)
  refine ah.gJ (fun _=>S.qA ((allNames p).take i) ((allNames p).getD i []) _ (by rw[List.length_take]; omega)) rfl ?_
  conv=>whnf
  refine .mk (by intro h; rw[h]; rfl) ?_
  conv=>whnf
  refine⟨fun h6=>?_,fun h6=>?_⟩
  ·conv=>whnf
   refine aj.int ?_
   rw[bg,h1,h2,h3,h4,show zG p=2 by rw[zG,rY.2 ⟨i,hi',h6⟩]; rfl]; rfl
  ·conv=>whnf
   refine .mk (by simp only[okI] at *; omega) ?_
   conv=>whnf
   refine⟨i+1,⟨by omega,?_⟩,by omega,⟨⟨_,rfl,rfl⟩,trivial⟩,?_,rfl⟩
   ·rw[List.range_succ,List.any_append,hall]
    simp only[List.any_cons,List.any_nil,Bool.or_false,Bool.false_or]; exact h6
   ·repeat' (first|exact trivial|exact⟨_,rfl,rfl⟩|constructor)
 have hi':(allNames p).length<=i:=by have: ¬ ((i:Int)<((allNames p).length:Int)):=of_decide_eq_false h5; omega
 have e:i=(allNames p).length:=Nat.le_antisymm hi hi'
 subst e
 have h5:zG p=0:=by rw[zG,hall]; rfl
 clear hi hall hi' hlen
 conv=>whnf
 repeat(refine VC.mk (by first|exact id|(intro h; rw[h]; rfl)|(intro h; simp[h]; done)|(intro h; simp_all; done)) ?_; conv=>whnf)
 refine⟨fun h6=>?_,fun h6=>?_⟩
 ·conv=>whnf
  exact aj.int (by rw[bg,h1,h2,h3,h4,h5,show Rl p=true from h6]; rfl)
 replace h6:Rl p=false:=h6
 conv=>whnf
 refine aG.same [1] (fun i:Nat=>[(5,.int i)]) (fun i=>i<=p.bZ.length/\(p.bZ.take i).any (fun l=> !(Q8 l))=false) (fun i=>p.bZ.length-i) 0 rfl (by decide) rfl (fun _=>rfl) ⟨by omega,by simp⟩ ⟨⟨_,rfl,rfl⟩,trivial⟩ ?_
 conv=>whnf
 refine⟨rfl,?_⟩
 rintro i ⟨hi,hall⟩
 conv=>whnf
 refine⟨fun h7=>?_,fun h7=>?_⟩
 ·have hi':i<p.bZ.length:=by simpa using h7
  conv=>whnf
  refine .mk (by simp only[Rw.rng] at *; omega) ?_
  conv=>whnf
  refine ah.pure (S.zF (p.bZ.getD i default)) rfl ?_
  conv=>whnf
  refine⟨fun h8=>?_,fun h8=>?_⟩
  ·conv=>whnf
   exact aj.int (by rw[bg,h1,h2,h3,h4,h5,h6,nU (d:=default) hi' h8]; rfl)
  ·conv=>whnf
   refine .mk (by simp only[okI] at *; omega) ?_
   conv=>whnf
   refine⟨i+1,⟨by omega,?_⟩,by omega,⟨⟨_,rfl,rfl⟩,trivial⟩,?_,rfl⟩
   ·rw[qP (d:=default) hi' hall]; exact h8
   ·repeat' (first|exact trivial|exact⟨_,rfl,rfl⟩|constructor)
 have hi':p.bZ.length<=i:=by simpa using h7
 rw[List.take_of_length_le hi'] at hall
 clear hi hi' h7
 conv=>whnf
 refine ah.pure (S.jV p.initial p.states.length false (by omega) ⟨by omega,by omega⟩) rfl ?_
 conv=>whnf
 refine⟨fun h7=>?_,fun h7=>?_⟩
 ·replace h7:=Rk h7
  have:yw p=jo p.initial p.states.length:=fN h7
  conv=>whnf
  exact aj.int (by rw[bg,h1,h2,h3,h4,h5,h6,hall,this,show(jo p.initial p.states.length !=0)=true by simpa using h7]; rfl)
 replace h7:=Ce h7
 conv=>whnf
 refine⟨fun h8=>?_,fun h8=>?_⟩
 ·replace h8:((p.initial.length:Int)==0)=true:=h8
  have:yw p=1:=by rw[yw,h7,h8]; rfl
  conv=>whnf
  exact aj.int (by rw[bg,h1,h2,h3,h4,h5,h6,hall,this]; rfl)
 replace h8:((p.initial.length:Int)==0)=false:=h8
 conv=>whnf
 refine ah.pure (S.jV p.leader p.states.length false (by omega) ⟨by omega,by omega⟩) rfl ?_
 conv=>whnf
 refine⟨fun h9=>?_,fun h9=>?_⟩
 ·replace h9:=Rk h9
  have:yw p=jo p.leader p.states.length:=by rw[yw,h7,h8]; exact fN h9
  conv=>whnf
  exact aj.int (by rw[bg,h1,h2,h3,h4,h5,h6,hall,this,show(jo p.leader p.states.length !=0)=true by simpa using h9]; rfl)
 replace h9:=Ce h9
 have h10:yw p=0:=by rw[yw,h7,h8,h9]; rfl
 conv=>whnf
 refine aG.same [1] (fun i:Nat=>[(8,.int i)]) (fun i=>i<=p.rules.length/\Df p=bH (((List.range p.rules.length).drop i).map (gQ p))) (fun i=>p.rules.length-i) 0 rfl (by decide) rfl (fun _=>rfl) ⟨by omega,by simp[Df]⟩ ⟨⟨_,rfl,rfl⟩,trivial⟩ ?_
 conv=>whnf
 refine⟨rfl,?_⟩
 rintro i ⟨hi,hr⟩
 conv=>whnf
 refine⟨fun h11=>?_,fun h11=>?_⟩
 ·have hi':i<p.rules.length:=by simpa using h11
  rw[KH hi'] at hr
  simp only[bH] at hr
  conv=>whnf
  refine ah.pure (S.XD p i hi' hp) rfl ?_
  conv=>whnf
  refine⟨fun h12=>?_,fun h12=>?_⟩
  ·conv=>whnf
   have ad8:gQ p i≠0:=Rk h12
   rw[if_neg ad8] at hr
   exact aj.int (by rw[bg,h1,h2,h3,h4,h5,h6,hall,h10,hr,show(gQ p i !=0)=true from h12]; rfl)
  ·conv=>whnf
   refine .mk (by simp only[okI] at *; omega) ?_
   conv=>whnf
   have ad8:gQ p i=0:=Ce h12
   rw[if_pos ad8] at hr
   refine⟨i+1,⟨by omega,hr⟩,by omega,⟨⟨_,rfl,rfl⟩,trivial⟩,?_,rfl⟩
   repeat' (first|exact trivial|exact⟨_,rfl,rfl⟩|constructor)
 have hi':p.rules.length<=i:=by simpa using h11
 rw[List.drop_eq_nil_of_le (by simpa using hi')] at hr
 conv=>whnf
 refine ah.pure (S.rH p hp) rfl ?_
 conv=>whnf
 refine⟨fun h12=>?_,fun h12=>?_⟩
 ·conv=>whnf
  exact aj.int (by rw[bg,h1,h2,h3,h4,h5,h6,hall,h10,hr,show decide (((yX p.rules).length:Int)>3)=true from h12]; rfl)
 ·conv=>whnf
  exact aj.int (by rw[bg,h1,h2,h3,h4,h5,h6,hall,h10,hr,show decide (((yX p.rules).length:Int)>3)=false from h12]; rfl)
def Rn(p:aP)(i:Nat):V:=.agg [.bool (((p.topology==1)&&((p.values.length:Int)==0))&&(p.rules.take i).foldl Ro true),.bool (qM p&& !((p.rules.take i).foldl KL false)),.bool ((p.topology==2)||(p.topology==3)),.bool (p.topology==4),.bool (qM p&&decide ((p.states.length:Int)<=4))]
def badR(r:Rule):Bool:=r.kind !=1||decide (r.fr>=r.to)||decide ((r.ex.length:Int)>0)||decide ((r.all.length:Int)>0)
theorem ab9{acc:Bool}{r:Rule}(h:badR r=true):Ro acc r=false:=by
 simp only[badR,Bool.or_eq_true,bne_iff_ne,decide_eq_true_eq] at h
 simp only[Ro]
 rw[Bool.eq_false_iff]; intro q
 simp only[Bool.and_eq_true,beq_iff_eq,decide_eq_true_eq] at q
 omega
theorem ad9{acc:Bool}{r:Rule}(h:badR r=false):Ro acc r=acc:=by
 simp only[badR,Bool.or_eq_false_iff,bne_eq_false_iff_eq,decide_eq_false_iff_not] at h
 obtain⟨⟨⟨a,b⟩,c⟩,d⟩:=h
 simp only[Ro]
 rw[show(r.kind==1)=true from beq_iff_eq.2 a,decide_eq_true (by omega),show((r.ex.length:Int)==0)=true from beq_iff_eq.2 (by omega),show((r.all.length:Int)==0)=true from beq_iff_eq.2 (by omega)]
 simp
theorem afX(p:aP):Rn p 0= .agg [.bool ((p.topology==1)&&((p.values.length:Int)==0)),.bool (qM p),.bool ((p.topology==2)||(p.topology==3)),.bool (p.topology==4),.bool (qM p&&decide ((p.states.length:Int)<=4))]:=by
 simp[Rn]
theorem FK(p:aP){i:Nat}(hi:i<p.rules.length):Rn p (i+1) =
  .agg [.bool (bif badR (p.rules.getD i default) then false else((p.topology==1)&&((p.values.length:Int)==0))&&(p.rules.take i).foldl Ro true),
   .bool (bif decide (((p.rules.getD i default).all.length:Int)>0) then false else qM p&& !((p.rules.take i).foldl KL false)),.bool ((p.topology==2)||(p.topology==3)),.bool (p.topology==4),.bool (qM p&&decide ((p.states.length:Int)<=4))]:=by
 simp only[Rn,Bh (d:=default) hi]
 cases hb:badR (p.rules.getD i default) with
 |true =>
  rw[ab9 hb,KL]
  cases decide (((p.rules.getD i default).all.length:Int)>0)<;>simp
 |false =>
  rw[ad9 hb,KL]
  cases decide (((p.rules.getD i default).all.length:Int)>0)<;>simp
theorem S.qL(p:aP)(hp:fM p):ak Tryz.prog 35 [.dat (.iU p)] (G5 p):=by
 have g1:=hp.states; have g2:=hp.messages; have g3:=hp.values; have g4:=hp.bZ; have g7:=hp.rules
 refine ak.of Bd.qL (by simp) rfl rfl ?_
 conv=>whnf
 refine ah.pure (S.rM p hp) rfl ?_
 conv=>whnf
 refine⟨fun h1=>?_,fun h1=>?_⟩
 ·conv=>whnf
  refine aj.eqv ?_
  rw[G5,h1]; rfl
 have h1':bg p=0:=Ce h1
 conv=>whnf
 repeat(refine VC.mk (by first|exact id|(intro h; rw[h]; rfl)) ?_; conv=>whnf)
 refine aG.objs 100 [1,2,7] (fun i:Nat=>[(8,.int i)]) (fun i=>[(0,.box 27 11 (.dat (.iU p))),(1,.box 68 6 (afn G7)),(58,.box 68 6 (Rn p i))]) (fun i=>i<=p.rules.length) (fun i=>p.rules.length-i) 0 [0,1,58] rfl (by decide) (fun _=>rfl) (Nat.zero_le _) ?_ ?_ ?_
 ·exact(sR rfl)
 ·refine⟨⟨rfl,nofun,rfl,rfl,rfl,_,rfl,rfl,rfl,aI.of_eq rfl⟩,⟨rfl,nofun,rfl,rfl,rfl,_,rfl,rfl,rfl,aI.of_eq rfl⟩,⟨rfl,nofun,rfl,rfl,rfl,_,rfl,rfl,rfl,aI.of_eq ?_⟩,trivial⟩
  rw[afX]; rfl
 conv=>whnf
 refine⟨(sR rfl),rfl,?_⟩
 rintro i hi
 have g8:=hp.rule i
 have g9:=g8.ex; have g10:=g8.all
 conv=>whnf
 refine⟨fun h3=>?_,fun h3=>?_⟩
 ·have hi':i<p.rules.length:=by simpa using h3
  conv=>whnf
  repeat(refine VC.mk (by first|exact id|exact fun h=>⟨h,h⟩|(intro h; rw[h]; rfl)|(simp only[Rw.rng] at *; omega)) ?_; conv=>whnf)
  refine⟨fun h4=>?_,fun h4=>?_⟩
  ·replace h4:badR (p.rules.getD i default)=true:=h4
   conv=>whnf
   refine⟨fun h5=>?_,fun h5=>?_⟩
   ·replace h5:decide (((p.rules.getD i default).all.length:Int)>0)=true:=h5
    conv=>whnf
    refine .mk (by simp only[okI] at *; omega) ?_
    conv=>whnf
    refine⟨i+1,[0,1,58],by omega,by omega,(sR rfl),(sR rfl),⟨rfl,nofun,rfl,rfl,rfl,_,rfl,rfl,rfl,aI.of_eq rfl⟩,⟨rfl,nofun,rfl,rfl,rfl,_,rfl,rfl,rfl,aI.of_eq rfl⟩,⟨rfl,nofun,rfl,rfl,rfl,_,rfl,rfl,rfl,aI.of_eq ?_⟩,trivial⟩
    rw[FK p hi',h4,h5]; rfl
   ·replace h5:decide (((p.rules.getD i default).all.length:Int)>0)=false:=h5
    conv=>whnf
    refine .mk (by simp only[okI] at *; omega) ?_
    conv=>whnf
    refine⟨i+1,[0,1,58],by omega,by omega,(sR rfl),(sR rfl),⟨rfl,nofun,rfl,rfl,rfl,_,rfl,rfl,rfl,aI.of_eq rfl⟩,⟨rfl,nofun,rfl,rfl,rfl,_,rfl,rfl,rfl,aI.of_eq rfl⟩,⟨rfl,nofun,rfl,rfl,rfl,_,rfl,rfl,rfl,aI.of_eq ?_⟩,trivial⟩
    rw[FK p hi',h4,h5]; rfl
  ·replace h4:badR (p.rules.getD i default)=false:=h4
   conv=>whnf
   refine⟨fun h5=>?_,fun h5=>?_⟩
   ·replace h5:decide (((p.rules.getD i default).all.length:Int)>0)=true:=h5
    conv=>whnf
    refine .mk (by simp only[okI] at *; omega) ?_
    conv=>whnf
    refine⟨i+1,[0,1,58],by omega,by omega,(sR rfl),(sR rfl),⟨rfl,nofun,rfl,rfl,rfl,_,rfl,rfl,rfl,aI.of_eq rfl⟩,⟨rfl,nofun,rfl,rfl,rfl,_,rfl,rfl,rfl,aI.of_eq rfl⟩,⟨rfl,nofun,rfl,rfl,rfl,_,rfl,rfl,rfl,aI.of_eq ?_⟩,trivial⟩
    rw[FK p hi',h4,h5]; rfl
   ·replace h5:decide (((p.rules.getD i default).all.length:Int)>0)=false:=h5
    conv=>whnf
    refine .mk (by simp only[okI] at *; omega) ?_
    conv=>whnf
    refine⟨i+1,[0,1,58],by omega,by omega,(sR rfl),(sR rfl),⟨rfl,nofun,rfl,rfl,rfl,_,rfl,rfl,rfl,aI.of_eq rfl⟩,⟨rfl,nofun,rfl,rfl,rfl,_,rfl,rfl,rfl,aI.of_eq rfl⟩,⟨rfl,nofun,rfl,rfl,rfl,_,rfl,rfl,rfl,aI.of_eq ?_⟩,trivial⟩
    rw[FK p hi',h4,h5]; rfl
 have hi':p.rules.length<=i:=by simpa using h3
 have e:i=p.rules.length:=Nat.le_antisymm hi hi'
 subst e
 conv=>whnf
 refine aj.eqv ?_
 rw[G5,h1',iV]
 simp only[List.take_length]
 rfl
theorem OJ{x:Int}:(decide (x<0)||decide (1048576<x))= !(Aa x):=by
 unfold Aa; rw[Bool.eq_iff_iff]; simp
def Nv(p:aP):Int:=bif bg p !=0 then bg p else bif !(iV p).cover&& !(iV p).monadic then 7 else 0
def nR(p:aP)(e:Elem):Bool:=((((e.counts.length:Int) !=p.states.length)|| !(e.counts.all Aa))||decide (e.value<0))||decide (e.value>=max 1 (p.values.length:Int))
def vO(p:aP)(e:Elem):Int:=bif Nv p !=0 then Nv p else dM (nR p e) 1
theorem afo(p:aP):Nv p=bif ((bg p==0)&& !(bif bg p !=0 then G7 else iV p).cover&& !(bif bg p !=0 then G7 else iV p).monadic) then 7 else bg p:=by
 unfold Nv bne
 cases hz:bg p==0 with
 |true=>simp only[Bool.not_true,cond_false,Bool.true_and]; rw[show bg p=0 from beq_iff_eq.1 hz]
 |false=>rfl
theorem S.kK(p:aP)(hp:fM p):ak Tryz.prog 105 [.dat (.iU p)] (.int (Nv p)):=by
 refine ak.of Bd.kK (by simp) rfl rfl ?_
 conv=>whnf
 refine ah.pure (S.gY p hp) rfl ?_
 conv=>whnf
 repeat(refine VC.mk id ?_; conv=>whnf)
 refine⟨fun h1=>?_,fun h1=>?_⟩
 ·conv=>whnf
  exact aj.int (by rw[afo,h1]; rfl)
 ·conv=>whnf
  exact aj.int (by rw[afo,h1]; rfl)
theorem S.fF(p:aP)(e:Elem)(hp:fM p)(he:e.counts.length<2^30):ak Tryz.prog 44 [.dat (.iU p),.dat (.elem e)] (.int (dM (nR p e) 1)):=by
 have g1:=hp.states
 have g3:=hp.values
 refine ak.of Bd.fF (by simp) rfl rfl ?_
 conv=>whnf
 repeat(refine VC.mk id ?_; conv=>whnf)
 refine ah.gJ (fun _=>S.kQ e.counts false (by omega)) rfl ?_
 conv=>whnf
 repeat(refine VC.mk (by first|exact id|exact fun h=>⟨h,h⟩|(intro h; rw[h]; rfl)) ?_; conv=>whnf)
 refine⟨fun h1=>?_,fun h1=>?_⟩
 ·conv=>whnf
  exact aj.int (by rw[show nR p e=true from h1]; rfl)
 ·conv=>whnf
  exact aj.int (by rw[show nR p e=false from h1]; rfl)
theorem S.jI(p:aP)(e:Elem)(hp:fM p)(he:e.counts.length<2^30):ak Tryz.prog 66 [.dat (.iU p),.dat (.elem e)] (.int (vO p e)):=by
 refine ak.of Bd.jI (by simp) rfl rfl ?_
 conv=>whnf
 refine ah.pure (S.kK p hp) rfl ?_
 conv=>whnf
 refine⟨fun h1=>?_,fun h1=>?_⟩
 ·conv=>whnf
  exact aj.int (by rw[vO,h1]; rfl)
 ·conv=>whnf
  refine ah.pure (S.fF p e hp he) rfl ?_
  conv=>whnf
  exact aj.int (by rw[vO,h1]; rfl)
theorem Uj(p:aP)(e:Elem):nR p e=(((((e.counts.length:Int) !=p.states.length)||decide (e.value<0))||decide (e.value>=max 1 (p.values.length:Int)))|| !(e.counts.all Aa)):=by
 unfold nR
 cases ((e.counts.length:Int) !=p.states.length)<;>cases (e.counts.all Aa)<;>cases decide (e.value<0)<;>cases decide (e.value>=max 1 (p.values.length:Int))<;>rfl
theorem S.yt(p:aP)(e:Elem)(hp:fM p)(he:e.counts.length<2^30):ak Tryz.prog 36 [.dat (.iU p),.dat (.elem e)] (.bool (!(nR p e))):=by
 have g1:=hp.states
 have g3:=hp.values
 refine ak.of Bd.yt (by simp) rfl rfl ?_
 conv=>whnf
 repeat(refine VC.mk (by first|exact id|exact fun h=>⟨h,h⟩|(intro h; rw[h]; rfl)) ?_; conv=>whnf)
 refine⟨fun h1=>?_,fun h1=>?_⟩
 ·conv=>whnf
  refine aj.bool ?_
  rw[Uj,show((((e.counts.length:Int) !=p.states.length)||decide (e.value<0))||decide (e.value>=max 1 (p.values.length:Int)))=true from h1]; rfl
 conv=>whnf
 refine aG.same [2,3] (fun i:Nat=>[(5,.int i)]) (fun i=>i<=e.counts.length/\(e.counts.take i).all Aa=true) (fun i=>e.counts.length-i) 0 rfl (by decide) rfl (fun _=>rfl) ⟨by omega,by simp⟩ ⟨⟨_,rfl,rfl⟩,trivial⟩ ?_
 conv=>whnf
 refine⟨rfl,?_⟩
 rintro i ⟨hi,hall⟩
 conv=>whnf
 refine⟨fun h3=>?_,fun h3=>?_⟩
 ·have hi':i<e.counts.length:=by simpa using h3
  conv=>whnf
  repeat(refine VC.mk (by first|exact id|(intro h; rw[h]; rfl)|(intro h; (repeat' apply And.intro)<;>first|exact h|omega|(simp only[Rw.rP]; omega)|(simp only[Rw.rng]; omega))|(simp only[Rw.rng] at *; first|omega|(simp_all; done)|(simp_all; omega))) ?_; conv=>whnf)
  refine⟨fun h4=>?_,fun h4=>?_⟩
  ·conv=>whnf
   refine aj.bool ?_
   replace h4:(decide (e.counts.getD i 0<0)||decide (1048576<e.counts.getD i 0))=true:=h4
   rw[OJ] at h4
   rw[Uj,Dk (d:=0) hi' (by simpa using h4)]; simp
  ·conv=>whnf
   refine .mk (by simp only[okI] at *; first|omega|(simp_all; done)|(simp_all; omega)) ?_
   conv=>whnf
   replace h4:(decide (e.counts.getD i 0<0)||decide (1048576<e.counts.getD i 0))=false:=h4
   rw[OJ] at h4
   refine⟨i+1,⟨by omega,?_⟩,by omega,⟨⟨_,rfl,rfl⟩,trivial⟩,?_,rfl⟩
   ·rw[FZ (d:=0) hi' hall]; simpa using h4
   ·repeat' (first|exact trivial|exact⟨_,rfl,rfl⟩|constructor)
 ·have hi':e.counts.length<=i:=by simpa using h3
  rw[List.take_of_length_le hi'] at hall
  conv=>whnf
  refine aj.bool ?_
  rw[Uj,hall,show((((e.counts.length:Int) !=p.states.length)||decide (e.value<0))||decide (e.value>=max 1 (p.values.length:Int)))=false from h1]; rfl
end Go.Proofs.YtkmldgihhaooaaaGreatDoor
