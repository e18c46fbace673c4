/-
 The two programs' rules for a protocol's rules say the same. No condition.
-/
import Derived.Test.YtiakcepnlcpanaaGreatDoorRa
import Derived.Test.YtiakcepnlcpanaaGreatDoorLf
namespace Go.Proofs.YtiakcepnlcpanaaGreatDoor
open Go.Ab Go.Proofs
theorem Qw{c d:Bool}:(bif c then true else d)=(c||d):=by cases c<;>rfl
theorem len_nil{α:Type}{l:List α}(h:decide ((l.length:Int)>0)=false):l=[]:=by
 cases l with
 |nil=>rfl
 |cons a r=>simp at h
theorem RS{r:Rule}{t:Int}(h:y7 r t=false) :
  (r.kind≠1->r.guards=[]/\r.ex=[]/\r.all=[]/\r.send=[])/\(r.kind≠1->r.kind≠2->r.kind≠3->r.read= -1/\r.write= -1) /\
  (r.kind≠3->r.response=[])/\(r.kind≠5->r.direction=0)/\(r.kind≠4->r.pos=0/\r.left=[]/\r.right=[])/\(¬(r.kind=4/\t=4)->r.parent=[]):=by
 simp only[y7,Qw,Bool.or_eq_false_iff] at h
 obtain⟨h1,h2,h3,⟨h4,h5⟩,h6,h7⟩:=h
 refine⟨fun k=>?_,fun k1 k2 k3=>?_,fun k=>?_,fun k=>?_,fun k=>?_,fun k=>?_⟩
 ·simp only[beq_eq_false_iff_ne.2 k,Bool.not_false,Bool.true_and,Bool.or_eq_false_iff] at h1
  exact⟨len_nil h1.1.1.1,len_nil h1.1.1.2,len_nil h1.1.2,len_nil h1.2⟩
 ·simp only[beq_eq_false_iff_ne.2 k1,beq_eq_false_iff_ne.2 k2,beq_eq_false_iff_ne.2 k3,Bool.not_false,Bool.true_and,Bool.or_eq_false_iff] at h2
  exact⟨RU h2.1,RU h2.2⟩
 ·simp only[beq_eq_false_iff_ne.2 k,Bool.not_false,Bool.true_and] at h4
  exact len_nil h4
 ·simp only[beq_eq_false_iff_ne.2 k,Bool.not_false,Bool.true_and] at h5
  exact RU h5
 ·simp only[beq_eq_false_iff_ne.2 k,Bool.not_false,Bool.true_and,Bool.or_eq_false_iff] at h6
  exact⟨RU h6.1.1,len_nil h6.1.2,len_nil h6.2⟩
 ·refine len_nil ?_
  rw[Bool.and_eq_false_iff] at h7
  rcases h7 with h7|h7
  ·exact h7
  ·simp only[Bool.not_eq_false',Bool.and_eq_true,beq_iff_eq] at h7
   exact absurd h7 k
theorem XK(p:aW)(r:Rule):(yT p r !=0)=(yg r.fr p.states.length||yg r.to p.states.length):=by
 simp only[yT,fC]
 cases yg r.fr p.states.length<;>cases yg r.to p.states.length<;>rfl
theorem abE{h:Hz}{j:Nat}{Z:Nat->Prop}{l:List Str}(hz:Z j)(q:h.get j=some (.row 9 0 (.strs l) [])):T.sub Z h.aj (V.row 0 false (.strs l)).aH (V.own j).aH:=by
 show T.sub Z h.aj (.sl 0 false (l.map eS)) (.own j)
 simp only[T.sub]
 refine⟨trivial,hz,?_,by decide,9,?_⟩
 ·rw[fJ]; intro t ht; obtain⟨x,_,rfl⟩:=List.mem_map.1 ht; rfl
 ·have:=aJ q
  rw[this]; simp[OV.aG,Rw.aS,V.aS]
end Go.Proofs.YtiakcepnlcpanaaGreatDoor
namespace Go.Proofs.YtiakcepnlcpanaaGreatDoor
open Go.Ab Go.Proofs
set_option maxRecDepth 100000
theorem Fv{x:Int}:(decide (x<0)||decide (1048576<x))= !(A8 x):=by
 unfold A8; rw[Bool.eq_iff_iff]; simp
def JX(p:aW):Int:=bif eF p !=0 then eF p else bif !(kC p).cover&& !(kC p).monadic then 7 else 0
def uz(p:aW)(e:Elem):Bool:=((((e.counts.length:Int) !=p.states.length)|| !(e.counts.all A8))||decide (e.value<0))||decide (e.value>=max 1 (p.values.length:Int))
def sJ(p:aW)(e:Elem):Int:=bif JX p !=0 then JX p else fQ (uz p e) 1
theorem acJ(p:aW):JX p=bif ((eF p==0)&& !(bif eF p !=0 then L9 else kC p).cover&& !(bif eF p !=0 then L9 else kC p).monadic) then 7 else eF p:=by
 unfold JX bne
 cases hz:eF p==0 with
 |true=>simp only[Bool.not_true,cond_false,Bool.true_and]; rw[show eF p=0 from beq_iff_eq.1 hz]
 |false=>rfl
theorem S.jQ(p:aW)(hp:dI p):au Tryz.prog 47 [.dat (.eU p)] (.int (JX p)):=by
 refine au.of Bd.jQ (by simp) rfl rfl ?_
 conv=>whnf
 refine ah.pure (S.iH p hp) rfl ?_
 conv=>whnf
 repeat(refine VC.mk id ?_; conv=>whnf)
 refine⟨fun h1=>?_,fun h1=>?_⟩
 ·conv=>whnf
  exact aA.int (by rw[acJ,h1]; rfl)
 ·conv=>whnf
  exact aA.int (by rw[acJ,h1]; rfl)
theorem S.jq(p:aW)(e:Elem)(hp:dI p)(he:e.counts.length<2^30):au Tryz.prog 48 [.dat (.eU p),.dat (.elem e)] (.int (fQ (uz p e) 1)):=by
 have g1:=hp.states
 have g3:=hp.values
 refine au.of Bd.jq (by simp) rfl rfl ?_
 conv=>whnf
 repeat(refine VC.mk id ?_; conv=>whnf)
 refine ah.nY (fun _=>S.lK e.counts false (by omega)) rfl ?_
 conv=>whnf
 repeat(refine VC.mk (by first|exact id|exact fun h=>⟨h,h⟩|(intro h; rw[h]; rfl)) ?_; conv=>whnf)
 refine⟨fun h1=>?_,fun h1=>?_⟩
 ·conv=>whnf
  exact aA.int (by rw[show uz p e=true from h1]; rfl)
 ·conv=>whnf
  exact aA.int (by rw[show uz p e=false from h1]; rfl)
theorem S.gX(p:aW)(e:Elem)(hp:dI p)(he:e.counts.length<2^30):au Tryz.prog 25 [.dat (.eU p),.dat (.elem e)] (.int (sJ p e)):=by
 refine au.of Bd.gX (by simp) rfl rfl ?_
 conv=>whnf
 refine ah.pure (S.jQ p hp) rfl ?_
 conv=>whnf
 refine⟨fun h1=>?_,fun h1=>?_⟩
 ·conv=>whnf
  exact aA.int (by rw[sJ,h1]; rfl)
 ·conv=>whnf
  refine ah.pure (S.jq p e hp he) rfl ?_
  conv=>whnf
  exact aA.int (by rw[sJ,h1]; rfl)
theorem Qh(p:aW)(e:Elem):uz p e=(((((e.counts.length:Int) !=p.states.length)||decide (e.value<0))||decide (e.value>=max 1 (p.values.length:Int)))|| !(e.counts.all A8)):=by
 unfold uz
 cases ((e.counts.length:Int) !=p.states.length)<;>cases (e.counts.all A8)<;>cases decide (e.value<0)<;>cases decide (e.value>=max 1 (p.values.length:Int))<;>rfl
theorem S.x9(p:aW)(e:Elem)(hp:dI p)(he:e.counts.length<2^30):au Tryz.prog 11 [.dat (.eU p),.dat (.elem e)] (.bool (!(uz p e))):=by
 have g1:=hp.states
 have g3:=hp.values
 refine au.of Bd.x9 (by simp) rfl rfl ?_
 conv=>whnf
 repeat(refine VC.mk (by first|exact id|exact fun h=>⟨h,h⟩|(intro h; rw[h]; rfl)) ?_; conv=>whnf)
 refine⟨fun h1=>?_,fun h1=>?_⟩
 ·conv=>whnf
  refine aA.bool ?_
  rw[Qh,show((((e.counts.length:Int) !=p.states.length)||decide (e.value<0))||decide (e.value>=max 1 (p.values.length:Int)))=true from h1]; rfl
 conv=>whnf
 refine aU.same [2,3] (fun i:Nat=>[(5,.int i)]) (fun i=>i<=e.counts.length/\(e.counts.take i).all A8=true) (fun i=>e.counts.length-i) 0 rfl (by decide) rfl (fun _=>rfl) ⟨by omega,by simp⟩ ⟨⟨_,rfl,rfl⟩,trivial⟩ ?_
 conv=>whnf
 refine⟨rfl,?_⟩
 rintro i ⟨hi,hall⟩
 conv=>whnf
 refine⟨fun h3=>?_,fun h3=>?_⟩
 ·have hi':i<e.counts.length:=by simpa using h3
  conv=>whnf
  repeat(refine VC.mk (by first|exact id|(intro h; rw[h]; rfl)|(intro h; (repeat' apply And.intro)<;>first|exact h|omega|(simp only[Rw.qN]; omega)|(simp only[Rw.rng]; omega))|(simp only[Rw.rng] at *; first|omega|(simp_all; done)|(simp_all; omega))) ?_; conv=>whnf)
  refine⟨fun h4=>?_,fun h4=>?_⟩
  ·conv=>whnf
   refine aA.bool ?_
   replace h4:(decide (e.counts.getD i 0<0)||decide (1048576<e.counts.getD i 0))=true:=h4
   rw[Fv] at h4
   rw[Qh,pO (d:=0) hi' (by simpa using h4)]; simp
  ·conv=>whnf
   refine .mk (by simp only[okI] at *; first|omega|(simp_all; done)|(simp_all; omega)) ?_
   conv=>whnf
   replace h4:(decide (e.counts.getD i 0<0)||decide (1048576<e.counts.getD i 0))=false:=h4
   rw[Fv] at h4
   refine⟨i+1,⟨by omega,?_⟩,by omega,⟨⟨_,rfl,rfl⟩,trivial⟩,?_,rfl⟩
   ·rw[nZ (d:=0) hi' hall]; simpa using h4
   ·repeat' (first|exact trivial|exact⟨_,rfl,rfl⟩|constructor)
 ·have hi':e.counts.length<=i:=by simpa using h3
  rw[List.take_of_length_le hi'] at hall
  conv=>whnf
  refine aA.bool ?_
  rw[Qh,hall,show((((e.counts.length:Int) !=p.states.length)||decide (e.value<0))||decide (e.value>=max 1 (p.values.length:Int)))=false from h1]; rfl
theorem S.vN(e:Elem)(hl:e.counts.length<2^40):au Tryz.prog 6 [.dat (.elem e)] (.int (jd e)):=by
 refine au.of Bd.vN (by simp) rfl rfl ?_
 conv=>whnf
 refine⟨fun h1=>?_,fun h1=>?_⟩
 ·have h:6<e.counts.length:=by
   have:(6:Int)<e.counts.length:=of_decide_eq_true h1
   omega
  conv=>whnf
  exact aA.int (by rw[jd,if_pos h])
 have h: ¬ 6<e.counts.length:=by
  have: ¬ (6:Int)<e.counts.length:=of_decide_eq_false h1
  omega
 conv=>whnf
 refine aU.same [1] (fun i:Nat=>[(4,.int i),(3,.int (e.counts.take i).sum)]) (fun i=>i<=e.counts.length/\(e.counts.take i).all A8=true) (fun i=>e.counts.length-i) 0 rfl (by decide) rfl (fun _=>rfl) ⟨by omega,by simp⟩ ⟨⟨_,rfl,rfl⟩,⟨_,rfl,rfl⟩,trivial⟩ ?_
 conv=>whnf
 refine⟨rfl,?_⟩
 rintro i ⟨hi,hall⟩
 have hb:=vM hall
 have hb':((e.counts.take i).length:Int)<=6:=by simp; omega
 conv=>whnf
 refine⟨fun h3=>?_,fun h3=>?_⟩
 ·have hi':i<e.counts.length:=by simpa using h3
  have hs:=MP hi'
  conv=>whnf
  repeat(refine VC.mk (by first|exact id|(intro h; rw[h]; rfl)|(intro h; (repeat' apply And.intro)<;>first|exact h|omega|(simp only[Rw.qN]; omega)|(simp only[Rw.rng]; omega))|(simp only[Rw.rng] at *; first|omega|(simp_all; done)|(simp_all; omega))) ?_; conv=>whnf)
  refine⟨fun h4=>?_,fun h4=>?_⟩
  ·conv=>whnf
   replace h4:(decide (e.counts.getD i 0<0)||decide (1048576<e.counts.getD i 0))=true:=h4
   rw[Fv] at h4
   exact aA.int (by rw[jd,if_neg h,pO (d:=0) hi' (by simpa using h4)]; rfl)
  ·replace h4:(decide (e.counts.getD i 0<0)||decide (1048576<e.counts.getD i 0))=false:=h4
   rw[Fv] at h4
   have h4':A8 (e.counts.getD i 0)=true:=by simpa using h4
   have ZI:(e.counts.take (i+1)).all A8=true:=by rw[nZ (d:=0) hi' hall]; exact h4'
   have hc:=vM ZI
   have hc':((e.counts.take (i+1)).length:Int)<=6:=by simp; omega
   conv=>whnf
   repeat(refine VC.mk (by first|(simp only[okI,Int.toNat_natCast] at *; rw[<- hs]; omega)|(simp only[okI,Rw.rng] at *; first|omega|(simp_all; done)|(simp_all; omega))) ?_; conv=>whnf)
   refine⟨i+1,⟨by omega,ZI⟩,by omega,⟨⟨_,rfl,rfl⟩,⟨_,rfl,?_⟩,trivial⟩,?_,rfl⟩
   ·rw[hs]; simp[V.aH,pz]
   ·repeat' (first|exact trivial|exact⟨_,rfl,rfl⟩|constructor)
 ·have hi':e.counts.length<=i:=by simpa using h3
  rw[List.take_of_length_le hi'] at hall
  rw[List.take_of_length_le hi']
  conv=>whnf
  exact aA.int (by rw[jd,if_neg h,if_pos hall])
end Go.Proofs.YtiakcepnlcpanaaGreatDoor
