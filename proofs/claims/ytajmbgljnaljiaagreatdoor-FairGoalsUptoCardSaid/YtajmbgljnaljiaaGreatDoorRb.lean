/-
 The two programs' rules for a protocol's rules say the same. No condition.
-/
import Derived.Test.YtajmbgljnaljiaaGreatDoorRa
import Derived.Test.YtajmbgljnaljiaaGreatDoorLg
namespace Go.Proofs.YtajmbgljnaljiaaGreatDoor
open Go.Ab Go.Proofs
theorem JM{c d:Bool}:(bif c then true else d)=(c||d):=by cases c<;>rfl
theorem len_nil{α:Type}{l:List α}(h:decide ((l.length:Int)>0)=false):l=[]:=by
 cases l with
 |nil=>rfl
 |cons a r=>simp at h
theorem TY{r:Rule}{t:Int}(h:uh r t=false) :
  (r.kind≠1->r.guards=[]/\r.ex=[]/\r.all=[]/\r.send=[])/\(r.kind≠1->r.kind≠2->r.kind≠3->r.read= -1/\r.write= -1) /\
  (r.kind≠3->r.response=[])/\(r.kind≠5->r.direction=0)/\(r.kind≠4->r.pos=0/\r.left=[]/\r.right=[])/\(¬(r.kind=4/\t=4)->r.parent=[]):=by
 simp only[uh,JM,Bool.or_eq_false_iff] at h
 obtain⟨h1,h2,h3,⟨h4,h5⟩,h6,h7⟩:=h
 refine⟨fun k=>?_,fun k1 k2 k3=>?_,fun k=>?_,fun k=>?_,fun k=>?_,fun k=>?_⟩
 ·simp only[beq_eq_false_iff_ne.2 k,Bool.not_false,Bool.true_and,Bool.or_eq_false_iff] at h1
  exact⟨len_nil h1.1.1.1,len_nil h1.1.1.2,len_nil h1.1.2,len_nil h1.2⟩
 ·simp only[beq_eq_false_iff_ne.2 k1,beq_eq_false_iff_ne.2 k2,beq_eq_false_iff_ne.2 k3,Bool.not_false,Bool.true_and,Bool.or_eq_false_iff] at h2
  exact⟨Ua h2.1,Ua h2.2⟩
 ·simp only[beq_eq_false_iff_ne.2 k,Bool.not_false,Bool.true_and] at h4
  exact len_nil h4
 ·simp only[beq_eq_false_iff_ne.2 k,Bool.not_false,Bool.true_and] at h5
  exact Ua h5
 ·simp only[beq_eq_false_iff_ne.2 k,Bool.not_false,Bool.true_and,Bool.or_eq_false_iff] at h6
  exact⟨Ua h6.1.1,len_nil h6.1.2,len_nil h6.2⟩
 ·refine len_nil ?_
  rw[Bool.and_eq_false_iff] at h7
  rcases h7 with h7|h7
  ·exact h7
  ·simp only[Bool.not_eq_false',Bool.and_eq_true,beq_iff_eq] at h7
   exact absurd h7 k
theorem Zk(p:aH)(r:Rule):(yQ p r !=0)=(yc r.fr p.states.length||yc r.to p.states.length):=by
 simp only[yQ,fA]
 cases yc r.fr p.states.length<;>cases yc r.to p.states.length<;>rfl
end Go.Proofs.YtajmbgljnaljiaaGreatDoor
namespace Go.Proofs.YtajmbgljnaljiaaGreatDoor
open Go.Ab Go.Proofs
set_option maxRecDepth 100000
def JJ(p:aH):Int:=bif dW p !=0 then dW p else bif !(qp p).cover&& !(qp p).monadic then 7 else 0
def JK(p:aH)(e:Elem):Bool:=((((e.counts.length:Int) !=p.states.length)|| !(e.counts.all Iy))||decide (e.value<0))||decide (e.value>=max 1 (p.values.length:Int))
def Iq(p:aH)(e:Elem):Int:=bif JJ p !=0 then JJ p else iq (JK p e) 1
theorem ad1(p:aH):JJ p=bif ((dW p==0)&& !(bif dW p !=0 then QU else qp p).cover&& !(bif dW p !=0 then QU else qp p).monadic) then 7 else dW p:=by
 unfold JJ bne
 cases hz:dW p==0 with
 |true=>simp only[Bool.not_true,cond_false,Bool.true_and]; rw[show dW p=0 from beq_iff_eq.1 hz]
 |false=>rfl
theorem S.jG(p:aH)(hp:gq p):au Tryz.prog 121 [.dat (.mJ p)] (.int (JJ p)):=by
 refine au.of Bd.jG (by simp) rfl rfl ?_
 conv=>whnf
 refine ah.pure (S.ig p hp) rfl ?_
 conv=>whnf
 repeat(refine VC.mk id ?_; conv=>whnf)
 refine⟨fun h1=>?_,fun h1=>?_⟩
 ·conv=>whnf
  exact aG.int (by rw[ad1,h1]; rfl)
 ·conv=>whnf
  exact aG.int (by rw[ad1,h1]; rfl)
theorem S.jk(p:aH)(e:Elem)(hp:gq p)(he:e.counts.length<2^30):au Tryz.prog 122 [.dat (.mJ p),.dat (.elem e)] (.int (iq (JK p e) 1)):=by
 have g1:=hp.states
 have g3:=hp.values
 refine au.of Bd.jk (by simp) rfl rfl ?_
 conv=>whnf
 repeat(refine VC.mk id ?_; conv=>whnf)
 refine ah.jC (fun _=>S.kU e.counts false (by omega)) rfl ?_
 conv=>whnf
 repeat(refine VC.mk (by first|exact id|exact fun h=>⟨h,h⟩|(intro h; rw[h]; rfl)) ?_; conv=>whnf)
 refine⟨fun h1=>?_,fun h1=>?_⟩
 ·conv=>whnf
  exact aG.int (by rw[show JK p e=true from h1]; rfl)
 ·conv=>whnf
  exact aG.int (by rw[show JK p e=false from h1]; rfl)
theorem S.jd(p:aH)(e:Elem)(hp:gq p)(he:e.counts.length<2^30):au Tryz.prog 89 [.dat (.mJ p),.dat (.elem e)] (.int (Iq p e)):=by
 refine au.of Bd.jd (by simp) rfl rfl ?_
 conv=>whnf
 refine ah.pure (S.jG p hp) rfl ?_
 conv=>whnf
 refine⟨fun h1=>?_,fun h1=>?_⟩
 ·conv=>whnf
  exact aG.int (by rw[Iq,h1]; rfl)
 ·conv=>whnf
  refine ah.pure (S.jk p e hp he) rfl ?_
  conv=>whnf
  exact aG.int (by rw[Iq,h1]; rfl)
end Go.Proofs.YtajmbgljnaljiaaGreatDoor
