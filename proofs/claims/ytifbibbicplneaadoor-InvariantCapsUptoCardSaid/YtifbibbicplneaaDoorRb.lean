/-
 The two programs' rules for a protocol's rules say the same. No condition.
-/
import Derived.Test.YtifbibbicplneaaDoorRa
import Derived.Test.YtifbibbicplneaaDoorLf
namespace Go.Proofs.YtifbibbicplneaaDoor
open Go.Ab Go.Proofs
theorem OH{c d:Bool}:(bif c then true else d)=(c||d):=by cases c<;>rfl
theorem len_nil{α:Type}{l:List α}(h:decide ((l.length:Int)>0)=false):l=[]:=by
 cases l with
 |nil=>rfl
 |cons a r=>simp at h
theorem Qg{r:Rule}{t:Int}(h:xJ r t=false) :
  (r.kind≠1->r.guards=[]/\r.ex=[]/\r.all=[]/\r.send=[])/\(r.kind≠1->r.kind≠2->r.kind≠3->r.read= -1/\r.write= -1) /\
  (r.kind≠3->r.response=[])/\(r.kind≠5->r.direction=0)/\(r.kind≠4->r.pos=0/\r.left=[]/\r.right=[])/\(¬(r.kind=4/\t=4)->r.parent=[]):=by
 simp only[xJ,OH,Bool.or_eq_false_iff] at h
 obtain⟨h1,h2,h3,⟨h4,h5⟩,h6,h7⟩:=h
 refine⟨fun k=>?_,fun k1 k2 k3=>?_,fun k=>?_,fun k=>?_,fun k=>?_,fun k=>?_⟩
 ·simp only[beq_eq_false_iff_ne.2 k,Bool.not_false,Bool.true_and,Bool.or_eq_false_iff] at h1
  exact⟨len_nil h1.1.1.1,len_nil h1.1.1.2,len_nil h1.1.2,len_nil h1.2⟩
 ·simp only[beq_eq_false_iff_ne.2 k1,beq_eq_false_iff_ne.2 k2,beq_eq_false_iff_ne.2 k3,Bool.not_false,Bool.true_and,Bool.or_eq_false_iff] at h2
  exact⟨Qh h2.1,Qh h2.2⟩
 ·simp only[beq_eq_false_iff_ne.2 k,Bool.not_false,Bool.true_and] at h4
  exact len_nil h4
 ·simp only[beq_eq_false_iff_ne.2 k,Bool.not_false,Bool.true_and] at h5
  exact Qh h5
 ·simp only[beq_eq_false_iff_ne.2 k,Bool.not_false,Bool.true_and,Bool.or_eq_false_iff] at h6
  exact⟨Qh h6.1.1,len_nil h6.1.2,len_nil h6.2⟩
 ·refine len_nil ?_
  rw[Bool.and_eq_false_iff] at h7
  rcases h7 with h7|h7
  ·exact h7
  ·simp only[Bool.not_eq_false',Bool.and_eq_true,beq_iff_eq] at h7
   exact absurd h7 k
theorem Vy(p:aX)(r:Rule):(xq p r !=0)=(wB r.fr p.states.length||wB r.to p.states.length):=by
 simp only[xq,dY]
 cases wB r.fr p.states.length<;>cases wB r.to p.states.length<;>rfl
theorem ZO{h:Hz}{j:Nat}{Z:Nat->Prop}{l:List Str}(hz:Z j)(q:h.get j=some (.row 9 0 (.strs l) [])):T.sub Z h.aj (V.row 0 false (.strs l)).aI (V.own j).aI:=by
 show T.sub Z h.aj (.sl 0 false (l.map eS)) (.own j)
 simp only[T.sub]
 refine⟨trivial,hz,?_,by decide,9,?_⟩
 ·rw[fP]; intro t ht; obtain⟨x,_,rfl⟩:=List.mem_map.1 ht; rfl
 ·have:=aK q
  rw[this]; simp[OV.aF,Rw.aT,V.aT]
end Go.Proofs.YtifbibbicplneaaDoor
namespace Go.Proofs.YtifbibbicplneaaDoor
open Go.Ab Go.Proofs
set_option maxRecDepth 100000
def Nk(p:aX):Int:=bif dU p !=0 then dU p else bif !(kC p).cover&& !(kC p).monadic then 7 else 0
def wu(p:aX)(e:Elem):Bool:=((((e.counts.length:Int) !=p.states.length)|| !(e.counts.all FY))||decide (e.value<0))||decide (e.value>=max 1 (p.values.length:Int))
def Kr(p:aX)(e:Elem):Int:=bif Nk p !=0 then Nk p else fA (wu p e) 1
theorem aaJ(p:aX):Nk p=bif ((dU p==0)&& !(bif dU p !=0 then JZ else kC p).cover&& !(bif dU p !=0 then JZ else kC p).monadic) then 7 else dU p:=by
 unfold Nk bne
 cases hz:dU p==0 with
 |true=>simp only[Bool.not_true,cond_false,Bool.true_and]; rw[show dU p=0 from beq_iff_eq.1 hz]
 |false=>rfl
theorem S.jC(p:aX)(hp:dP p):ay Tryd.prog 57 [.dat (.eG p)] (.int (Nk p)):=by
 refine ay.of Bd.jC (by simp) rfl rfl ?_
 conv=>whnf
 refine ah.pure (S.gK p hp) rfl ?_
 conv=>whnf
 repeat(refine VC.mk id ?_; conv=>whnf)
 refine⟨fun h1=>?_,fun h1=>?_⟩
 ·conv=>whnf
  exact aB.int (by rw[aaJ,h1]; rfl)
 ·conv=>whnf
  exact aB.int (by rw[aaJ,h1]; rfl)
theorem S.je(p:aX)(e:Elem)(hp:dP p)(he:e.counts.length<2^30):ay Tryd.prog 58 [.dat (.eG p),.dat (.elem e)] (.int (fA (wu p e) 1)):=by
 have g1:=hp.states
 have g3:=hp.values
 refine ay.of Bd.je (by simp) rfl rfl ?_
 conv=>whnf
 repeat(refine VC.mk id ?_; conv=>whnf)
 refine ah.mQ (fun _=>S.kS e.counts false (by omega)) rfl ?_
 conv=>whnf
 repeat(refine VC.mk (by first|exact id|exact fun h=>⟨h,h⟩|(intro h; rw[h]; rfl)) ?_; conv=>whnf)
 refine⟨fun h1=>?_,fun h1=>?_⟩
 ·conv=>whnf
  exact aB.int (by rw[show wu p e=true from h1]; rfl)
 ·conv=>whnf
  exact aB.int (by rw[show wu p e=false from h1]; rfl)
theorem S.iW(p:aX)(e:Elem)(hp:dP p)(he:e.counts.length<2^30):ay Tryd.prog 41 [.dat (.eG p),.dat (.elem e)] (.int (Kr p e)):=by
 refine ay.of Bd.iW (by simp) rfl rfl ?_
 conv=>whnf
 refine ah.pure (S.jC p hp) rfl ?_
 conv=>whnf
 refine⟨fun h1=>?_,fun h1=>?_⟩
 ·conv=>whnf
  exact aB.int (by rw[Kr,h1]; rfl)
 ·conv=>whnf
  refine ah.pure (S.je p e hp he) rfl ?_
  conv=>whnf
  exact aB.int (by rw[Kr,h1]; rfl)
end Go.Proofs.YtifbibbicplneaaDoor
