/-
 What is before: the program and the reference agree. No condition.
-/
import Derived.Test.YtkmldgihhaooaaaGreatDoorQe
namespace Go.Proofs.YtkmldgihhaooaaaGreatDoor
open Go.Ab Go.Proofs
set_option maxRecDepth 100000
theorem Zw{p:aO}{r:Rule}{e x:Elem}(hF:AQ p e)(hr:r∈p.rules)(h:x∈(pU p r e).2):x.counts.length<2^30:=by
 have:=EY (JX hF hr h)
 have h6:=hF.valid.states
 omega
theorem Xl{p:aO}{i:Int}{e:Elem}:(EX p i e).2.length<2^30/\dK (EX p i e).2:=by
 unfold EX
 cases hc:qW p !=0 with
 |true=>exact⟨(by decide:(0:Nat)<2^30),fun x h=>by cases h⟩
 |false =>
  cases hv:jc p e with
  |true=>exact⟨(by decide:(0:Nat)<2^30),fun x h=>by cases h⟩
  |false =>
   cases hi:decide (i<0)||decide (i>=p.rules.length) with
   |true=>exact⟨(by decide:(0:Nat)<2^30),fun x h=>by cases h⟩
   |false =>
    simp only[Bool.or_eq_false_iff,decide_eq_false_iff_not] at hi
    simp only[cond_false]
    have hl:=@AU p (p.rules.getD i.toNat default) e
    refine⟨by omega,fun x h=>?_⟩
    have:=Zw (xY (DJ hc) hv) (by rw[getD_some (by omega)]; exact List.getElem_mem _) h
    omega
theorem Xm{p:aO}{e:Elem}:(OZ p e).2.length<2^30/\dK (OZ p e).2:=by
 unfold OZ
 cases hc:qW p !=0 with
 |true=>exact⟨(by decide:(0:Nat)<2^30),fun x h=>by cases h⟩
 |false =>
  cases hv:jc p e with
  |true=>exact⟨(by decide:(0:Nat)<2^30),fun x h=>by cases h⟩
  |false =>
   simp only[cond_false]
   have hl:=@EZ p e
   have hF:=xY (DJ hc) hv
   have h6:=hF.valid.states
   exact⟨by omega,fun x h=>by have:=EY (QA hF h); omega⟩
set_option maxHeartbeats 1000000 in
theorem S.mQ(p:aO)(i:Int)(e:Elem)(hp:fE p)(he:e.counts.length<2^30):aj Tryz.prog 6 [.dat (.iI p),.int i,.dat (.elem e)] (.bool true):=by
 have hs:dK [e]:=fun x hx=>by rcases List.mem_singleton.1 hx with rfl; omega
 obtain⟨x1,x2⟩:=@Xl p i e
 obtain⟨a1,a2⟩:=@Xm p e
 have hP:=S.nJ p i e hp he
 have hQ:=S.uw p i e hp he
 have hA:=S.yO p e hp he
 have hB:=S.E5 p e hp he
 have hS1:aj Tryz.prog 24 [.row 3 false (.elems (EX p i e).2),.row 3 false (.elems (EX p i e).2)] (.bool true):=by
  have:=S.wB (EX p i e).2 (EX p i e).2 false false (by omega) (by omega) x2 x2
  rwa [decide_eq_true rfl] at this
 have hS2:aj Tryz.prog 24 [.row 3 false (.elems (OZ p e).2),.row 3 false (.elems (OZ p e).2)] (.bool true):=by
  have:=S.wB (OZ p e).2 (OZ p e).2 false false (by omega) (by omega) a2 a2
  rwa [decide_eq_true rfl] at this
 generalize EX p i e=X at x1 x2 hP hQ hS1
 generalize OZ p e=A at a1 a2 hA hB hS2
 refine aj.of Bd.mQ (by simp) rfl rfl ?_
 refine ah.lend (S.wC [e] false (show 1<2^40 by decide) hs) (And.intro (aeG trivial rfl) trivial) rfl rfl ?_
 refine⟨fun h1=>?_,fun h1=>?_⟩
 ·conv=>whnf
  refine ah.pure (S.Zx) rfl ?_
  exact ak.bool rfl
 refine ah.pure hP rfl ?_
 refine ah.pure hQ rfl ?_
 refine ah.pure hA rfl ?_
 refine ah.pure hB rfl ?_
 refine .mk (by exact fun h=>⟨h,h⟩) ?_
 refine ah.ig (fun _=>hS1) rfl ?_
 repeat(refine VC.mk (by first|exact id|exact fun h=>⟨h,h⟩) ?_)
 refine ah.ig (fun _=>hS2) rfl ?_
 refine VC.mk id ?_
 refine ah.ig (fun _=>S.Zx) rfl ?_
 refine VC.mk id ?_
 exact ak.bool (by simp)
end Go.Proofs.YtkmldgihhaooaaaGreatDoor
