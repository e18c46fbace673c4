/-
 familychecklaw09.FairHelps, as a contract. No condition.
-/
import Derived.Test.YtajmbgljnaljiaaGreatDoorAf
import Derived.Test.YtajmbgljnaljiaaGreatDoorOg
namespace Go.Proofs.YtajmbgljnaljiaaGreatDoor
open Go.Ab Go.Proofs
set_option maxRecDepth 100000
theorem ae5(p:aC)(q:Prop')(w:List Int):(hfL p q w).length<=2187/\ ∀ a,((hfL p q w).getD a []).length<2^30:=by
 by_cases h:U1 p q w=0
 ·have hk:Bg p q 2=0:=by
   unfold U1 at h
   cases hb:(Bg p q 2 !=0) with
   |false=>simpa using hb
   |true=>rw[hb] at h; exact h
  have hv:GN p w=true:=by
   unfold U1 at h
   rw[hk] at h
   cases hb:GN p w with
   |true=>rfl
   |false=>rw[hb] at h; exact absurd h (by decide)
  have hF:=Yt (zX hk) hv
  rw[(U2 hk hv).2]
  generalize hg:Hf p _ _ _ w=g at *
  have gn:g.n=(bV p q).length:=by rw[<- hg]; rfl
  have gk:g.k=p.rules.length:=by rw[<- hg]; rfl
  refine⟨by rw[FK,gn]; exact hF.n,fun a=>?_⟩
  rcases Nat.lt_or_ge a g.n with ha|ha
  ·rw[<- RP ha]
   have:=RN (r:=g.ny.getD a []) (i:=g.k)
   have:=hF.k
   omega
  ·rw[show g.pz.getD a []=[] from getD_none (by rw[FK]; exact ha)]
   show(0:Nat)<_
   decide
 ·have e:hfL p q w=[]:=if_neg h
  rw[e]
  exact⟨by decide,fun a=>by show(0:Nat)<_; decide⟩
theorem S.mO(p:aC)(q:Prop')(w:List Int)(hp:dJ p)(hq:gG q)(hw:w.length<2^30):aj Tryz.prog 4 [.dat (.gW p),.dat (.prop q),.row 0 false (.ints w)] (.bool true):=by
 obtain⟨hl1,hl2⟩:=ae5 p q w
 refine aj.of Bd.mO (by simp) rfl rfl ?_
 conv=>whnf
 refine ah.pure (S.rX p q w false hp hq hw) rfl ?_
 conv=>whnf
 refine ah.pure (S.uH p q w false hp hq hw) rfl ?_
 generalize hfL p q w=l at hl1 hl2
 conv=>whnf
 repeat(refine VC.mk (by first|exact id|exact fun h=>⟨h,h⟩|(intro h; rw[h]; rfl)) ?_; conv=>whnf)
 refine Fork.mk (fun h1=>absurd h1 (by simp)) (fun h1=>?_)
 conv=>whnf
 refine aB.same [7,9] (fun i:Nat=>[(11,.int i)]) (fun i=>i<=l.length) (fun i=>l.length-i) 0 rfl (by decide) rfl (fun _=>rfl) (Nat.zero_le _) ⟨⟨_,rfl,rfl⟩,trivial⟩ ?_
 conv=>whnf
 refine⟨rfl,?_⟩
 rintro i hi
 conv=>whnf
 refine⟨fun h2=>?_,fun h2=>?_⟩
 ·have hi':i<l.length:=by simpa using h2
  conv=>whnf
  repeat(refine VC.mk (by simp only[Rw.rng] at *; first|omega|(simp_all; done)|(simp_all; omega)) ?_; conv=>whnf)
  refine ah.pure (S.NH (l.getD i []) false false (hl2 i)) rfl ?_
  conv=>whnf
  refine Fork.mk (fun q=>absurd (q.symm.trans (rfl)).symm Bool.false_ne_true) (fun _=>?_)
  conv=>whnf
  refine .mk (by simp only[okI] at *; first|omega|(simp_all; done)|(simp_all; omega)) ?_
  conv=>whnf
  refine⟨i+1,hi',by omega,⟨⟨_,rfl,rfl⟩,trivial⟩,?_,rfl⟩
  repeat' (first|exact trivial|exact⟨_,rfl,rfl⟩|constructor)
 ·conv=>whnf
  refine ah.pure (S.WV) rfl ?_
  conv=>whnf
  exact ak.bool rfl
theorem S.lu(p:aC)(q:Prop')(w:List Int)(hp:dJ p)(hq:gG q)(hw:w.length<2^30):aj Tryz.prog 5 [.dat (.gW p),.dat (.prop q),.row 0 false (.ints w)] (.bool true):=by
 refine aj.of Bd.lu (by simp) rfl rfl ?_
 conv=>whnf
 refine ah.pure (S.iL p q w false hp hq hw) rfl ?_
 conv=>whnf
 refine ah.pure (S.lg p q w false hp hq hw) rfl ?_
 conv=>whnf
 refine ah.dL (fun _=>S.WV) rfl ?_
 conv=>whnf
 refine VC.mk id ?_
 conv=>whnf
 exact ak.bool (by simp)
end Go.Proofs.YtajmbgljnaljiaaGreatDoor
namespace Go.Proofs.YtajmbgljnaljiaaGreatDoor
open Go.Ab Go.Proofs
set_option maxRecDepth 100000
end Go.Proofs.YtajmbgljnaljiaaGreatDoor
