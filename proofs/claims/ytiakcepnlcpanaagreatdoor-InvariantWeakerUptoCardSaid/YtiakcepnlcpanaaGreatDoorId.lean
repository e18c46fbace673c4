/-
 A part of the proof. No condition.
-/
import Derived.Test.YtiakcepnlcpanaaGreatDoorIc
namespace Go.Proofs.YtiakcepnlcpanaaGreatDoor
open Go.Ab Go.Proofs
set_option maxRecDepth 100000
theorem uy.Qn{P:Program}{f:FuncId}{ts ts':List T}{t:Nat->T}{o:Option Ob}(H:uy P f ts t o){h:Hp}{n:Nat}{K:T->Hp->Prop}(Z:Nat->Prop)(hs:T.cu Z h ts ts')(hK: ∀ h0:Hp,(∀ i,Z i->h0 i=none)->(∀ i,¬ Z i->h0 i=h i)->K (t n) (ng h0 n o)) :
  aF P f ts' h n K:=by
 classical
 let h0:Hp:=fun i=>if Z i then none else h i
 have hk0:K (t n) (ng h0 n o):=hK h0 (fun i hz=>if_pos hz) (fun i hz=>if_neg hz)
 refine aF.mono (post:=fun t' h'=>t'=t n/\h'=ng h0 n o) ?_ fun _ _ ⟨h1,h2⟩=>h1▸h2▸hk0
 obtain⟨_,hcl,hcall⟩:=uy.frame H h0 n
 refine⟨⟨_,_,rfl,rfl⟩,hcl,fun F M E vs hk he hts hid hm hn=>?_⟩
 subst he
 have hE0:(E.shut Z).h=h0:=by
  funext i
  cases hq:(E.shut Z).h i with
  |some ob=>obtain⟨h1,h2⟩:=pR hq; show some ob=if Z i then none else E.h i; rw[if_neg h2,h1]
  |none =>
   show none=if Z i then none else E.h i
   by_cases hz:Z i
   ·rw[if_pos hz]
   ·rw[if_neg hz]
    cases hq2:E.h i with
    |none=>rfl
    |some ob =>
     exfalso
     have:(E.shut Z).h i=some ob:=by simp only[Env.shut]; rw[if_neg hz,hq2]
     rw[hq] at this; cases this
 refine(hcall F M (E.shut Z) vs (hk.shut _) hE0 (mV hk _ _ hs _ hts) (T.ak (fun _ h=>h.elim) _ (bV H.free)) (fun i ob hi=>?_) hn).mono ?_
 ·have hi':(if Z i then none else E.h i)=some ob:=hi
  split at hi'
  ·cases hi'
  ·exact hm i ob hi'
 ·rintro e w' ⟨v,t',E',rfl,rfl,⟨rfl,hh⟩,hv,hk',hext,hS,h7,h8⟩
  refine⟨v,t n,E',rfl,rfl,⟨rfl,hh⟩,hv,hk',(ML F E Z).trans hext,fun i hi hi2=>?_,h7,h8⟩
  obtain⟨a,b,c⟩:=hS i hi hi2
  refine⟨?_,b,c⟩
  obtain⟨ob,hob⟩:=Option.isSome_iff_exists.1 a
  rw[(pR hob).1]; rfl
theorem ah.Qn{P:Program}{f:FuncId}{args args':List V}{res:V}{h:Hz}{n j:Nat}{K:V->Hz->Prop}{KW:Nat->V->Hz->Prop}(S:au P f args' res)(hs:T.cu (fun i=>i=j) h.aj (V.aS args') (V.aS args))(_hr:res.free=true)(hK:K res ((j,none)::h)):ah P false none f args h n K KW:=by
 refine⟨.inl (uy.Qn S (fun i=>i=j) hs fun h0 h1 h2=>⟨res,(j,none)::h,rfl,?_,fun e=>(by cases e),hK⟩)⟩
 show ng h0 n none=_
 funext i
 rw[aZ]
 show h0 i=if i=j then none else h.aj i
 by_cases hi:i=j
 ·rw[if_pos hi,h1 i hi]
 ·rw[if_neg hi,h2 i hi]
end Go.Proofs.YtiakcepnlcpanaaGreatDoor
