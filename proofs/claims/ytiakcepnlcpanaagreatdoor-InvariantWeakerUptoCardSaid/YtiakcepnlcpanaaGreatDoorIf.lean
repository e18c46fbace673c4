/-
 A part of the proof. No condition.
-/
import Derived.Test.YtiakcepnlcpanaaGreatDoorIe
namespace Go.Proofs.YtiakcepnlcpanaaGreatDoor
open Go.Ab Go.Proofs
set_option maxRecDepth 100000
section
variable {rs:List Rule} {es:List Elem} {l a:List Clause} {f:Clause->Bool}
end
theorem S.Gt(l d:List Bool)(f g:Bool)(hl:l.length<2^30)(hd:l.length<=d.length):au Tryz.prog 46 [.row 0 f (.bools l),.row 0 g (.bools d)] (.bool ((List.range l.length).all fun i=>l.getD i false||d.getD i false)):=by
 refine au.of Bd.jV (by simp) rfl rfl ?_
 conv=>whnf
 refine aU.same [1,7,8] (fun i:Nat=>[(9,.int i)]) (fun i=>i<=l.length/\((List.range i).all fun i=>l.getD i false||d.getD i false)=true) (fun i=>l.length-i) 0 rfl (by decide) rfl (fun _=>rfl) ⟨by omega,by simp⟩ ⟨⟨_,rfl,rfl⟩,trivial⟩ ?_
 conv=>whnf
 refine⟨rfl,?_⟩
 rintro i ⟨hi,hall⟩
 conv=>whnf
 refine⟨fun h3=>?_,fun h3=>?_⟩
 ·have hi':i<l.length:=by simpa using h3
  have hnext:((List.range (i+1)).all fun i=>l.getD i false||d.getD i false)=(l.getD i false||d.getD i false):=by
   rw[List.range_succ,List.all_append,hall]; simp
  conv=>whnf
  repeat(refine VC.mk (by first|(first|(simp only[Rw.rng,Int.toNat_natCast]; omega))|exact fun h=>h|(intro h; (repeat' apply And.intro)<;>first|exact h|omega|(simp only[Rw.qN]; omega)|(simp only[Rw.rng]; omega))) ?_; conv=>whnf)
  refine⟨fun h4=>?_,fun h4=>?_⟩
  ·have h4':(l.getD i false||d.getD i false)=false:=by
    have h5:(!(l.getD i false)&& !(d.getD i false))=true:=h4
    cases h6:l.getD i false<;>cases h7:d.getD i false<;>rw[h6,h7] at h5<;>first|rfl|cases h5
   conv=>whnf
   refine aA.bool ?_
   rw[List.all_eq_false]
   exact⟨i,List.mem_range.2 hi',by rw[h4']; decide⟩
  ·have h4':(l.getD i false||d.getD i false)=true:=by
    have h5:(!(l.getD i false)&& !(d.getD i false))=false:=h4
    cases h6:l.getD i false<;>cases h7:d.getD i false<;>rw[h6,h7] at h5<;>first|rfl|cases h5
   conv=>whnf
   refine .mk (by simp only[okI] at *; omega) ?_
   conv=>whnf
   refine⟨i+1,⟨by omega,by rw[hnext,h4']⟩,by omega,⟨⟨_,rfl,rfl⟩,trivial⟩,?_,rfl⟩
   repeat' (first|exact trivial|exact⟨_,rfl,rfl⟩|constructor)
 ·have hi':i=l.length:=by have: ¬ ((i:Int)<(l.length:Int)):=of_decide_eq_false h3; omega
  subst hi'
  conv=>whnf
  exact aA.bool hall
theorem Iu{l:List Bool}{i:Nat}:l.set i (l.getD i false)=l:=by
 by_cases h:i<l.length
 ·rw[show l.getD i false=l[i] by simp[h]]; simp
 ·exact List.set_eq_of_length_le (by omega)
end Go.Proofs.YtiakcepnlcpanaaGreatDoor
