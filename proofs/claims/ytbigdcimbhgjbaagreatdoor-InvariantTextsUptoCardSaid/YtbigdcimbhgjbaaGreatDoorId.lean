/-
 A part of the proof. No condition.
-/
import Derived.Test.YtbigdcimbhgjbaaGreatDoorIc
namespace Go.Proofs.YtbigdcimbhgjbaaGreatDoor
open Go.Ab Go.Proofs
set_option maxRecDepth 100000
theorem wF.acp{P:Program}{f:FuncId}{ts ts':List T}{t:Nat->T}{o:Option Ob}(H:wF P f ts t o){h:Hp}{n:Nat}{K:T->Hp->Prop}(Z:Nat->Prop)(hs:T.dJ Z h ts ts')(hK: ∀ h0:Hp,(∀ i,Z i->h0 i=none)->(∀ i,¬ Z i->h0 i=h i)->K (t n) (gu h0 n o)) :
  aP P f ts' h n K:=by
 classical
 let h0:Hp:=fun i=>if Z i then none else h i
 have hk0:K (t n) (gu h0 n o):=hK h0 (fun i hz=>if_pos hz) (fun i hz=>if_neg hz)
 refine aP.mono (post:=fun t' h'=>t'=t n/\h'=gu h0 n o) ?_ fun _ _ ⟨h1,h2⟩=>h1▸h2▸hk0
 obtain⟨_,hcl,hcall⟩:=wF.frame H h0 n
 refine⟨⟨_,_,rfl,rfl⟩,hcl,fun F M E vs hk he hts hid hm hn=>?_⟩
 subst he
 have hE0:(E.shut Z).h=h0:=by
  funext i
  cases hq:(E.shut Z).h i with
  |some ob=>obtain⟨h1,h2⟩:=rC hq; show some ob=if Z i then none else E.h i; rw[if_neg h2,h1]
  |none =>
   show none=if Z i then none else E.h i
   by_cases hz:Z i
   ·rw[if_pos hz]
   ·rw[if_neg hz]
    cases hq2:E.h i with
    |none=>rfl
    |some ob =>
     exfalso
     have:(E.shut Z).h i=some ob:=by simp only[Env.shut]; rw[if_neg hz,hq2]
     rw[hq] at this; cases this
 refine(hcall F M (E.shut Z) vs (hk.shut _) hE0 (nH hk _ _ hs _ hts) (T.ay (fun _ h=>h.elim) _ (cZ H.free)) (fun i ob hi=>?_) hn).mono ?_
 ·have hi':(if Z i then none else E.h i)=some ob:=hi
  split at hi'
  ·cases hi'
  ·exact hm i ob hi'
 ·rintro e w' ⟨v,t',E',rfl,rfl,⟨rfl,hh⟩,hv,hk',hext,hS,h7,h8⟩
  refine⟨v,t n,E',rfl,rfl,⟨rfl,hh⟩,hv,hk',(Ny F E Z).trans hext,fun i hi hi2=>?_,h7,h8⟩
  obtain⟨a,b,c⟩:=hS i hi hi2
  refine⟨?_,b,c⟩
  obtain⟨ob,hob⟩:=Option.isSome_iff_exists.1 a
  rw[(rC hob).1]; rfl
def Vs(x y:Int):Int:=bif x !=0 then x else y
theorem WE{x y:Int}(h:(x !=0)=true):Vs x y=x:=by rw[Vs,h]; rfl
theorem WG{x y:Int}(h:(x !=0)=false):Vs x y=y:=by rw[Vs,h]; rfl
def yR:List (List Int)->List (List Int)->Int
 |[],[]=>0
 |[],_::_=> -1
 |_::_,[]=>1
 |x::a,y::b=>Vs (cmpL x y) (yR a b)
def PK(k j:Clause):Int:=Vs (VL k.each.length j.each.length) (Vs (yR k.each j.each) (Vs (cmpL k.values j.values) (cmpL k.some j.some)))
theorem Qe{a b:List (List Int)}{i:Nat}(ha:i<a.length)(hb:i<b.length):yR (a.drop i) (b.drop i)=Vs (cmpL (a.getD i []) (b.getD i [])) (yR (a.drop (i+1)) (b.drop (i+1))):=by
 rw[aZ [] ha,aZ [] hb]; rfl
theorem Ug{a b:List (List Int)}{i:Nat}(hi:a.length<=i\/b.length<=i)(h1:i<=a.length)(h2:i<=b.length):yR (a.drop i) (b.drop i)=if a.length<b.length then -1 else if b.length<a.length then 1 else 0:=by
 by_cases ha:a.length<=i
 ·have e:a.drop i=[]:=List.drop_eq_nil_of_le ha
  rw[e]
  by_cases hb:b.length<=i
  ·rw[List.drop_eq_nil_of_le hb,if_neg (by omega),if_neg (by omega)]; rfl
  ·rw[aZ [] (by omega),if_pos (by omega)]; rfl
 ·have hb:b.length<=i:=by omega
  rw[List.drop_eq_nil_of_le hb,aZ [] (by omega),if_neg (by omega),if_pos (by omega)]; rfl
theorem S.iK(k j:Clause)(hk:nS k)(hj:nS j):ak Tryz.prog 8 [.dat (.clause k),.dat (.clause j)] (.int (PK k j)):=by
 have a1:=hk.each; have a2:=hk.values; have a3:=hk.some; have b1:=hj.each; have b2:=hj.values; have b3:=hj.some
 have a4:=hk.rows; have b4:=hj.rows
 refine ak.of Bd.iK (by simp) rfl rfl ?_
 conv=>whnf
 refine⟨fun h1=>?_,fun h1=>?_⟩
 ·conv=>whnf
  have h1':(k.each.length:Int)<j.each.length:=by simpa using h1
  refine au.int ?_
  rw[PK,VL,if_pos h1']; rfl
 have h1': ¬ (k.each.length:Int)<j.each.length:=by simpa using h1
 conv=>whnf
 refine⟨fun h2=>?_,fun h2=>?_⟩
 ·conv=>whnf
  have h2':(j.each.length:Int)<k.each.length:=by simpa using h2
  refine au.int ?_
  rw[PK,VL,if_neg h1',if_pos h2']; rfl
 have h2': ¬ (j.each.length:Int)<k.each.length:=by simpa using h2
 have hlen:k.each.length=j.each.length:=by omega
 have hC:PK k j=Vs (yR k.each j.each) (Vs (cmpL k.values j.values) (cmpL k.some j.some)):=by
  rw[PK,VL,if_neg h1',if_neg h2']; rfl
 rw[hC]
 conv=>whnf
 refine aQ.same [2,3] (fun i:Nat=>[(5,.int i)]) (fun i=>i<=k.each.length/\yR k.each j.each=yR (k.each.drop i) (j.each.drop i)) (fun i=>k.each.length-i) 0 rfl (by decide) rfl (fun _=>rfl) ⟨by omega,rfl⟩ ⟨⟨_,rfl,rfl⟩,trivial⟩ ?_
 conv=>whnf
 refine⟨rfl,?_⟩
 rintro i ⟨hi,he⟩
 conv=>whnf
 refine⟨fun h3=>?_,fun h3=>?_⟩
 ·have hi':i<k.each.length:=by simpa using h3
  rw[Qe hi' (by omega)] at he
  have a5:=a4 i; have b5:=b4 i
  conv=>whnf
  repeat(refine VC.mk (by simp only[Rw.rng] at *; first|omega|(simp_all; done)|(simp_all; omega)) ?_; conv=>whnf)
  refine ah.pure (S.oV (k.each.getD i []) (j.each.getD i []) (by omega) (by omega)) rfl ?_
  conv=>whnf
  refine⟨fun h5=>?_,fun h5=>?_⟩
  ·conv=>whnf
   exact au.int (by rw[he,WE h5,WE h5])
  ·conv=>whnf
   refine .mk (by simp only[okI] at *; first|omega|(simp_all; done)|(simp_all; omega)) ?_
   conv=>whnf
   refine⟨i+1,⟨by omega,by rw[he,WG h5]⟩,by omega,⟨⟨_,rfl,rfl⟩,trivial⟩,?_,rfl⟩
   repeat' (first|exact trivial|exact⟨_,rfl,rfl⟩|constructor)
 ·have hi':i=k.each.length:=by have:k.each.length<=i:=(by simpa using h3); omega
  have hz:yR k.each j.each=0:=by
   rw[he,Ug (.inl (by omega)) hi (by omega),if_neg (by omega),if_neg (by omega)]
  rw[hz,WG (by decide)]
  conv=>whnf
  refine ah.pure (S.oV k.values j.values (by omega) (by omega)) rfl ?_
  conv=>whnf
  refine⟨fun h4=>?_,fun h4=>?_⟩
  ·conv=>whnf
   exact au.int (by rw[WE h4])
  conv=>whnf
  refine ah.pure (S.oV k.some j.some (by omega) (by omega)) rfl ?_
  conv=>whnf
  exact au.int (by rw[WG h4])
end Go.Proofs.YtbigdcimbhgjbaaGreatDoor
