/-
 A part of the proof. No condition.
-/
import Derived.Test.YtbfhebmdcpmfaaaGreatDoorIc
namespace Go.Proofs.YtbfhebmdcpmfaaaGreatDoor
open Go.Ab Go.Proofs
set_option maxRecDepth 100000
theorem uZ.aaV{P:Program}{f:FuncId}{ts ts':List T}{t:Nat->T}{o:Option Ob}(H:uZ P f ts t o){h:Hp}{n:Nat}{K:T->Hp->Prop}(Z:Nat->Prop)(hs:T.cu Z h ts ts')(hK: ∀ h0:Hp,(∀ i,Z i->h0 i=none)->(∀ i,¬ Z i->h0 i=h i)->K (t n) (nG h0 n o)) :
  aP P f ts' h n K:=by
 classical
 let h0:Hp:=fun i=>if Z i then none else h i
 have hk0:K (t n) (nG h0 n o):=hK h0 (fun i hz=>if_pos hz) (fun i hz=>if_neg hz)
 refine aP.mono (post:=fun t' h'=>t'=t n/\h'=nG h0 n o) ?_ fun _ _ ⟨h1,h2⟩=>h1▸h2▸hk0
 obtain⟨_,hcl,hcall⟩:=uZ.frame H h0 n
 refine⟨⟨_,_,rfl,rfl⟩,hcl,fun F M E vs hk he hts hid hm hn=>?_⟩
 subst he
 have hE0:(E.shut Z).h=h0:=by
  funext i
  cases hq:(E.shut Z).h i with
  |some ob=>obtain⟨h1,h2⟩:=qp hq; show some ob=if Z i then none else E.h i; rw[if_neg h2,h1]
  |none =>
   show none=if Z i then none else E.h i
   by_cases hz:Z i
   ·rw[if_pos hz]
   ·rw[if_neg hz]
    cases hq2:E.h i with
    |none=>rfl
    |some ob =>
     exfalso
     have:(E.shut Z).h i=some ob:=by simp only[Env.shut]; rw[if_neg hz,hq2]
     rw[hq] at this; cases this
 refine(hcall F M (E.shut Z) vs (hk.shut _) hE0 (nY hk _ _ hs _ hts) (T.ay (fun _ h=>h.elim) _ (cZ H.free)) (fun i ob hi=>?_) hn).mono ?_
 ·have hi':(if Z i then none else E.h i)=some ob:=hi
  split at hi'
  ·cases hi'
  ·exact hm i ob hi'
 ·rintro e w' ⟨v,t',E',rfl,rfl,⟨rfl,hh⟩,hv,hk',hext,hS,h7,h8⟩
  refine⟨v,t n,E',rfl,rfl,⟨rfl,hh⟩,hv,hk',(Lm F E Z).trans hext,fun i hi hi2=>?_,h7,h8⟩
  obtain⟨a,b,c⟩:=hS i hi hi2
  refine⟨?_,b,c⟩
  obtain⟨ob,hob⟩:=Option.isSome_iff_exists.1 a
  rw[(qp hob).1]; rfl
def TB(x y:Int):Int:=bif x !=0 then x else y
theorem UH{x y:Int}(h:(x !=0)=true):TB x y=x:=by rw[TB,h]; rfl
theorem UJ{x y:Int}(h:(x !=0)=false):TB x y=y:=by rw[TB,h]; rfl
def yc:List (List Int)->List (List Int)->Int
 |[],[]=>0
 |[],_::_=> -1
 |_::_,[]=>1
 |x::a,y::b=>TB (cmpL x y) (yc a b)
def Hr(k j:Clause):Int:=TB (UK k.each.length j.each.length) (TB (yc k.each j.each) (TB (cmpL k.values j.values) (cmpL k.some j.some)))
theorem Oc{a b:List (List Int)}{i:Nat}(ha:i<a.length)(hb:i<b.length):yc (a.drop i) (b.drop i)=TB (cmpL (a.getD i []) (b.getD i [])) (yc (a.drop (i+1)) (b.drop (i+1))):=by
 rw[bg [] ha,bg [] hb]; rfl
theorem Rh{a b:List (List Int)}{i:Nat}(hi:a.length<=i\/b.length<=i)(h1:i<=a.length)(h2:i<=b.length):yc (a.drop i) (b.drop i)=if a.length<b.length then -1 else if b.length<a.length then 1 else 0:=by
 by_cases ha:a.length<=i
 ·have e:a.drop i=[]:=List.drop_eq_nil_of_le ha
  rw[e]
  by_cases hb:b.length<=i
  ·rw[List.drop_eq_nil_of_le hb,if_neg (by omega),if_neg (by omega)]; rfl
  ·rw[bg [] (by omega),if_pos (by omega)]; rfl
 ·have hb:b.length<=i:=by omega
  rw[List.drop_eq_nil_of_le hb,bg [] (by omega),if_neg (by omega),if_pos (by omega)]; rfl
theorem S.jP(k j:Clause)(hk:kE k)(hj:kE j):au Tryz.prog 20 [.dat (.clause k),.dat (.clause j)] (.int (Hr k j)):=by
 have a1:=hk.each; have a2:=hk.values; have a3:=hk.some; have b1:=hj.each; have b2:=hj.values; have b3:=hj.some
 have a4:=hk.rows; have b4:=hj.rows
 refine au.of Bd.jP (by simp) rfl rfl ?_
 conv=>whnf
 refine⟨fun h1=>?_,fun h1=>?_⟩
 ·conv=>whnf
  have h1':(k.each.length:Int)<j.each.length:=by simpa using h1
  refine aA.int ?_
  rw[Hr,UK,if_pos h1']; rfl
 have h1': ¬ (k.each.length:Int)<j.each.length:=by simpa using h1
 conv=>whnf
 refine⟨fun h2=>?_,fun h2=>?_⟩
 ·conv=>whnf
  have h2':(j.each.length:Int)<k.each.length:=by simpa using h2
  refine aA.int ?_
  rw[Hr,UK,if_neg h1',if_pos h2']; rfl
 have h2': ¬ (j.each.length:Int)<k.each.length:=by simpa using h2
 have hlen:k.each.length=j.each.length:=by omega
 have hC:Hr k j=TB (yc k.each j.each) (TB (cmpL k.values j.values) (cmpL k.some j.some)):=by
  rw[Hr,UK,if_neg h1',if_neg h2']; rfl
 rw[hC]
 conv=>whnf
 refine aJ.same [2,3] (fun i:Nat=>[(5,.int i)]) (fun i=>i<=k.each.length/\yc k.each j.each=yc (k.each.drop i) (j.each.drop i)) (fun i=>k.each.length-i) 0 rfl (by decide) rfl (fun _=>rfl) ⟨by omega,rfl⟩ ⟨⟨_,rfl,rfl⟩,trivial⟩ ?_
 conv=>whnf
 refine⟨rfl,?_⟩
 rintro i ⟨hi,he⟩
 conv=>whnf
 refine⟨fun h3=>?_,fun h3=>?_⟩
 ·have hi':i<k.each.length:=by simpa using h3
  rw[Oc hi' (by omega)] at he
  have a5:=a4 i; have b5:=b4 i
  conv=>whnf
  repeat(refine VC.mk (by simp only[Rw.rng] at *; first|omega|(simp_all; done)|(simp_all; omega)) ?_; conv=>whnf)
  refine ah.pure (S.oh (k.each.getD i []) (j.each.getD i []) (by omega) (by omega)) rfl ?_
  conv=>whnf
  refine⟨fun h5=>?_,fun h5=>?_⟩
  ·conv=>whnf
   exact aA.int (by rw[he,UH h5,UH h5])
  ·conv=>whnf
   refine .mk (by simp only[okI] at *; first|omega|(simp_all; done)|(simp_all; omega)) ?_
   conv=>whnf
   refine⟨i+1,⟨by omega,by rw[he,UJ h5]⟩,by omega,⟨⟨_,rfl,rfl⟩,trivial⟩,?_,rfl⟩
   repeat' (first|exact trivial|exact⟨_,rfl,rfl⟩|constructor)
 ·have hi':i=k.each.length:=by have:k.each.length<=i:=(by simpa using h3); omega
  have hz:yc k.each j.each=0:=by
   rw[he,Rh (.inl (by omega)) hi (by omega),if_neg (by omega),if_neg (by omega)]
  rw[hz,UJ (by decide)]
  conv=>whnf
  refine ah.pure (S.oh k.values j.values (by omega) (by omega)) rfl ?_
  conv=>whnf
  refine⟨fun h4=>?_,fun h4=>?_⟩
  ·conv=>whnf
   exact aA.int (by rw[UH h4])
  conv=>whnf
  refine ah.pure (S.oh k.some j.some (by omega) (by omega)) rfl ?_
  conv=>whnf
  exact aA.int (by rw[UJ h4])
end Go.Proofs.YtbfhebmdcpmfaaaGreatDoor
