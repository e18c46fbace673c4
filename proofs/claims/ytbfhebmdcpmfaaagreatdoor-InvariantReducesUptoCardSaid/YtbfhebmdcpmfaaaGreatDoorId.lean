/-
 A part of the proof. No condition.
-/
import Derived.Test.YtbfhebmdcpmfaaaGreatDoorIc
namespace Go.Proofs.YtbfhebmdcpmfaaaGreatDoor
open Go.Ab Go.Proofs
set_option maxRecDepth 100000
theorem vM.MC{P:Program}{f:FuncId}{ts ts':List T}{t:Nat->T}{o:Option Ob}(H:vM P f ts t o){h:Hp}{n:Nat}{K:T->Hp->Prop}(Z:Nat->Prop)(hs:T.dD Z h ts ts')(hK: ∀ h0:Hp,(∀ i,Z i->h0 i=none)->(∀ i,¬ Z i->h0 i=h i)->K (t n) (nN h0 n o)) :
  aN P f ts' h n K:=by
 classical
 let h0:Hp:=fun i=>if Z i then none else h i
 have hk0:K (t n) (nN h0 n o):=hK h0 (fun i hz=>if_pos hz) (fun i hz=>if_neg hz)
 refine aN.mono (post:=fun t' h'=>t'=t n/\h'=nN h0 n o) ?_ fun _ _ ⟨h1,h2⟩=>h1▸h2▸hk0
 obtain⟨_,hcl,hcall⟩:=vM.frame H h0 n
 refine⟨⟨_,_,rfl,rfl⟩,hcl,fun F M E vs hk he hts hid hm hn=>?_⟩
 subst he
 have hE0:(E.shut Z).h=h0:=by
  funext i
  cases hq:(E.shut Z).h i with
  |some ob=>obtain⟨h1,h2⟩:=qR hq; show some ob=if Z i then none else E.h i; rw[if_neg h2,h1]
  |none =>
   show none=if Z i then none else E.h i
   by_cases hz:Z i
   ·rw[if_pos hz]
   ·rw[if_neg hz]
    cases hq2:E.h i with
    |none=>rfl
    |some ob =>
     exfalso
     have:(E.shut Z).h i=some ob:=by simp only[Env.shut]; rw[if_neg hz,hq2]
     rw[hq] at this; cases this
 refine(hcall F M (E.shut Z) vs (hk.shut _) hE0 (ny hk _ _ hs _ hts) (T.ay (fun _ h=>h.elim) _ (dw H.free)) (fun i ob hi=>?_) hn).mono ?_
 ·have hi':(if Z i then none else E.h i)=some ob:=hi
  split at hi'
  ·cases hi'
  ·exact hm i ob hi'
 ·rintro e w' ⟨v,t',E',rfl,rfl,⟨rfl,hh⟩,hv,hk',hext,hS,h7,h8⟩
  refine⟨v,t n,E',rfl,rfl,⟨rfl,hh⟩,hv,hk',(Np F E Z).trans hext,fun i hi hi2=>?_,h7,h8⟩
  obtain⟨a,b,c⟩:=hS i hi hi2
  refine⟨?_,b,c⟩
  obtain⟨ob,hob⟩:=Option.isSome_iff_exists.1 a
  rw[(qR hob).1]; rfl
theorem ah.MC{P:Program}{f:FuncId}{args args':List V}{res:V}{h:Hz}{n j:Nat}{K:V->Hz->Prop}{KW:Nat->V->Hz->Prop}(S:ak P f args' res)(hs:T.dD (fun i=>i=j) h.aj (V.aT args') (V.aT args))(_hr:res.free=true)(hK:K res ((j,none)::h)):ah P false none f args h n K KW:=by
 refine⟨.inl (vM.MC S (fun i=>i=j) hs fun h0 h1 h2=>⟨res,(j,none)::h,rfl,?_,fun e=>(by cases e),hK⟩)⟩
 show nN h0 n none=_
 funext i
 rw[bD]
 show h0 i=if i=j then none else h.aj i
 by_cases hi:i=j
 ·rw[if_pos hi,h1 i hi]
 ·rw[if_neg hi,h2 i hi]
def Vg(x y:Int):Int:=bif x !=0 then x else y
theorem Ws{x y:Int}(h:(x !=0)=true):Vg x y=x:=by rw[Vg,h]; rfl
theorem Wu{x y:Int}(h:(x !=0)=false):Vg x y=y:=by rw[Vg,h]; rfl
def y9:List (List Int)->List (List Int)->Int
 |[],[]=>0
 |[],_::_=> -1
 |_::_,[]=>1
 |x::a,y::b=>Vg (cmpL x y) (y9 a b)
def I5(k j:Clause):Int:=Vg (Wv k.each.length j.each.length) (Vg (y9 k.each j.each) (Vg (cmpL k.values j.values) (cmpL k.some j.some)))
theorem PS{a b:List (List Int)}{i:Nat}(ha:i<a.length)(hb:i<b.length):y9 (a.drop i) (b.drop i)=Vg (cmpL (a.getD i []) (b.getD i [])) (y9 (a.drop (i+1)) (b.drop (i+1))):=by
 rw[aY [] ha,aY [] hb]; rfl
theorem TM{a b:List (List Int)}{i:Nat}(hi:a.length<=i\/b.length<=i)(h1:i<=a.length)(h2:i<=b.length):y9 (a.drop i) (b.drop i)=if a.length<b.length then -1 else if b.length<a.length then 1 else 0:=by
 by_cases ha:a.length<=i
 ·have e:a.drop i=[]:=List.drop_eq_nil_of_le ha
  rw[e]
  by_cases hb:b.length<=i
  ·rw[List.drop_eq_nil_of_le hb,if_neg (by omega),if_neg (by omega)]; rfl
  ·rw[aY [] (by omega),if_pos (by omega)]; rfl
 ·have hb:b.length<=i:=by omega
  rw[List.drop_eq_nil_of_le hb,aY [] (by omega),if_neg (by omega),if_pos (by omega)]; rfl
theorem S.jT(k j:Clause)(hk:o9 k)(hj:o9 j):ak Tryz.prog 20 [.dat (.clause k),.dat (.clause j)] (.int (I5 k j)):=by
 have a1:=hk.each; have a2:=hk.values; have a3:=hk.some; have b1:=hj.each; have b2:=hj.values; have b3:=hj.some
 have a4:=hk.rows; have b4:=hj.rows
 refine ak.of Bd.jT (by simp) rfl rfl ?_
 conv=>whnf
 refine⟨fun h1=>?_,fun h1=>?_⟩
 ·conv=>whnf
  have h1':(k.each.length:Int)<j.each.length:=by simpa using h1
  refine au.int ?_
  rw[I5,Wv,if_pos h1']; rfl
 have h1': ¬ (k.each.length:Int)<j.each.length:=by simpa using h1
 conv=>whnf
 refine⟨fun h2=>?_,fun h2=>?_⟩
 ·conv=>whnf
  have h2':(j.each.length:Int)<k.each.length:=by simpa using h2
  refine au.int ?_
  rw[I5,Wv,if_neg h1',if_pos h2']; rfl
 have h2': ¬ (j.each.length:Int)<k.each.length:=by simpa using h2
 have hlen:k.each.length=j.each.length:=by omega
 have hC:I5 k j=Vg (y9 k.each j.each) (Vg (cmpL k.values j.values) (cmpL k.some j.some)):=by
  rw[I5,Wv,if_neg h1',if_neg h2']; rfl
 rw[hC]
 conv=>whnf
 refine aJ.same [2,3] (fun i:Nat=>[(5,.int i)]) (fun i=>i<=k.each.length/\y9 k.each j.each=y9 (k.each.drop i) (j.each.drop i)) (fun i=>k.each.length-i) 0 rfl (by decide) rfl (fun _=>rfl) ⟨by omega,rfl⟩ ⟨⟨_,rfl,rfl⟩,trivial⟩ ?_
 conv=>whnf
 refine⟨rfl,?_⟩
 rintro i ⟨hi,he⟩
 conv=>whnf
 refine⟨fun h3=>?_,fun h3=>?_⟩
 ·have hi':i<k.each.length:=by simpa using h3
  rw[PS hi' (by omega)] at he
  have a5:=a4 i; have b5:=b4 i
  conv=>whnf
  repeat(refine VC.mk (by simp only[Rw.rng] at *; first|omega|(simp_all; done)|(simp_all; omega)) ?_; conv=>whnf)
  refine ah.pure (S.oK (k.each.getD i []) (j.each.getD i []) (by omega) (by omega)) rfl ?_
  conv=>whnf
  refine⟨fun h5=>?_,fun h5=>?_⟩
  ·conv=>whnf
   exact au.int (by rw[he,Ws h5,Ws h5])
  ·conv=>whnf
   refine .mk (by simp only[okI] at *; first|omega|(simp_all; done)|(simp_all; omega)) ?_
   conv=>whnf
   refine⟨i+1,⟨by omega,by rw[he,Wu h5]⟩,by omega,⟨⟨_,rfl,rfl⟩,trivial⟩,?_,rfl⟩
   repeat' (first|exact trivial|exact⟨_,rfl,rfl⟩|constructor)
 ·have hi':i=k.each.length:=by have:k.each.length<=i:=(by simpa using h3); omega
  have hz:y9 k.each j.each=0:=by
   rw[he,TM (.inl (by omega)) hi (by omega),if_neg (by omega),if_neg (by omega)]
  rw[hz,Wu (by decide)]
  conv=>whnf
  refine ah.pure (S.oK k.values j.values (by omega) (by omega)) rfl ?_
  conv=>whnf
  refine⟨fun h4=>?_,fun h4=>?_⟩
  ·conv=>whnf
   exact au.int (by rw[Ws h4])
  conv=>whnf
  refine ah.pure (S.oK k.some j.some (by omega) (by omega)) rfl ?_
  conv=>whnf
  exact au.int (by rw[Wu h4])
end Go.Proofs.YtbfhebmdcpmfaaaGreatDoor
