/-
 A part of the proof. No condition.
-/
import Derived.Test.YtifbibbicplneaaGreatDoorIe
namespace Go.Proofs.YtifbibbicplneaaGreatDoor
open Go.Ab Go.Proofs
set_option maxRecDepth 100000
def jX(l a:List Clause)(g:Clause->Bool):List Bool:=l.map g++List.replicate a.length false
def xR(l a:List Clause)(p q:Clause->Bool)(i:Nat):List Bool:=Nk l p q i++List.replicate a.length false
theorem IZ{l a:List Clause}{p q:Clause->Bool}:xR l a p q l.length=jX l a p:=by rw[xR,Yt]; rfl
theorem I4{l a:List Clause}{p q:Clause->Bool}{i:Nat}:(xR l a p q i).length=l.length+a.length:=by rw[xR,List.length_append,Pg,List.length_replicate]
theorem Yv{l a:List Clause}{g:Clause->Bool}:(jX l a g).length=l.length+a.length:=by simp[jX]
theorem Fj{l a:List Clause}{p q:Clause->Bool}{i:Nat}(hi:i<l.length):(xR l a p q i).getD i false=q (l.getD i default)/\(xR l a p q i).set i (p (l.getD i default))=xR l a p q (i+1):=by
 obtain⟨h1,h2⟩:=VZ (p:=p) (q:=q) hi
 have hl:=Pg (l:=l) (p:=p) (q:=q) (i:=i)
 refine⟨?_,?_⟩
 ·rw[<- h1,xR,List.getD_eq_getElem?_getD,List.getElem?_append_left (by omega),List.getD_eq_getElem?_getD]
 ·rw[xR,List.set_append,if_pos (by omega),h2]; rfl
theorem LC{l a:List Clause}{g:Clause->Bool}:(jX l a g).take l.length=l.map g:=by
 rw[jX,List.take_append_of_le_length (by simp),List.take_of_length_le (by simp)]
theorem I5{l a:List Clause}{g:Clause->Bool}{i:Nat}:(jX l a g).getD i false=(decide (i<l.length)&&g (l.getD i default)):=by
 unfold jX
 by_cases h:i<l.length
 ·rw[List.getD_eq_getElem?_getD,List.getElem?_append_left (by simpa using h)]; simp[h]
 ·rw[List.getD_eq_getElem?_getD,List.getElem?_append_right (by simp; omega),List.getElem?_replicate]
  simp only[h,decide_false,Bool.false_and]
  split<;>rfl
theorem Ph{l a:List Clause}{g:Clause->Bool}{e:Elem}:((List.range (fE (l++a) e).length).all fun i=>(fE (l++a) e).getD i false||(jX l a g).getD i false)=tJ l a g e:=by
 rw[iV,Bool.eq_iff_iff,List.all_eq_true,tJ,Bool.and_eq_true,List.all_eq_true,aV,List.all_eq_true]
 have hrow: ∀ i,i<(l++a).length->(fE (l++a) e).getD i false=holdsB ((l++a).getD i default) e:=fun i hi=>G8 hi
 constructor
 ·intro h
  refine⟨fun k hk=>?_,fun k hk=>?_⟩
  ·obtain⟨i,hi,rfl⟩:=List.mem_iff_getElem.1 hk
   have h1:=h i (List.mem_range.2 (by rw[List.length_append]; omega))
   rw[hrow i (by rw[List.length_append]; omega),I5] at h1
   have e1:(l++a).getD i default=l[i]:=by rw[List.getD_eq_getElem?_getD,List.getElem?_append_left hi]; simp[hi]
   have e2:l.getD i default=l[i]:=by simp[hi]
   rw[e1,e2,decide_eq_true hi,Bool.true_and] at h1
   exact h1
  ·obtain⟨i,hi,rfl⟩:=List.mem_iff_getElem.1 hk
   have h1:=h (l.length+i) (List.mem_range.2 (by rw[List.length_append]; omega))
   rw[hrow _ (by rw[List.length_append]; omega),I5,decide_eq_false (by omega),Bool.false_and,Bool.or_false] at h1
   have e1:(l++a).getD (l.length+i) default=a[i]:=by rw[List.getD_eq_getElem?_getD,List.getElem?_append_right (by omega)]; simp[hi]
   rw[e1] at h1; exact h1
 ·rintro⟨h1,h2⟩ i hi
  have hi':=List.mem_range.1 hi
  rw[hrow i hi',I5]
  by_cases hl:i<l.length
  ·have e1:(l++a).getD i default=l.getD i default:=by rw[List.getD_eq_getElem?_getD,List.getElem?_append_left hl,List.getD_eq_getElem?_getD]
   rw[e1,decide_eq_true hl,Bool.true_and]
   exact h1 _ (getM hl)
  ·rw[List.length_append] at hi'
   have e1:(l++a).getD i default=a.getD (i-l.length) default:=by rw[List.getD_eq_getElem?_getD,List.getElem?_append_right (by omega),List.getD_eq_getElem?_getD]
   rw[e1,h2 _ (getM (by omega))]; rfl
section
variable {rs:List Rule} {es:List Elem} {l a:List Clause} {f:Clause->Bool}
def dK(rs:List Rule)(es:List Elem)(l a:List Clause)(f:Clause->Bool)(x y:Nat)(k:Clause):Bool :=
 (f k||(rs.take x).any fun r=>es.any fun e=>tJ l a f e&&xQ r e k)||(es.take y).any fun e=>tJ l a f e&&xQ (rs.getD x default) e k
theorem Yw{k:Clause}:dK rs es l a f 0 0 k=f k:=by simp[dK]
theorem I7{x y:Nat}(hy:y<es.length)(k:Clause):dK rs es l a f x (y+1) k=(dK rs es l a f x y k||(tJ l a f (es.getD y default)&&xQ (rs.getD x default) (es.getD y default) k)):=by
 have e1:es.take (y+1)=es.take y++[es.getD y default]:=by rw[List.take_add_one]; simp[hy]
 unfold dK
 rw[e1,List.any_append,List.any_cons,List.any_nil,Bool.or_false,<- Bool.or_assoc]
theorem Pj{x:Nat}(hx:x<rs.length)(k:Clause):dK rs es l a f x es.length k=dK rs es l a f (x+1) 0 k:=by
 have e1:rs.take (x+1)=rs.take x++[rs.getD x default]:=by rw[List.take_add_one]; simp[hx]
 unfold dK
 rw[e1,List.take_length,List.any_append,List.any_cons,List.any_nil,Bool.or_false,List.take_zero,List.any_nil,Bool.or_false,<- Bool.or_assoc]
theorem aas{k:Clause}:dK rs es l a f rs.length 0 k=(f k||Ea rs es l a f k):=by
 unfold dK Ea
 rw[List.take_length,List.take_zero,List.any_nil,Bool.or_false]
theorem Yx{x y:Nat}{k:Clause}(h:f k=true):dK rs es l a f x y k=true:=by
 unfold dK; rw[h]; rfl
end
def LD(l:List Clause)(g f:Clause->Bool):Bool:=l.any fun k=>g k&& !f k
def Pm(l:List Clause)(p q f:Clause->Bool)(i:Nat):Bool:=((l.take i).any fun k=>p k&& !f k)||(l.drop i).any fun k=>q k&& !f k
theorem Uj{l:List Clause}{p q f:Clause->Bool}:Pm l p q f 0=LD l q f:=by simp[Pm,LD]
theorem Yy{l:List Clause}{p q f:Clause->Bool}:Pm l p q f l.length=LD l p f:=by simp[Pm,LD]
theorem Yz{l:List Clause}{p q f:Clause->Bool}{i:Nat}(hi:i<l.length):Pm l p q f i=(((l.take i).any fun k=>p k&& !f k)||((q (l.getD i default)&& !f (l.getD i default))||(l.drop (i+1)).any fun k=>q k&& !f k)):=by
 rw[Pm,bC default hi,List.any_cons]
theorem LG{l:List Clause}{p q f:Clause->Bool}{i:Nat}(hi:i<l.length):Pm l p q f (i+1)=(((l.take i).any fun k=>p k&& !f k)||((p (l.getD i default)&& !f (l.getD i default))||(l.drop (i+1)).any fun k=>q k&& !f k)):=by
 have e1:l.take (i+1)=l.take i++[l.getD i default]:=by rw[List.take_add_one]; simp[hi]
 rw[Pm,e1,List.any_append,List.any_cons,List.any_nil,Bool.or_false,Bool.or_assoc]
theorem Uk{l:List Clause}{p q f:Clause->Bool}{i:Nat}(hi:i<l.length)(h:p (l.getD i default)=q (l.getD i default)):Pm l p q f (i+1)=Pm l p q f i:=by
 rw[Yz hi,LG hi,h]
theorem YA{l:List Clause}{p q f:Clause->Bool}{i:Nat}(hi:i<l.length)(h:p (l.getD i default)=true)(hf:f (l.getD i default)=false):Pm l p q f (i+1)=true:=by
 rw[LG hi,h,hf]; simp
theorem S.zZ(l d:List Bool)(f g:Bool)(hl:l.length<2^30)(hd:l.length<=d.length):aj Tryz.prog 106 [.row 0 f (.bools l),.row 0 g (.bools d)] (.bool ((List.range l.length).all fun i=>l.getD i false||d.getD i false)):=by
 refine aj.of Bd.kR (by simp) rfl rfl ?_
 conv=>whnf
 refine aF.same [1,7,8] (fun i:Nat=>[(9,.int i)]) (fun i=>i<=l.length/\((List.range i).all fun i=>l.getD i false||d.getD i false)=true) (fun i=>l.length-i) 0 rfl (by decide) rfl (fun _=>rfl) ⟨by omega,by simp⟩ ⟨⟨_,rfl,rfl⟩,trivial⟩ ?_
 conv=>whnf
 refine⟨rfl,?_⟩
 rintro i ⟨hi,hall⟩
 conv=>whnf
 refine⟨fun h3=>?_,fun h3=>?_⟩
 ·have hi':i<l.length:=by simpa using h3
  have hnext:((List.range (i+1)).all fun i=>l.getD i false||d.getD i false)=(l.getD i false||d.getD i false):=by
   rw[List.range_succ,List.all_append,hall]; simp
  conv=>whnf
  repeat(refine VC.mk (by first|(first|(simp only[Rw.rng,Int.toNat_natCast]; omega))|exact fun h=>h|(intro h; (repeat' apply And.intro)<;>first|exact h|omega|(simp only[Rw.lM]; omega)|(simp only[Rw.rng]; omega))) ?_; conv=>whnf)
  refine⟨fun h4=>?_,fun h4=>?_⟩
  ·have h4':(l.getD i false||d.getD i false)=false:=by
    have h5:(!(l.getD i false)&& !(d.getD i false))=true:=h4
    cases h6:l.getD i false<;>cases h7:d.getD i false<;>rw[h6,h7] at h5<;>first|rfl|cases h5
   conv=>whnf
   refine ak.bool ?_
   rw[List.all_eq_false]
   exact⟨i,List.mem_range.2 hi',by rw[h4']; decide⟩
  ·have h4':(l.getD i false||d.getD i false)=true:=by
    have h5:(!(l.getD i false)&& !(d.getD i false))=false:=h4
    cases h6:l.getD i false<;>cases h7:d.getD i false<;>rw[h6,h7] at h5<;>first|rfl|cases h5
   conv=>whnf
   refine .mk (by simp only[okI] at *; omega) ?_
   conv=>whnf
   refine⟨i+1,⟨by omega,by rw[hnext,h4']⟩,by omega,⟨⟨_,rfl,rfl⟩,trivial⟩,?_,rfl⟩
   repeat' (first|exact trivial|exact⟨_,rfl,rfl⟩|constructor)
 ·have hi':i=l.length:=by have: ¬ ((i:Int)<(l.length:Int)):=of_decide_eq_false h3; omega
  subst hi'
  conv=>whnf
  exact ak.bool hall
theorem BX{l:List Bool}{i:Nat}:l.set i (l.getD i false)=l:=by
 by_cases h:i<l.length
 ·rw[show l.getD i false=l[i] by simp[h]]; simp
 ·exact List.set_eq_of_length_le (by omega)
theorem acr{h:Hz}{j i ty:Nat}{Z:Nat->Prop}{l:List Bool}(hz:Z j)(q:h.get j=some (.row ty 0 (.bools l) []))(hi:i<=l.length):T.sub Z h.au (V.row 0 false (.bools (l.take i))).aI (V.rH j 0 i).aI:=by
 show T.sub Z h.au (.sl 0 false ((l.take i).map T.bool)) (.rH j 0 i)
 simp only[T.sub]
 refine⟨trivial,hz,?_,by decide,ty,l.map T.bool,?_,by simpa using hi,by rw[List.map_take]; rfl⟩
 ·rw[gu]; intro t ht; obtain⟨x,_,rfl⟩:=List.mem_map.1 ht; rfl
 ·have:=aJ q; simpa [OV.aH,Rw.aW,V.aW] using this
def bF(l:List Clause)(F:Nat->Clause->Bool):Nat->Bool
 |0=>true
 |j+1=>LD l (F (j+1)) (F j)
theorem Ul{l:List Clause}{f:Clause->Bool}:LD l f f=false:=by
 unfold LD; rw[List.any_eq_false]; intro k _; cases f k<;>decide
def muF(l:List Clause)(F:Nat->Clause->Bool)(j:Nat):Nat:=2*(l.length-l.countP (F j))+(bif bF l F j then 1 else 0)
theorem aat{rs:List Rule}{es:List Elem}{l a:List Clause}{f:Clause->Bool}{j:Nat}(h:bF l (aO rs es l a f) j=true):muF l (aO rs es l a f) (j+1)<muF l (aO rs es l a f) j:=by
 unfold muF
 rw[h]
 have h1:=List.countP_le_length (p:=aO rs es l a f (j+1)) (l:=l)
 have h2:=(countP_le (l:=l) (p:=aO rs es l a f j) (q:=aO rs es l a f (j+1)) fun k _=>Fe).1
 cases hb:bF l (aO rs es l a f) (j+1) with
 |false=>simp only[cond_true,cond_false]; omega
 |true =>
  have hb':LD l (aO rs es l a f (j+1)) (aO rs es l a f j)=true:=hb
  unfold LD at hb'
  obtain⟨k,hk,hq⟩:=List.any_eq_true.1 hb'
  rw[Bool.and_eq_true,Bool.not_eq_true'] at hq
  have h3:=(countP_le (l:=l) (p:=aO rs es l a f j) (q:=aO rs es l a f (j+1)) fun k _=>Fe).2 ⟨k,hk,hq.2,hq.1⟩
  simp only[cond_true]; omega
theorem aau{rs:List Rule}{es:List Elem}{l a:List Clause}{f:Clause->Bool}{j:Nat}(h:bF l (aO rs es l a f) (j+1)=false):Eb rs es l a f j:=by
 intro k hk
 have h1:LD l (aO rs es l a f (j+1)) (aO rs es l a f j)=false:=h
 unfold LD at h1
 have h2:=List.any_eq_false.1 h1 k hk
 cases hq:aO rs es l a f j k with
 |true=>exact Fe hq
 |false =>
  cases hr:aO rs es l a f (j+1) k with
  |false=>rfl
  |true=>rw[hq,hr] at h2; exact absurd rfl h2
theorem aav{rs:List Rule}{es:List Elem}{l a:List Clause}{f:Clause->Bool}{j:Nat}:dK rs es l a (aO rs es l a f j) rs.length 0=aO rs es l a f (j+1):=by
 funext k; exact aas
theorem Ed{rs:List Rule}{es:List Elem}{l a:List Clause}{f:Clause->Bool}{x y:Nat}(hy:y<es.length)(h: ∀ k,(tJ l a f (es.getD y default)&&xQ (rs.getD x default) (es.getD y default) k)=false):dK rs es l a f x (y+1)=dK rs es l a f x y:=by
 funext k; rw[I7 hy,h k,Bool.or_false]
theorem ah.aaw{P:Program}{f:FuncId}{ts args:List V}{h:Hz}{i n:Nat}{o0:OV}{K:V->Hz->Prop}{KW:Nat->V->Hz->Prop}{post:T->Hp->Prop}(H:aU P f (V.aW ts) (Hz.au [(0,some o0)]) 1 post)
  (ha:T.dw (fun _=>i) (V.aW ts)=V.aW args) (hid:T.Ui 1 (V.aW ts)=true) (hg:o0.good 1=true) (hf:o0.Gw=true) (hi:h.get i=some o0) (hn:h.get n=none)
  (hK: ∀ t hp,post t hp->(∃ v o,hp=Hz.au [(0,some o)]/\o.Gw=true/\t.ren (nameAt (fun _=>i) 1 n)=v.aI/\K v ((i,some o)::h)) \/
   (∃ v o o',hp=Hz.au [(0,some o),(1,some o')]/\o.Gw=true/\o'.Gw=true/\t.ren (nameAt (fun _=>i) 1 n)=v.aI/\K v ((i,some o)::(n,some o')::h))):ah P false none f args h n K KW:=by
 have hin:i≠n:=by rintro rfl; rw[hi] at hn; cases hn
 have hl0: ∀ j:Nat,j<1->(Hz.au [(0,some o0)] j).isSome=true:=fun j hj=>by rw[nP,if_pos (by omega)]; rfl
 have hsome: ∀ j,(Hz.au [(0,some o0)] j).isSome=true->j=0:=fun j hj=>by
  rw[nP] at hj; split at hj
  ·assumption
  ·cases hj
 refine ah.heap (post:=fun t' h'=> ∃ t h1,post t h1/\t'=t.ren (nameAt (fun _=>i) 1 n)/\h'=placed (fun _=>i) 1 n (Hz.au [(0,some o0)]) h.au h1) ?_ ?_
 ·rw[<- ha]
  refine aU.place H (T.ay hl0 _ (AZ hid)) (fun j ob hj=>?_) (by rw[nP]; rfl) (fun j ob hj=>?_) (fun a b h1 h2 _=>by rw[hsome a h1,hsome b h2])
  ·rw[nP] at hj; split at hj
   ·cases hj
    have hz:T.aS (fun _=>False) o0.aH.l:=OV.yR hf
    exact⟨T.ay (fun _ h=>h.elim) _ hz,(OV.wH hg).2⟩
   ·cases hj
  ·rw[nP] at hj; split at hj
   ·cases hj
    rw[lu hf]; exact aJ hi
   ·cases hj
 ·rintro t' h' ⟨t,h1,hp,rfl,rfl⟩
  have inj: ∀ a b,((Hz.au [(0,some o0)] a).isSome=true\/a=1)->((Hz.au [(0,some o0)] b).isSome=true\/b=1)->nameAt (fun _=>i) 1 n a=nameAt (fun _=>i) 1 n b->a=b:=by
   intro a b ha hb e
   rcases ha with ha|rfl<;>rcases hb with hb|rfl
   ·rw[hsome a ha,hsome b hb]
   ·rw[hsome a ha] at e; exact absurd e hin
   ·rw[hsome b hb] at e; exact absurd e.symm hin
   ·rfl
  have at0: ∀ h1,placed (fun _=>i) 1 n (Hz.au [(0,some o0)]) h.au h1 i=(h1 0).map (Ob.ren (nameAt (fun _=>i) 1 n)):=fun h1=>mP (h:=h.au) (h1:=h1) inj (i:=0) (.inl (hl0 0 (by decide)))
  have at1: ∀ h1,placed (fun _=>i) 1 n (Hz.au [(0,some o0)]) h.au h1 n=(h1 1).map (Ob.ren (nameAt (fun _=>i) 1 n)):=fun h1=>mP (h:=h.au) (h1:=h1) inj (i:=1) (.inr rfl)
  have atO: ∀ h1 j,j≠i->j≠n->placed (fun _=>i) 1 n (Hz.au [(0,some o0)]) h.au h1 j=h.au j:=fun h1 j g1 g2=>yQ (by
   rintro⟨a,ha,e⟩
   rcases ha with ha|rfl
   ·rw[hsome a ha] at e; exact g1 e.symm
   ·exact g2 e.symm)
  rcases hK t h1 hp with ⟨v,o,rfl,ho,hv,hk⟩|⟨v,o,o',rfl,ho,ho',hv,hk⟩
  ·refine⟨v,_,hv,?_,hk⟩
   funext j
   rw[cu]
   by_cases e1:j=i
   ·subst e1; rw[if_pos rfl,at0,nP,if_pos rfl,Option.map_some,lu ho]; rfl
   ·rw[if_neg e1]
    by_cases e2:j=n
    ·subst e2; rw[at1,nP,if_neg (by decide)]; simp only[Hz.au,hn]; rfl
    ·exact atO _ j e1 e2
  ·refine⟨v,_,hv,?_,hk⟩
   funext j
   rw[cu,cu]
   by_cases e1:j=i
   ·subst e1; rw[if_pos rfl,at0,cu,if_pos rfl,Option.map_some,Option.map_some,lu ho]
   ·rw[if_neg e1]
    by_cases e2:j=n
    ·subst e2; rw[if_pos rfl,at1,cu,if_neg (by decide),nP,if_pos rfl,Option.map_some,Option.map_some,lu ho']
    ·rw[if_neg e2]; exact atO _ j e1 e2
theorem jH.keep{h:Hz}{c:Nat}{post:T->Hp->Prop}{o0 o:OV}(h0:h.get 0=some o0)(hc:h.get c=some o)(hc0:c≠0)(hg0:o0.good 1=true)(hg:o.good (c+1)=true)(hf0:o0.Gw=true)(hf:o.Gw=true)(hp:post (.own 1) (Hz.au [(0,some o0),(1,some o)])):jH [(0,some o0)] 1 post (.own c) h:=by
 have hx: ∀ i ob,Hz.au [(0,some o0),(1,some o)] i=some ob->(i=0/\ob=o0.aH)\/(i=1/\ob=o.aH):=fun i ob hi=>by
  rw[cu,nP] at hi
  by_cases e0:i=0
  ·rw[if_pos e0] at hi; cases hi; exact .inl ⟨e0,rfl⟩
  ·rw[if_neg e0] at hi
   by_cases e1:i=1
   ·rw[if_pos e1] at hi; cases hi; exact .inr ⟨e1,rfl⟩
   ·rw[if_neg e1] at hi; cases hi
 have hM: ∀ i,(i=0\/i=1)->(Hz.au [(0,some o0)] i).isSome=true\/i=1:=by
  rintro i (rfl|rfl)
  ·exact .inl rfl
  ·exact .inr rfl
 refine⟨fun _=>False,fun i=>if i=1 then c else i,.own 1,_,hp,aC _,fun i ob hi=>?_,fun i j hi hj e=>?_,?_,fun i ob hi=>?_,fun i hi hi'=>?_⟩
 ·rcases hx i ob hi with ⟨rfl,rfl⟩|⟨rfl,rfl⟩
  ·refine⟨o0.aH,aJ h0,fun h=>h,rfl,rfl,?_,wZ (OV.wH hg0).2⟩
   rw[OV.yJ hf0]; exact cO _
  ·refine⟨o.aH,aJ hc,fun h=>h,rfl,rfl,?_,wZ (OV.wH hg).2⟩
   rw[OV.yJ hf]; exact cO _
 ·obtain⟨oi,hi⟩:=Option.isSome_iff_exists.1 hi
  obtain⟨oj,hj⟩:=Option.isSome_iff_exists.1 hj
  rcases hx _ _ hi with ⟨rfl,_⟩|⟨rfl,_⟩<;>rcases hx _ _ hj with ⟨rfl,_⟩|⟨rfl,_⟩
  ·rfl
  ·exact absurd e.symm hc0
  ·exact absurd e hc0
  ·rfl
 ·exact .inr rfl
 ·rcases hx i ob hi with ⟨rfl,rfl⟩|⟨rfl,rfl⟩
  ·exact⟨hM _ (.inl rfl),T.ay (fun _ h=>h.elim) _ (OV.yR hf0)⟩
  ·exact⟨hM _ (.inr rfl),T.ay (fun _ h=>h.elim) _ (OV.yR hf)⟩
 ·have:i=0:=by
   rw[nP] at hi
   by_cases e0:i=0
   ·exact e0
   ·rw[if_neg e0] at hi; cases hi
  rw[this]; rfl
theorem S.Pn(l:List Bool)(hl:l.length<2^30):aU Tryz.prog 124 (V.aW [.own 0]) (Hz.au [(0,some (rowB l))]) 1 (fun t hp=>(l=[]/\t=T.nil/\hp=Hz.au [(0,some (rowB l))])\/(t= .own 1/\hp=Hz.au [(0,some (rowB l)),(1,some (rowB l))])):=by
 refine qF.of (nx:=1) (h0:=[(0,some (rowB l))]) Bd.lC (by simp) ⟨_,_,.inr ⟨rfl,rfl⟩⟩ rfl rfl ?_
 conv=>whnf
 refine Rq.mk (fun hz=>?_) ?_
 ·have h0:l=[]:=List.eq_nil_of_length_eq_zero hz
  conv=>whnf
  refine Fork.mk (fun _=>?_) (fun q=>absurd (q.symm.trans ((rfl:true=true))) Bool.false_ne_true)
  conv=>whnf
  exact jH.same (nx:=1) rfl ⟨rfl,trivial⟩ rfl rfl (.inl ⟨h0,rfl,rfl⟩)
 ·conv=>whnf
  refine Fork.mk (fun q=>absurd (q.symm.trans ((rfl:false=false))).symm Bool.false_ne_true) (fun _=>?_)
  conv=>whnf
  refine .mk (by simp only[kU,kD,Rw.len]; omega) ?_
  conv=>whnf
  repeat(refine VC.mk (by simp only[kU,kD,Rw.len]; omega) ?_; conv=>whnf)
  exact jH.keep (c:=6) (o:=rowB l) rfl rfl (by decide) rfl rfl rfl rfl (.inr ⟨rfl,rfl⟩)
theorem ah.acs{h:Hz}{i n:Nat}{l:List Bool}{K:V->Hz->Prop}{KW:Nat->V->Hz->Prop}(hi:h.get i=some (rowB l))(hn:h.get n=none)(hl:l.length<2^30)
  (h1:l=[]->K (.row 0 true .nil) ((i,some (rowB l))::h)) (h2:K (.own n) ((i,some (rowB l))::(n,some (rowB l))::h)):ah Tryz.prog false none 124 [.own i] h n K KW:=by
 refine ah.aaw (ts:=[.own 0]) (S.Pn l hl) rfl rfl rfl rfl hi hn ?_
 rintro t hp (⟨a,rfl,rfl⟩|⟨rfl,rfl⟩)
 ·exact .inl ⟨.row 0 true .nil,rowB l,rfl,rfl,rfl,h1 a⟩
 ·exact .inr ⟨.own n,rowB l,rowB l,rfl,rfl,rfl,rfl,h2⟩
def wB(p:aX)(l:List Clause):List Elem:=fJ (uN l+3) p.states.length (lV p)
def Oz(p:aX)(q:Prop')(l a:List Clause):List Clause:=JW p.rules (wB p (l++a)) l a (aB (ng p q (l++a)))
set_option maxHeartbeats 8000000 in
theorem S.iP(p:aX)(q:Prop')(l a:List Clause)(f g:Bool)(hp:dn p)(hq:jF q)(hv:jo p q=0)(hin:GY p=0)(hl:jg p.states.length p.values.length l)(ha:jg p.states.length p.values.length a)(hs:l.length+a.length<=1000) :
  aj Tryz.prog 82 [.dat (.bW p),.dat (.prop q),.row 4 f (.clauses l),.row 4 g (.clauses a)] (.row 4 false (.clauses (Oz p q l a))):=by
 obtain⟨hF,hpl⟩:=A8 hin
 have g1:=hF.pos; have g2:=hF.states; have g3:=hF.values
 have hla:=hl.app ha hs
 have hsm:=hla.small g2 g3
 have hrk:=zU (l:=l++a)
 have ach:bI (l++a)<=3:=pz fun k hk=>(hla.cl k hk).two
 have hlen:(l++a).length=l.length+a.length:=List.length_append
 have kZ:lV p<=3:=by unfold lV; omega
 have GH:uN (l++a)+3<=9:=by omega
 have hI:aj Tryz.prog 56 [.dat (.bW p),.dat (.prop q),.int (bI (l++a)+2)] (.row 3 false (.elems (ng p q (l++a)))):=by
  have:=S.iI p q (uN (l++a)+2) hp hq hv hF (by omega)
  rw[hrk]; exact this
 have hU:aj Tryz.prog 70 [.dat (.bW p),.int (bI (l++a)+2)] (.row 3 false (.elems (wB p (l++a)))):=by
  have:=S.eU p p.states.length (lV p) (uN (l++a)+2) hp rfl g1 g2 rfl kZ (by omega)
  rw[hrk]; exact this
 have aeS:=qQ (b:=uN (l++a)+3) (n:=p.states.length) GH g2
 have hok: ∀ e∈wB p (l++a),uy (uN (l++a)+3) p.states.length (lV p) e:=sO (by omega)
 have adU: ∀ e∈ng p q (l++a),uy (uN (l++a)+3) p.states.length (lV p) e:=fun e he=>sO (by omega) e (List.mem_filter.1 he).1
 have hul:(wB p (l++a)).length<=3*531441:=by
  show(fJ _ _ _).length<=_
  rw[qM]; exact Nat.mul_le_mul kZ (by omega)
 have hil:(ng p q (l++a)).length<=3*531441:=Nat.le_trans (List.length_filter_le _ _) hul
 have hRk:=qL (l:=l++a)
 have hru:=hp.rules
 unfold Oz
 generalize wB p (l++a)=es at hU hok hul ⊢
 generalize ng p q (l++a)=is at hI adU hil ⊢
 refine aj.of Bd.iP (by simp) rfl rfl ?_
 conv=>whnf
 refine ah.pure (S.iH l a f g (by omega) (by omega)) rfl ?_
 conv=>whnf
 refine ah.D7 hsm rfl ?_
 conv=>whnf
 obtain⟨rb,hrb,hrL⟩:=E9 (l++a).length
 rw[hrb]
 conv=>whnf
 repeat(refine VC.mk (by first|(omega)|(simp only[okI] at *; omega)) ?_; conv=>whnf)
 conv=>whnf
 refine ah.pure (hI) rfl ?_
 conv=>whnf
 have e14:(Rw.bools (jX l a (aB []))).aW=rb.aW:=by
  have e1:jX l a (aB [])=List.replicate (l++a).length false:=by
   show l.map (fun _=>false)++List.replicate a.length false=_
   rw[List.map_const',hlen,List.replicate_append_replicate]
  rw[hrL,e1]
 refine aF.lY (ι:=Nat×List (Int×List Bool)) 100 [2,4,9,10,44,45] (fun x=>[(46,.int x.1)]) (fun x=>[(0,.box 27 11 (.dat (.bW p))),(6,wY (l++a) false 7),(7,wz x.2),(14,rowB (jX l a (aB (is.take x.1))))]) (fun x=>x.1<=is.length/\gB p.states.length (l++a) x.2) (fun x=>is.length-x.1) (0,[]) [0,6,7,14] rfl (by decide) (fun _=>rfl) ⟨Nat.zero_le _,gB.nil⟩ ?_ ?_ ?_
 ·exact⟨⟨_,rfl,.eq rfl⟩,trivial⟩
 ·refine⟨okF rfl nofun rfl rfl rfl ⟨rfl,rfl⟩ rfl,⟨rfl,nofun,rfl,rfl,_,rfl,rfl,rfl,bn.of_eq rfl⟩,okF rfl nofun rfl rfl rfl ⟨rfl,rfl⟩ rfl,okF rfl nofun rfl rfl rfl ⟨rfl,rfl⟩ ?_,trivial⟩
  show(Rw.bools (jX l a (aB []))).aW++[]=rb.aW++[]
  rw[e14]
 conv=>whnf
 refine⟨⟨⟨_,rfl,.eq rfl⟩,⟨_,rfl,.eq rfl⟩,⟨_,rfl,.eq rfl⟩,⟨_,rfl,.eq rfl⟩,⟨_,rfl,.eq rfl⟩,⟨_,rfl,.eq rfl⟩,trivial⟩,rfl,?_⟩
 rintro⟨j,em⟩ ⟨hj,hem⟩
 conv=>whnf
 refine⟨fun h3=>?_,fun h3=>?_⟩
 ·have hj':j<is.length:=by simpa using h3
  have hue:=adU _ (getM (d:=default) hj')
  have hte:=hla.at hue GH kZ g1 g2
  have hel:(is.getD j default).counts.length=p.states.length:=hue.len
  conv=>whnf
  refine .mk (by simp only[Rw.rng] at *; omega) ?_
  conv=>whnf
  refine ah.row hsm hte (show gB (is.getD j default).counts.length (l++a) em by rw[hel]; exact hem) rfl rfl (by decide) rfl (by decide) (by decide) (fun GI nI=>?_)
  replace nI:gB (is.getD j default).counts.length (l++a) GI:=nI
  rw[hel] at nI
  have hdn:=VY hj'
  conv=>whnf
  refine .mk (by show 0<=(l.length:Int)/\(l.length:Int)<=(fE (l++a) (is.getD j default)).length; rw[iV]; omega) ?_
  conv=>whnf
  have hq1:((fE (l++a) (is.getD j default)).take l.length).length=l.length:=by rw[tC,iV]
  have hq2: ∀ i,i<l.length->((fE (l++a) (is.getD j default)).take l.length).getD i false=holdsB (l.getD i default) (is.getD j default):=fun i hi=>by rw[tC]; exact G8 hi
  refine aF.lY 200 [2,4,9,10,44,45,46,55,56] (fun i:Nat=>[(57,.int i)]) (fun i=>[(0,.box 27 11 (.dat (.bW p))),(6,wY (l++a) false 7),(7,wz GI),(14,rowB (xR l a (aB (is.take (j+1))) (aB (is.take j)) i))]) (fun i=>i<=l.length) (fun i=>l.length-i) 0 [0,6,7,14] rfl (by decide) (fun _=>rfl) (Nat.zero_le _) ?_ ?_ ?_
  ·exact⟨⟨_,rfl,.eq rfl⟩,trivial⟩
  ·exact⟨okF rfl nofun rfl rfl rfl ⟨rfl,rfl⟩ rfl,⟨rfl,nofun,rfl,rfl,_,rfl,rfl,rfl,bn.of_eq rfl⟩,okF rfl nofun rfl rfl rfl ⟨rfl,rfl⟩ rfl,okF rfl nofun rfl rfl rfl ⟨rfl,rfl⟩ rfl,trivial⟩
  conv=>whnf
  refine⟨⟨⟨_,rfl,.eq rfl⟩,⟨_,rfl,.eq rfl⟩,⟨_,rfl,.eq rfl⟩,⟨_,rfl,.eq rfl⟩,⟨_,rfl,.eq rfl⟩,⟨_,rfl,.eq rfl⟩,⟨_,rfl,.eq rfl⟩,⟨_,rfl,.eq rfl⟩,⟨_,rfl,.eq rfl⟩,trivial⟩,rfl,?_⟩
  rintro i hi
  have hml:=I4 (l:=l) (a:=a) (p:=aB (is.take (j+1))) (q:=aB (is.take j)) (i:=i)
  conv=>whnf
  refine⟨fun h4=>?_,fun h4=>?_⟩
  ·have hi':i<l.length:=by
    have:(i:Int)<(((fE (l++a) (is.getD j default)).take l.length).length:Int):=of_decide_eq_true h4
    rw[hq1] at this; omega
   obtain⟨m1,m2⟩:=Fj (a:=a) (p:=aB (is.take (j+1))) (q:=aB (is.take j)) hi'
   have hrg:=hq2 i hi'
   have hdk:=hdn (l.getD i default)
   conv=>whnf
   repeat(refine VC.mk (by first|(first|(show 0<=(i:Int)/\(i:Int)<(((fE (l++a) (is.getD j default)).take l.length).length:Int); rw[hq1]; omega)|(simp only[Rw.rng,Int.toNat_natCast,hml]; omega))|exact fun h=>h|(intro h; rw[h]; rfl)|(simp only[okI] at *; omega)) ?_; conv=>whnf)
   refine⟨i+1,[0,6,7,14],by omega,by omega,⟨⟨_,rfl,.eq rfl⟩,trivial⟩,⟨⟨_,rfl,.eq rfl⟩,⟨_,rfl,.eq rfl⟩,⟨_,rfl,.eq rfl⟩,⟨_,rfl,.eq rfl⟩,⟨_,rfl,.eq rfl⟩,⟨_,rfl,.eq rfl⟩,⟨_,rfl,.eq rfl⟩,⟨_,rfl,.eq rfl⟩,⟨_,rfl,.eq rfl⟩,trivial⟩,okF rfl nofun rfl rfl rfl ⟨rfl,rfl⟩ rfl,⟨rfl,nofun,rfl,rfl,_,rfl,rfl,rfl,bn.of_eq rfl⟩,okF rfl nofun rfl rfl rfl ⟨rfl,rfl⟩ rfl,okF rfl nofun rfl rfl rfl ⟨rfl,rfl⟩ ?_,trivial⟩
   rw[<- m2,hdk,<- hrg,<- m1]; rfl
  ·have hi':i=l.length:=by
    have: ¬ ((i:Int)<(((fE (l++a) (is.getD j default)).take l.length).length:Int)):=of_decide_eq_false h4
    rw[hq1] at this; omega
   subst hi'
   rw[IZ]
   conv=>whnf
   refine .mk (by simp only[okI] at *; omega) ?_
   conv=>whnf
   exact⟨(j+1,GI),[0,6,7,14],⟨by show j+1<=_; omega,nI⟩,by show is.length-(j+1)<is.length-j; omega,⟨⟨_,rfl,.eq rfl⟩,trivial⟩,⟨⟨_,rfl,.eq rfl⟩,⟨_,rfl,.eq rfl⟩,⟨_,rfl,.eq rfl⟩,⟨_,rfl,.eq rfl⟩,⟨_,rfl,.eq rfl⟩,⟨_,rfl,.eq rfl⟩,trivial⟩,okF rfl nofun rfl rfl rfl ⟨rfl,rfl⟩ rfl,⟨rfl,nofun,rfl,rfl,_,rfl,rfl,rfl,bn.of_eq rfl⟩,okF rfl nofun rfl rfl rfl ⟨rfl,rfl⟩ rfl,okF rfl nofun rfl rfl rfl ⟨rfl,rfl⟩ rfl,trivial⟩
 ·have hj':j=is.length:=by have: ¬ ((j:Int)<(is.length:Int)):=of_decide_eq_false h3; omega
  subst hj'
  rw[List.take_length]
  conv=>whnf
  refine .mk (by simp only[okI]; omega) ?_
  conv=>whnf
  refine ah.pure (hU) rfl ?_
  conv=>whnf
  have hmk: ∀ g:Clause->Bool,(jX l a g).length=l.length+a.length:=fun g=>Yv
  refine aF.lY (ι:=Nat×List (Int×List Bool)) 300 [2,4,9,15] (fun x=>[(10,.own 14),(16,.bool (bF l (aO p.rules es l a (aB is)) x.1))]) (fun x=>[(0,.box 27 11 (.dat (.bW p))),(6,wY (l++a) false 7),(7,wz x.2),(14,rowB (jX l a (aO p.rules es l a (aB is) x.1)))]) (fun x=>gB p.states.length (l++a) x.2) (fun x=>muF l (aO p.rules es l a (aB is)) x.1) (0,em) [0,6,7,14] rfl (by decide) (fun _=>rfl) hem ?_ ?_ ?_
  ·exact⟨⟨_,rfl,.eq rfl⟩,⟨_,rfl,.eq rfl⟩,trivial⟩
  ·exact⟨okF rfl nofun rfl rfl rfl ⟨rfl,rfl⟩ rfl,⟨rfl,nofun,rfl,rfl,_,rfl,rfl,rfl,bn.of_eq rfl⟩,okF rfl nofun rfl rfl rfl ⟨rfl,rfl⟩ rfl,okF rfl nofun rfl rfl rfl ⟨rfl,rfl⟩ rfl,trivial⟩
  conv=>whnf
  refine⟨⟨⟨_,rfl,.eq rfl⟩,⟨_,rfl,.eq rfl⟩,⟨_,rfl,.eq rfl⟩,⟨_,rfl,.eq rfl⟩,trivial⟩,rfl,?_⟩
  rintro⟨j,em⟩ hem
  conv=>whnf
  refine⟨fun h4=>?_,fun h4=>?_⟩
  ·have hmu:=aat h4
   have adV: ∀ (em':List (Int×List Bool)),muF l (aO p.rules es l a (aB is)) (j+1)<muF l (aO p.rules es l a (aB is)) ((j,em):Nat×List (Int×List Bool)).1:=fun _=>hmu
   have hseq:=aav (rs:=p.rules) (es:=es) (l:=l) (a:=a) (f:=aB is) (j:=j)
   have hbn:bF l (aO p.rules es l a (aB is)) (j+1)=LD l (aO p.rules es l a (aB is) (j+1)) (aO p.rules es l a (aB is) j):=rfl
   rw[<- hseq] at hbn
   conv=>whnf
   have h0f:dK p.rules es l a (aO p.rules es l a (aB is) j) 0 0=aO p.rules es l a (aB is) j:=funext fun k=>Yw
   have abE:aO p.rules es l a (aB is) (j+1)=dK p.rules es l a (aO p.rules es l a (aB is) j) p.rules.length 0:=hseq.symm
   refine ah.acs (i:=14) (l:=jX l a (aO p.rules es l a (aB is) j)) rfl rfl (by rw[hmk]; omega) (fun hmn=>?_) ?_
   ·conv=>whnf
    refine aF.nil 17 4 0 (by rfl) rfl rfl rfl ?_
    refine aF.lY (ι:=Nat×List (Int×List Bool)) 400 [2,4,9,10,15,86,87] (fun x=>[(88,.int x.1),(17,.own 309),(16,.bool (LD l (dK p.rules es l a (aO p.rules es l a (aB is) j) x.1 0) (aO p.rules es l a (aB is) j)))]) (fun x=>[(0,.box 27 11 (.dat (.bW p))),(6,wY (l++a) false 7),(7,wz x.2),(14,rowB (jX l a (aO p.rules es l a (aB is) j))),(309,rowB (jX l a (dK p.rules es l a (aO p.rules es l a (aB is) j) x.1 0)))]) (fun x=>x.1<=p.rules.length/\gB p.states.length (l++a) x.2) (fun x=>p.rules.length-x.1) (0,em) [0,6,7,14,309] rfl (by decide) (fun _=>rfl) ⟨Nat.zero_le _,hem⟩ ?_ ?_ ?_
    ·exact⟨⟨_,rfl,.eq rfl⟩,⟨_,rfl,.eq rfl⟩,⟨_,rfl,.eq (congrArg T.bool (by rw[h0f,Ul]))⟩,trivial⟩
    ·exact⟨okF rfl nofun rfl rfl rfl ⟨rfl,rfl⟩ rfl,⟨rfl,nofun,rfl,rfl,_,rfl,rfl,rfl,bn.of_eq rfl⟩,okF rfl nofun rfl rfl rfl ⟨rfl,rfl⟩ rfl,okF rfl nofun rfl rfl rfl ⟨rfl,rfl⟩ rfl,okF rfl nofun rfl rfl rfl ⟨rfl,rfl⟩ (by rw[h0f,hmn]; rfl),trivial⟩
    clear hmn
    conv=>whnf
    refine⟨⟨⟨_,rfl,.eq rfl⟩,⟨_,rfl,.eq rfl⟩,⟨_,rfl,.eq rfl⟩,⟨_,rfl,.eq rfl⟩,⟨_,rfl,.eq rfl⟩,⟨_,rfl,.eq rfl⟩,⟨_,rfl,.eq rfl⟩,trivial⟩,rfl,?_⟩
    rintro⟨x,em⟩ ⟨hx,hem⟩
    conv=>whnf
    refine⟨fun h5=>?_,fun h5=>?_⟩
    ·have hx':x<p.rules.length:=by simpa using h5
     have YB:=TY hF (AU hpl) hx'
     have hSr:=hp.rule x
     have hgr:=fun k=>Pj (rs:=p.rules) (es:=es) (l:=l) (a:=a) (f:=aO p.rules es l a (aB is) j) hx' k
     have acu:dK p.rules es l a (aO p.rules es l a (aB is) j) x es.length=dK p.rules es l a (aO p.rules es l a (aB is) j) (x+1) 0:=funext hgr
     have hblt:Nat.blt (zT (p.rules.getD x default).kind) 4096=true:=by
      rcases YB.kind with h|h|h<;>rw[zT,h]<;>rfl
     conv=>whnf
     refine .mk (by simp only[Rw.rng] at *; omega) ?_
     conv=>whnf
     refine ah.pure (S.iG (p.rules.getD x default).kind) rfl ?_
     conv=>whnf
     conv=>whnf
     refine aF.lY (ι:=Nat×List (Int×List Bool)) 500 [2,4,9,10,15,17,19,20,86,87,88,95,96] (fun z=>[(97,.int z.1),(16,.bool (LD l (dK p.rules es l a (aO p.rules es l a (aB is) j) x z.1) (aO p.rules es l a (aB is) j)))]) (fun z=>[(0,.box 27 11 (.dat (.bW p))),(6,wY (l++a) false 7),(7,wz z.2),(14,rowB (jX l a (aO p.rules es l a (aB is) j))),(309,rowB (jX l a (dK p.rules es l a (aO p.rules es l a (aB is) j) x z.1))),(403,.box 107 19 (.dat (.rule (p.rules.getD x default))))]) (fun z=>z.1<=es.length/\gB p.states.length (l++a) z.2) (fun z=>es.length-z.1) (0,em) [0,6,7,14,309,403] rfl (by decide) (fun _=>rfl) ⟨Nat.zero_le _,hem⟩ ?_ ?_ ?_
     ·exact⟨⟨_,rfl,.eq rfl⟩,⟨_,rfl,.eq rfl⟩,trivial⟩
     ·exact⟨okF rfl nofun rfl rfl rfl ⟨rfl,rfl⟩ rfl,⟨rfl,nofun,rfl,rfl,_,rfl,rfl,rfl,bn.of_eq rfl⟩,okF rfl nofun rfl rfl rfl ⟨rfl,rfl⟩ rfl,okF rfl nofun rfl rfl rfl ⟨rfl,rfl⟩ rfl,okF rfl nofun rfl rfl rfl ⟨rfl,rfl⟩ rfl,okF rfl nofun rfl rfl rfl ⟨rfl,rfl⟩ rfl,trivial⟩
     conv=>whnf
     refine⟨⟨⟨_,rfl,.eq rfl⟩,⟨_,rfl,.eq rfl⟩,⟨_,rfl,.eq rfl⟩,⟨_,rfl,.eq rfl⟩,⟨_,rfl,.eq rfl⟩,⟨_,rfl,.eq rfl⟩,⟨_,rfl,.eq rfl⟩,⟨_,rfl,.eq rfl⟩,⟨_,rfl,.eq rfl⟩,⟨_,rfl,.eq rfl⟩,⟨_,rfl,.eq rfl⟩,⟨_,rfl,.eq rfl⟩,⟨_,rfl,.eq rfl⟩,trivial⟩,rfl,?_⟩
     rintro⟨y,em⟩ ⟨hy,hem⟩
     conv=>whnf
     refine⟨fun h6=>?_,fun h6=>?_⟩
     ·have hy':y<es.length:=by simpa using h6
      have hue:=hok _ (getM (d:=default) hy')
      have hte:=hla.at hue GH kZ g1 g2
      have tH:(es.getD y default).counts.length=p.states.length:=hue.len
      conv=>whnf
      refine .mk (by simp only[Rw.rng] at *; omega) ?_
      conv=>whnf
      refine ah.row hsm hte (show gB (es.getD y default).counts.length (l++a) em by rw[tH]; exact hem) rfl rfl (by decide) rfl (by decide) (by decide) (fun GI nI=>?_)
      replace nI:gB (es.getD y default).counts.length (l++a) GI:=nI
      rw[tH] at nI
      conv=>whnf
      refine ah.lend (S.zZ (fE (l++a) (es.getD y default)) (jX l a (aO p.rules es l a (aB is) j)) false false (by rw[iV]; omega) (by rw[iV,hmk]; omega)) ⟨aC _,Lh trivial rfl,trivial⟩ rfl rfl ?_
      rw[Ph]
      conv=>whnf
      refine⟨fun h7=>?_,fun h7=>?_⟩
      ·have hk0:tJ l a (aO p.rules es l a (aB is) j) (es.getD y default)=false:=by simpa using h7
       have hgn:=Ed (rs:=p.rules) (es:=es) (l:=l) (a:=a) (f:=(aO p.rules es l a (aB is) j)) (x:=x) hy' (fun k=>by rw[hk0]; rfl)
       conv=>whnf
       refine .mk (by simp only[okI] at *; omega) ?_
       conv=>whnf
       refine⟨(y+1,GI),[0,6,7,14,309,403],⟨by show y+1<=_; omega,nI⟩,by show es.length-(y+1)<es.length-y; omega,⟨⟨_,rfl,.eq rfl⟩,⟨_,rfl,.eq (congrArg T.bool (by rw[hgn]))⟩,trivial⟩,⟨⟨_,rfl,.eq rfl⟩,⟨_,rfl,.eq rfl⟩,⟨_,rfl,.eq rfl⟩,⟨_,rfl,.eq rfl⟩,⟨_,rfl,.eq rfl⟩,⟨_,rfl,.eq rfl⟩,⟨_,rfl,.eq rfl⟩,⟨_,rfl,.eq rfl⟩,⟨_,rfl,.eq rfl⟩,⟨_,rfl,.eq rfl⟩,⟨_,rfl,.eq rfl⟩,⟨_,rfl,.eq rfl⟩,⟨_,rfl,.eq rfl⟩,trivial⟩,okF rfl nofun rfl rfl rfl ⟨rfl,rfl⟩ rfl,⟨rfl,nofun,rfl,rfl,_,rfl,rfl,rfl,bn.of_eq rfl⟩,okF rfl nofun rfl rfl rfl ⟨rfl,rfl⟩ rfl,okF rfl nofun rfl rfl rfl ⟨rfl,rfl⟩ rfl,okF rfl nofun rfl rfl rfl ⟨rfl,rfl⟩ (by rw[hgn]),okF rfl nofun rfl rfl rfl ⟨rfl,rfl⟩ rfl,trivial⟩
      have hk1:tJ l a (aO p.rules es l a (aB is) j) (es.getD y default)=true:=by simpa using h7
      conv=>whnf
      rw[hblt]
      obtain⟨d1,hS,hto⟩:=S.apply (p.rules.getD x default) (es.getD y default) hSr (by rw[hue.len]; exact YB.place) (hue.yI GH) (by rw[hue.len]; exact g2) YB.kind
      conv=>whnf
      refine ah.pure hS rfl ?_
      cases hO:bH (p.rules.getD x default) (es.getD y default) with
      |none =>
       have hgn:=Ed (rs:=p.rules) (es:=es) (l:=l) (a:=a) (f:=(aO p.rules es l a (aB is) j)) (x:=x) hy' (fun k=>by rw[xQ,hO,Bool.and_false])
       conv=>whnf
       refine Fork.mk (fun _=>?_) (fun q=>absurd (q.symm.trans ((rfl:true=true))) Bool.false_ne_true)
       conv=>whnf
       refine .mk (by simp only[okI] at *; omega) ?_
       conv=>whnf
       refine⟨(y+1,GI),[0,6,7,14,309,403],⟨by show y+1<=_; omega,nI⟩,by show es.length-(y+1)<es.length-y; omega,⟨⟨_,rfl,.eq rfl⟩,⟨_,rfl,.eq (congrArg T.bool (by rw[hgn]))⟩,trivial⟩,⟨⟨_,rfl,.eq rfl⟩,⟨_,rfl,.eq rfl⟩,⟨_,rfl,.eq rfl⟩,⟨_,rfl,.eq rfl⟩,⟨_,rfl,.eq rfl⟩,⟨_,rfl,.eq rfl⟩,⟨_,rfl,.eq rfl⟩,⟨_,rfl,.eq rfl⟩,⟨_,rfl,.eq rfl⟩,⟨_,rfl,.eq rfl⟩,⟨_,rfl,.eq rfl⟩,⟨_,rfl,.eq rfl⟩,⟨_,rfl,.eq rfl⟩,trivial⟩,okF rfl nofun rfl rfl rfl ⟨rfl,rfl⟩ rfl,⟨rfl,nofun,rfl,rfl,_,rfl,rfl,rfl,bn.of_eq rfl⟩,okF rfl nofun rfl rfl rfl ⟨rfl,rfl⟩ rfl,okF rfl nofun rfl rfl rfl ⟨rfl,rfl⟩ rfl,okF rfl nofun rfl rfl rfl ⟨rfl,rfl⟩ (by rw[hgn]),okF rfl nofun rfl rfl rfl ⟨rfl,rfl⟩ rfl,trivial⟩
      |some d2 =>
       obtain rfl:=hto d2 hO
       have htl:d1.counts.length=p.states.length:=by rw[xG hO,hue.len]
       have htv:0<=d1.value/\d1.value<=1048576:=by
        rw[IV hO,BJ]
        have h1:=hue.val
        cases hw:decide ((p.rules.getD x default).write>=0) with
        |false=>show 0<=(es.getD y default).value/\(es.getD y default).value<=1048576; omega
        |true =>
         rcases YB.wr with h2|h2
         ·obtain⟨w1,w2⟩:=qG h2
          show 0<=(p.rules.getD x default).write/\(p.rules.getD x default).write<=1048576; omega
         ·rw[h2] at hw; exact absurd hw (by decide)
       have htx:=hla.tab htl (G6 (hue.nn GH) (by rw[hue.len]; exact g2) hO) g1 g2 htv
       have hge:=fun k=>I7 (rs:=p.rules) (es:=es) (l:=l) (a:=a) (f:=(aO p.rules es l a (aB is) j)) (x:=x) hy' k
       conv=>whnf
       refine Fork.mk (fun q=>absurd (q.symm.trans ((rfl:false=false))).symm Bool.false_ne_true) (fun _=>?_)
       conv=>whnf
       conv=>whnf
       refine ah.row hsm htx (show gB d1.counts.length (l++a) GI by rw[htl]; exact nI) rfl rfl (by decide) rfl (by decide) (by decide) (fun Ya CY=>?_)
       replace CY:gB d1.counts.length (l++a) Ya:=CY
       rw[htl] at CY
       conv=>whnf
       refine .mk (by show 0<=(l.length:Int)/\(l.length:Int)<=(fE (l++a) d1).length; rw[iV]; omega) ?_
       conv=>whnf
       have hq1:((fE (l++a) d1).take l.length).length=l.length:=by rw[tC,iV]
       have hq2: ∀ i,i<l.length->((fE (l++a) d1).take l.length).getD i false=holdsB (l.getD i default) d1:=fun i hi=>by rw[tC]; exact G8 hi
       have hz0:Pm l (dK p.rules es l a (aO p.rules es l a (aB is) j) x (y+1)) (dK p.rules es l a (aO p.rules es l a (aB is) j) x y) (aO p.rules es l a (aB is) j) 0=LD l (dK p.rules es l a (aO p.rules es l a (aB is) j) x y) (aO p.rules es l a (aB is) j):=Uj
       have hz1:Pm l (dK p.rules es l a (aO p.rules es l a (aB is) j) x (y+1)) (dK p.rules es l a (aO p.rules es l a (aB is) j) x y) (aO p.rules es l a (aB is) j) l.length=LD l (dK p.rules es l a (aO p.rules es l a (aB is) j) x (y+1)) (aO p.rules es l a (aB is) j):=Yy
       refine aF.lY 600 [2,4,9,10,15,17,19,20,86,87,88,95,96,97,122,123] (fun i:Nat=>[(124,.int i),(16,.bool (Pm l (dK p.rules es l a (aO p.rules es l a (aB is) j) x (y+1)) (dK p.rules es l a (aO p.rules es l a (aB is) j) x y) (aO p.rules es l a (aB is) j) i))]) (fun i=>[(0,.box 27 11 (.dat (.bW p))),(6,wY (l++a) false 7),(7,wz Ya),(14,rowB (jX l a (aO p.rules es l a (aB is) j))),(309,rowB (xR l a (dK p.rules es l a (aO p.rules es l a (aB is) j) x (y+1)) (dK p.rules es l a (aO p.rules es l a (aB is) j) x y) i)),(403,.box 107 19 (.dat (.rule (p.rules.getD x default))))]) (fun i=>i<=l.length) (fun i=>l.length-i) 0 [0,6,7,14,309,403] rfl (by decide) (fun _=>rfl) (Nat.zero_le _) ?_ ?_ ?_
       ·exact⟨⟨_,rfl,.eq rfl⟩,⟨_,rfl,.eq (congrArg T.bool hz0)⟩,trivial⟩
       ·exact⟨okF rfl nofun rfl rfl rfl ⟨rfl,rfl⟩ rfl,⟨rfl,nofun,rfl,rfl,_,rfl,rfl,rfl,bn.of_eq rfl⟩,okF rfl nofun rfl rfl rfl ⟨rfl,rfl⟩ rfl,okF rfl nofun rfl rfl rfl ⟨rfl,rfl⟩ rfl,okF rfl nofun rfl rfl rfl ⟨rfl,rfl⟩ rfl,okF rfl nofun rfl rfl rfl ⟨rfl,rfl⟩ rfl,trivial⟩
       conv=>whnf
       refine⟨⟨⟨_,rfl,.eq rfl⟩,⟨_,rfl,.eq rfl⟩,⟨_,rfl,.eq rfl⟩,⟨_,rfl,.eq rfl⟩,⟨_,rfl,.eq rfl⟩,⟨_,rfl,.eq rfl⟩,⟨_,rfl,.eq rfl⟩,⟨_,rfl,.eq rfl⟩,⟨_,rfl,.eq rfl⟩,⟨_,rfl,.eq rfl⟩,⟨_,rfl,.eq rfl⟩,⟨_,rfl,.eq rfl⟩,⟨_,rfl,.eq rfl⟩,⟨_,rfl,.eq rfl⟩,⟨_,rfl,.eq rfl⟩,⟨_,rfl,.eq rfl⟩,trivial⟩,rfl,?_⟩
       rintro i hi
       have hml:=I4 (l:=l) (a:=a) (p:=dK p.rules es l a (aO p.rules es l a (aB is) j) x (y+1)) (q:=dK p.rules es l a (aO p.rules es l a (aB is) j) x y) (i:=i)
       conv=>whnf
       refine⟨fun h8=>?_,fun h8=>?_⟩
       ·have hi':i<l.length:=by
         have:(i:Int)<(((fE (l++a) d1).take l.length).length:Int):=of_decide_eq_true h8
         rw[hq1] at this; omega
        obtain⟨m1,m2⟩:=Fj (a:=a) (p:=dK p.rules es l a (aO p.rules es l a (aB is) j) x (y+1)) (q:=dK p.rules es l a (aO p.rules es l a (aB is) j) x y) hi'
        have hrg:=hq2 i hi'
        have hgk:=hge (l.getD i default)
        rw[hk1,Bool.true_and,xQ,hO] at hgk
        simp only at hgk
        conv=>whnf
        repeat(refine VC.mk (by first|(first|(show 0<=(i:Int)/\(i:Int)<(((fE (l++a) d1).take l.length).length:Int); rw[hq1]; omega)|(simp only[Rw.rng,Int.toNat_natCast,hml]; omega))|exact fun h=>h|(intro h; (repeat' apply And.intro)<;>first|exact h|omega|(simp only[Rw.lM]; omega)|(simp only[Rw.rng]; omega))) ?_; conv=>whnf)
        have hle:=fun h=>Yx (rs:=p.rules) (es:=es) (l:=l) (a:=a) (f:=(aO p.rules es l a (aB is) j)) (x:=x) (y:=y) (k:=l.getD i default) h
        refine⟨fun h9=>?_,fun h9=>?_⟩
        ·have V3:(!(((fE (l++a) d1).take l.length).getD i false)&& !((xR l a (dK p.rules es l a (aO p.rules es l a (aB is) j) x (y+1)) (dK p.rules es l a (aO p.rules es l a (aB is) j) x y) i).getD i false))=true:=h9
         rw[hrg,m1,Bool.and_eq_true,Bool.not_eq_true',Bool.not_eq_true'] at V3
         obtain⟨u1,u2⟩:=V3
         have hnew:dK p.rules es l a (aO p.rules es l a (aB is) j) x (y+1) (l.getD i default)=true:=by rw[hgk,u1]; simp
         have hold:(aO p.rules es l a (aB is) j) (l.getD i default)=false:=by
          cases hq:(aO p.rules es l a (aB is) j) (l.getD i default) with
          |false=>rfl
          |true=>rw[hle hq] at u2; cases u2
         have hag:=YA (q:=dK p.rules es l a (aO p.rules es l a (aB is) j) x y) hi' hnew hold
         rw[hnew] at m2
         conv=>whnf
         repeat(refine VC.mk (by first|(simp only[Rw.rng,Int.toNat_natCast,hml]; omega)|(simp only[okI] at *; omega)) ?_; conv=>whnf)
         refine⟨i+1,[0,6,7,14,309,403],by omega,by omega,⟨⟨_,rfl,.eq rfl⟩,⟨_,rfl,.eq (congrArg T.bool hag)⟩,trivial⟩,⟨⟨_,rfl,.eq rfl⟩,⟨_,rfl,.eq rfl⟩,⟨_,rfl,.eq rfl⟩,⟨_,rfl,.eq rfl⟩,⟨_,rfl,.eq rfl⟩,⟨_,rfl,.eq rfl⟩,⟨_,rfl,.eq rfl⟩,⟨_,rfl,.eq rfl⟩,⟨_,rfl,.eq rfl⟩,⟨_,rfl,.eq rfl⟩,⟨_,rfl,.eq rfl⟩,⟨_,rfl,.eq rfl⟩,⟨_,rfl,.eq rfl⟩,⟨_,rfl,.eq rfl⟩,⟨_,rfl,.eq rfl⟩,⟨_,rfl,.eq rfl⟩,trivial⟩,okF rfl nofun rfl rfl rfl ⟨rfl,rfl⟩ rfl,⟨rfl,nofun,rfl,rfl,_,rfl,rfl,rfl,bn.of_eq rfl⟩,okF rfl nofun rfl rfl rfl ⟨rfl,rfl⟩ rfl,okF rfl nofun rfl rfl rfl ⟨rfl,rfl⟩ rfl,okF rfl nofun rfl rfl rfl ⟨rfl,rfl⟩ (by rw[<- m2]; rfl),okF rfl nofun rfl rfl rfl ⟨rfl,rfl⟩ rfl,trivial⟩
        ·have V3:(!(((fE (l++a) d1).take l.length).getD i false)&& !((xR l a (dK p.rules es l a (aO p.rules es l a (aB is) j) x (y+1)) (dK p.rules es l a (aO p.rules es l a (aB is) j) x y) i).getD i false))=false:=h9
         rw[hrg,m1] at V3
         have hsame:dK p.rules es l a (aO p.rules es l a (aB is) j) x (y+1) (l.getD i default)=dK p.rules es l a (aO p.rules es l a (aB is) j) x y (l.getD i default):=by
          rw[hgk]
          cases u1:holdsB (l.getD i default) d1 with
          |true=>simp
          |false =>
           rw[u1] at V3
           have u2:dK p.rules es l a (aO p.rules es l a (aB is) j) x y (l.getD i default)=true:=by simpa using V3
           rw[u2]; rfl
         have hag:=Uk (f:=(aO p.rules es l a (aB is) j)) hi' hsame
         have hset:xR l a (dK p.rules es l a (aO p.rules es l a (aB is) j) x (y+1)) (dK p.rules es l a (aO p.rules es l a (aB is) j) x y) (i+1)=xR l a (dK p.rules es l a (aO p.rules es l a (aB is) j) x (y+1)) (dK p.rules es l a (aO p.rules es l a (aB is) j) x y) i:=by
          rw[<- m2,hsame,<- m1]
          exact BX
         conv=>whnf
         refine .mk (by simp only[okI] at *; omega) ?_
         conv=>whnf
         refine⟨i+1,[0,6,7,14,309,403],by omega,by omega,⟨⟨_,rfl,.eq rfl⟩,⟨_,rfl,.eq (congrArg T.bool hag)⟩,trivial⟩,⟨⟨_,rfl,.eq rfl⟩,⟨_,rfl,.eq rfl⟩,⟨_,rfl,.eq rfl⟩,⟨_,rfl,.eq rfl⟩,⟨_,rfl,.eq rfl⟩,⟨_,rfl,.eq rfl⟩,⟨_,rfl,.eq rfl⟩,⟨_,rfl,.eq rfl⟩,⟨_,rfl,.eq rfl⟩,⟨_,rfl,.eq rfl⟩,⟨_,rfl,.eq rfl⟩,⟨_,rfl,.eq rfl⟩,⟨_,rfl,.eq rfl⟩,⟨_,rfl,.eq rfl⟩,⟨_,rfl,.eq rfl⟩,⟨_,rfl,.eq rfl⟩,trivial⟩,okF rfl nofun rfl rfl rfl ⟨rfl,rfl⟩ rfl,⟨rfl,nofun,rfl,rfl,_,rfl,rfl,rfl,bn.of_eq rfl⟩,okF rfl nofun rfl rfl rfl ⟨rfl,rfl⟩ rfl,okF rfl nofun rfl rfl rfl ⟨rfl,rfl⟩ rfl,okF rfl nofun rfl rfl rfl ⟨rfl,rfl⟩ (by rw[hset]),okF rfl nofun rfl rfl rfl ⟨rfl,rfl⟩ rfl,trivial⟩
       ·have hi':i=l.length:=by
         have: ¬ ((i:Int)<(((fE (l++a) d1).take l.length).length:Int)):=of_decide_eq_false h8
         rw[hq1] at this; omega
        subst hi'
        rw[IZ,hz1]
        conv=>whnf
        refine .mk (by simp only[okI] at *; omega) ?_
        conv=>whnf
        refine⟨(y+1,Ya),[0,6,7,14,309,403],⟨by show y+1<=_; omega,CY⟩,by show es.length-(y+1)<es.length-y; omega,⟨⟨_,rfl,.eq rfl⟩,⟨_,rfl,.eq rfl⟩,trivial⟩,⟨⟨_,rfl,.eq rfl⟩,⟨_,rfl,.eq rfl⟩,⟨_,rfl,.eq rfl⟩,⟨_,rfl,.eq rfl⟩,⟨_,rfl,.eq rfl⟩,⟨_,rfl,.eq rfl⟩,⟨_,rfl,.eq rfl⟩,⟨_,rfl,.eq rfl⟩,⟨_,rfl,.eq rfl⟩,⟨_,rfl,.eq rfl⟩,⟨_,rfl,.eq rfl⟩,⟨_,rfl,.eq rfl⟩,⟨_,rfl,.eq rfl⟩,trivial⟩,okF rfl nofun rfl rfl rfl ⟨rfl,rfl⟩ rfl,⟨rfl,nofun,rfl,rfl,_,rfl,rfl,rfl,bn.of_eq rfl⟩,okF rfl nofun rfl rfl rfl ⟨rfl,rfl⟩ rfl,okF rfl nofun rfl rfl rfl ⟨rfl,rfl⟩ rfl,okF rfl nofun rfl rfl rfl ⟨rfl,rfl⟩ rfl,okF rfl nofun rfl rfl rfl ⟨rfl,rfl⟩ rfl,trivial⟩
     ·have hy':y=es.length:=by have: ¬ ((y:Int)<(es.length:Int)):=of_decide_eq_false h6; omega
      subst hy'
      rw[acu]
      conv=>whnf
      refine .mk (by simp only[okI] at *; omega) ?_
      conv=>whnf
      exact⟨(x+1,em),[0,6,7,14,309],⟨by show x+1<=_; omega,hem⟩,by show p.rules.length-(x+1)<p.rules.length-x; omega,⟨⟨_,rfl,.eq rfl⟩,⟨_,rfl,.eq rfl⟩,⟨_,rfl,.eq rfl⟩,trivial⟩,⟨⟨_,rfl,.eq rfl⟩,⟨_,rfl,.eq rfl⟩,⟨_,rfl,.eq rfl⟩,⟨_,rfl,.eq rfl⟩,⟨_,rfl,.eq rfl⟩,⟨_,rfl,.eq rfl⟩,⟨_,rfl,.eq rfl⟩,trivial⟩,okF rfl nofun rfl rfl rfl ⟨rfl,rfl⟩ rfl,⟨rfl,nofun,rfl,rfl,_,rfl,rfl,rfl,bn.of_eq rfl⟩,okF rfl nofun rfl rfl rfl ⟨rfl,rfl⟩ rfl,okF rfl nofun rfl rfl rfl ⟨rfl,rfl⟩ rfl,okF rfl nofun rfl rfl rfl ⟨rfl,rfl⟩ rfl,trivial⟩
    ·have hx':x=p.rules.length:=by have: ¬ ((x:Int)<(p.rules.length:Int)):=of_decide_eq_false h5; omega
     subst hx'
     conv=>whnf
     exact⟨(j+1,em),[0,6,7,309],hem,adV em,⟨⟨_,rfl,.eq rfl⟩,⟨_,rfl,.eq (congrArg T.bool hbn)⟩,trivial⟩,⟨⟨_,rfl,.eq rfl⟩,⟨_,rfl,.eq rfl⟩,⟨_,rfl,.eq rfl⟩,⟨_,rfl,.eq rfl⟩,trivial⟩,okF rfl nofun rfl rfl rfl ⟨rfl,rfl⟩ rfl,⟨rfl,nofun,rfl,rfl,_,rfl,rfl,rfl,bn.of_eq rfl⟩,okF rfl nofun rfl rfl rfl ⟨rfl,rfl⟩ rfl,okF rfl nofun rfl rfl rfl ⟨rfl,rfl⟩ (by rw[abE]),trivial⟩
   ·conv=>whnf
    refine aF.lY (ι:=Nat×List (Int×List Bool)) 400 [2,4,9,10,15,86,87] (fun x=>[(88,.int x.1),(17,.own 309),(16,.bool (LD l (dK p.rules es l a (aO p.rules es l a (aB is) j) x.1 0) (aO p.rules es l a (aB is) j)))]) (fun x=>[(0,.box 27 11 (.dat (.bW p))),(6,wY (l++a) false 7),(7,wz x.2),(14,rowB (jX l a (aO p.rules es l a (aB is) j))),(309,rowB (jX l a (dK p.rules es l a (aO p.rules es l a (aB is) j) x.1 0)))]) (fun x=>x.1<=p.rules.length/\gB p.states.length (l++a) x.2) (fun x=>p.rules.length-x.1) (0,em) [0,6,7,14,303] rfl (by decide) (fun _=>rfl) ⟨Nat.zero_le _,hem⟩ ?_ ?_ ?_
    ·exact⟨⟨_,rfl,.eq rfl⟩,⟨_,rfl,.eq rfl⟩,⟨_,rfl,.eq (congrArg T.bool (by rw[h0f,Ul]))⟩,trivial⟩
    ·exact⟨okF rfl nofun rfl rfl rfl ⟨rfl,rfl⟩ rfl,⟨rfl,nofun,rfl,rfl,_,rfl,rfl,rfl,bn.of_eq rfl⟩,okF rfl nofun rfl rfl rfl ⟨rfl,rfl⟩ rfl,okF rfl nofun rfl rfl rfl ⟨rfl,rfl⟩ rfl,okF rfl nofun rfl rfl rfl ⟨rfl,rfl⟩ (by rw[h0f]),trivial⟩
    conv=>whnf
    refine⟨⟨⟨_,rfl,.eq rfl⟩,⟨_,rfl,.eq rfl⟩,⟨_,rfl,.eq rfl⟩,⟨_,rfl,.eq rfl⟩,⟨_,rfl,.eq rfl⟩,⟨_,rfl,.eq rfl⟩,⟨_,rfl,.eq rfl⟩,trivial⟩,rfl,?_⟩
    rintro⟨x,em⟩ ⟨hx,hem⟩
    conv=>whnf
    refine⟨fun h5=>?_,fun h5=>?_⟩
    ·have hx':x<p.rules.length:=by simpa using h5
     have YB:=TY hF (AU hpl) hx'
     have hSr:=hp.rule x
     have hgr:=fun k=>Pj (rs:=p.rules) (es:=es) (l:=l) (a:=a) (f:=aO p.rules es l a (aB is) j) hx' k
     have acu:dK p.rules es l a (aO p.rules es l a (aB is) j) x es.length=dK p.rules es l a (aO p.rules es l a (aB is) j) (x+1) 0:=funext hgr
     have hblt:Nat.blt (zT (p.rules.getD x default).kind) 4096=true:=by
      rcases YB.kind with h|h|h<;>rw[zT,h]<;>rfl
     conv=>whnf
     refine .mk (by simp only[Rw.rng] at *; omega) ?_
     conv=>whnf
     refine ah.pure (S.iG (p.rules.getD x default).kind) rfl ?_
     conv=>whnf
     conv=>whnf
     refine aF.lY (ι:=Nat×List (Int×List Bool)) 500 [2,4,9,10,15,17,19,20,86,87,88,95,96] (fun z=>[(97,.int z.1),(16,.bool (LD l (dK p.rules es l a (aO p.rules es l a (aB is) j) x z.1) (aO p.rules es l a (aB is) j)))]) (fun z=>[(0,.box 27 11 (.dat (.bW p))),(6,wY (l++a) false 7),(7,wz z.2),(14,rowB (jX l a (aO p.rules es l a (aB is) j))),(309,rowB (jX l a (dK p.rules es l a (aO p.rules es l a (aB is) j) x z.1))),(403,.box 107 19 (.dat (.rule (p.rules.getD x default))))]) (fun z=>z.1<=es.length/\gB p.states.length (l++a) z.2) (fun z=>es.length-z.1) (0,em) [0,6,7,14,309,403] rfl (by decide) (fun _=>rfl) ⟨Nat.zero_le _,hem⟩ ?_ ?_ ?_
     ·exact⟨⟨_,rfl,.eq rfl⟩,⟨_,rfl,.eq rfl⟩,trivial⟩
     ·exact⟨okF rfl nofun rfl rfl rfl ⟨rfl,rfl⟩ rfl,⟨rfl,nofun,rfl,rfl,_,rfl,rfl,rfl,bn.of_eq rfl⟩,okF rfl nofun rfl rfl rfl ⟨rfl,rfl⟩ rfl,okF rfl nofun rfl rfl rfl ⟨rfl,rfl⟩ rfl,okF rfl nofun rfl rfl rfl ⟨rfl,rfl⟩ rfl,okF rfl nofun rfl rfl rfl ⟨rfl,rfl⟩ rfl,trivial⟩
     conv=>whnf
     refine⟨⟨⟨_,rfl,.eq rfl⟩,⟨_,rfl,.eq rfl⟩,⟨_,rfl,.eq rfl⟩,⟨_,rfl,.eq rfl⟩,⟨_,rfl,.eq rfl⟩,⟨_,rfl,.eq rfl⟩,⟨_,rfl,.eq rfl⟩,⟨_,rfl,.eq rfl⟩,⟨_,rfl,.eq rfl⟩,⟨_,rfl,.eq rfl⟩,⟨_,rfl,.eq rfl⟩,⟨_,rfl,.eq rfl⟩,⟨_,rfl,.eq rfl⟩,trivial⟩,rfl,?_⟩
     rintro⟨y,em⟩ ⟨hy,hem⟩
     conv=>whnf
     refine⟨fun h6=>?_,fun h6=>?_⟩
     ·have hy':y<es.length:=by simpa using h6
      have hue:=hok _ (getM (d:=default) hy')
      have hte:=hla.at hue GH kZ g1 g2
      have tH:(es.getD y default).counts.length=p.states.length:=hue.len
      conv=>whnf
      refine .mk (by simp only[Rw.rng] at *; omega) ?_
      conv=>whnf
      refine ah.row hsm hte (show gB (es.getD y default).counts.length (l++a) em by rw[tH]; exact hem) rfl rfl (by decide) rfl (by decide) (by decide) (fun GI nI=>?_)
      replace nI:gB (es.getD y default).counts.length (l++a) GI:=nI
      rw[tH] at nI
      conv=>whnf
      refine ah.lend (S.zZ (fE (l++a) (es.getD y default)) (jX l a (aO p.rules es l a (aB is) j)) false false (by rw[iV]; omega) (by rw[iV,hmk]; omega)) ⟨aC _,Lh trivial rfl,trivial⟩ rfl rfl ?_
      rw[Ph]
      conv=>whnf
      refine⟨fun h7=>?_,fun h7=>?_⟩
      ·have hk0:tJ l a (aO p.rules es l a (aB is) j) (es.getD y default)=false:=by simpa using h7
       have hgn:=Ed (rs:=p.rules) (es:=es) (l:=l) (a:=a) (f:=(aO p.rules es l a (aB is) j)) (x:=x) hy' (fun k=>by rw[hk0]; rfl)
       conv=>whnf
       refine .mk (by simp only[okI] at *; omega) ?_
       conv=>whnf
       refine⟨(y+1,GI),[0,6,7,14,309,403],⟨by show y+1<=_; omega,nI⟩,by show es.length-(y+1)<es.length-y; omega,⟨⟨_,rfl,.eq rfl⟩,⟨_,rfl,.eq (congrArg T.bool (by rw[hgn]))⟩,trivial⟩,⟨⟨_,rfl,.eq rfl⟩,⟨_,rfl,.eq rfl⟩,⟨_,rfl,.eq rfl⟩,⟨_,rfl,.eq rfl⟩,⟨_,rfl,.eq rfl⟩,⟨_,rfl,.eq rfl⟩,⟨_,rfl,.eq rfl⟩,⟨_,rfl,.eq rfl⟩,⟨_,rfl,.eq rfl⟩,⟨_,rfl,.eq rfl⟩,⟨_,rfl,.eq rfl⟩,⟨_,rfl,.eq rfl⟩,⟨_,rfl,.eq rfl⟩,trivial⟩,okF rfl nofun rfl rfl rfl ⟨rfl,rfl⟩ rfl,⟨rfl,nofun,rfl,rfl,_,rfl,rfl,rfl,bn.of_eq rfl⟩,okF rfl nofun rfl rfl rfl ⟨rfl,rfl⟩ rfl,okF rfl nofun rfl rfl rfl ⟨rfl,rfl⟩ rfl,okF rfl nofun rfl rfl rfl ⟨rfl,rfl⟩ (by rw[hgn]),okF rfl nofun rfl rfl rfl ⟨rfl,rfl⟩ rfl,trivial⟩
      have hk1:tJ l a (aO p.rules es l a (aB is) j) (es.getD y default)=true:=by simpa using h7
      conv=>whnf
      rw[hblt]
      obtain⟨d1,hS,hto⟩:=S.apply (p.rules.getD x default) (es.getD y default) hSr (by rw[hue.len]; exact YB.place) (hue.yI GH) (by rw[hue.len]; exact g2) YB.kind
      conv=>whnf
      refine ah.pure hS rfl ?_
      cases hO:bH (p.rules.getD x default) (es.getD y default) with
      |none =>
       have hgn:=Ed (rs:=p.rules) (es:=es) (l:=l) (a:=a) (f:=(aO p.rules es l a (aB is) j)) (x:=x) hy' (fun k=>by rw[xQ,hO,Bool.and_false])
       conv=>whnf
       refine Fork.mk (fun _=>?_) (fun q=>absurd (q.symm.trans ((rfl:true=true))) Bool.false_ne_true)
       conv=>whnf
       refine .mk (by simp only[okI] at *; omega) ?_
       conv=>whnf
       refine⟨(y+1,GI),[0,6,7,14,309,403],⟨by show y+1<=_; omega,nI⟩,by show es.length-(y+1)<es.length-y; omega,⟨⟨_,rfl,.eq rfl⟩,⟨_,rfl,.eq (congrArg T.bool (by rw[hgn]))⟩,trivial⟩,⟨⟨_,rfl,.eq rfl⟩,⟨_,rfl,.eq rfl⟩,⟨_,rfl,.eq rfl⟩,⟨_,rfl,.eq rfl⟩,⟨_,rfl,.eq rfl⟩,⟨_,rfl,.eq rfl⟩,⟨_,rfl,.eq rfl⟩,⟨_,rfl,.eq rfl⟩,⟨_,rfl,.eq rfl⟩,⟨_,rfl,.eq rfl⟩,⟨_,rfl,.eq rfl⟩,⟨_,rfl,.eq rfl⟩,⟨_,rfl,.eq rfl⟩,trivial⟩,okF rfl nofun rfl rfl rfl ⟨rfl,rfl⟩ rfl,⟨rfl,nofun,rfl,rfl,_,rfl,rfl,rfl,bn.of_eq rfl⟩,okF rfl nofun rfl rfl rfl ⟨rfl,rfl⟩ rfl,okF rfl nofun rfl rfl rfl ⟨rfl,rfl⟩ rfl,okF rfl nofun rfl rfl rfl ⟨rfl,rfl⟩ (by rw[hgn]),okF rfl nofun rfl rfl rfl ⟨rfl,rfl⟩ rfl,trivial⟩
      |some d2 =>
       obtain rfl:=hto d2 hO
       have htl:d1.counts.length=p.states.length:=by rw[xG hO,hue.len]
       have htv:0<=d1.value/\d1.value<=1048576:=by
        rw[IV hO,BJ]
        have h1:=hue.val
        cases hw:decide ((p.rules.getD x default).write>=0) with
        |false=>show 0<=(es.getD y default).value/\(es.getD y default).value<=1048576; omega
        |true =>
         rcases YB.wr with h2|h2
         ·obtain⟨w1,w2⟩:=qG h2
          show 0<=(p.rules.getD x default).write/\(p.rules.getD x default).write<=1048576; omega
         ·rw[h2] at hw; exact absurd hw (by decide)
       have htx:=hla.tab htl (G6 (hue.nn GH) (by rw[hue.len]; exact g2) hO) g1 g2 htv
       have hge:=fun k=>I7 (rs:=p.rules) (es:=es) (l:=l) (a:=a) (f:=(aO p.rules es l a (aB is) j)) (x:=x) hy' k
       conv=>whnf
       refine Fork.mk (fun q=>absurd (q.symm.trans ((rfl:false=false))).symm Bool.false_ne_true) (fun _=>?_)
       conv=>whnf
       conv=>whnf
       refine ah.row hsm htx (show gB d1.counts.length (l++a) GI by rw[htl]; exact nI) rfl rfl (by decide) rfl (by decide) (by decide) (fun Ya CY=>?_)
       replace CY:gB d1.counts.length (l++a) Ya:=CY
       rw[htl] at CY
       conv=>whnf
       refine .mk (by show 0<=(l.length:Int)/\(l.length:Int)<=(fE (l++a) d1).length; rw[iV]; omega) ?_
       conv=>whnf
       have hq1:((fE (l++a) d1).take l.length).length=l.length:=by rw[tC,iV]
       have hq2: ∀ i,i<l.length->((fE (l++a) d1).take l.length).getD i false=holdsB (l.getD i default) d1:=fun i hi=>by rw[tC]; exact G8 hi
       have hz0:Pm l (dK p.rules es l a (aO p.rules es l a (aB is) j) x (y+1)) (dK p.rules es l a (aO p.rules es l a (aB is) j) x y) (aO p.rules es l a (aB is) j) 0=LD l (dK p.rules es l a (aO p.rules es l a (aB is) j) x y) (aO p.rules es l a (aB is) j):=Uj
       have hz1:Pm l (dK p.rules es l a (aO p.rules es l a (aB is) j) x (y+1)) (dK p.rules es l a (aO p.rules es l a (aB is) j) x y) (aO p.rules es l a (aB is) j) l.length=LD l (dK p.rules es l a (aO p.rules es l a (aB is) j) x (y+1)) (aO p.rules es l a (aB is) j):=Yy
       refine aF.lY 600 [2,4,9,10,15,17,19,20,86,87,88,95,96,97,122,123] (fun i:Nat=>[(124,.int i),(16,.bool (Pm l (dK p.rules es l a (aO p.rules es l a (aB is) j) x (y+1)) (dK p.rules es l a (aO p.rules es l a (aB is) j) x y) (aO p.rules es l a (aB is) j) i))]) (fun i=>[(0,.box 27 11 (.dat (.bW p))),(6,wY (l++a) false 7),(7,wz Ya),(14,rowB (jX l a (aO p.rules es l a (aB is) j))),(309,rowB (xR l a (dK p.rules es l a (aO p.rules es l a (aB is) j) x (y+1)) (dK p.rules es l a (aO p.rules es l a (aB is) j) x y) i)),(403,.box 107 19 (.dat (.rule (p.rules.getD x default))))]) (fun i=>i<=l.length) (fun i=>l.length-i) 0 [0,6,7,14,309,403] rfl (by decide) (fun _=>rfl) (Nat.zero_le _) ?_ ?_ ?_
       ·exact⟨⟨_,rfl,.eq rfl⟩,⟨_,rfl,.eq (congrArg T.bool hz0)⟩,trivial⟩
       ·exact⟨okF rfl nofun rfl rfl rfl ⟨rfl,rfl⟩ rfl,⟨rfl,nofun,rfl,rfl,_,rfl,rfl,rfl,bn.of_eq rfl⟩,okF rfl nofun rfl rfl rfl ⟨rfl,rfl⟩ rfl,okF rfl nofun rfl rfl rfl ⟨rfl,rfl⟩ rfl,okF rfl nofun rfl rfl rfl ⟨rfl,rfl⟩ rfl,okF rfl nofun rfl rfl rfl ⟨rfl,rfl⟩ rfl,trivial⟩
       conv=>whnf
       refine⟨⟨⟨_,rfl,.eq rfl⟩,⟨_,rfl,.eq rfl⟩,⟨_,rfl,.eq rfl⟩,⟨_,rfl,.eq rfl⟩,⟨_,rfl,.eq rfl⟩,⟨_,rfl,.eq rfl⟩,⟨_,rfl,.eq rfl⟩,⟨_,rfl,.eq rfl⟩,⟨_,rfl,.eq rfl⟩,⟨_,rfl,.eq rfl⟩,⟨_,rfl,.eq rfl⟩,⟨_,rfl,.eq rfl⟩,⟨_,rfl,.eq rfl⟩,⟨_,rfl,.eq rfl⟩,⟨_,rfl,.eq rfl⟩,⟨_,rfl,.eq rfl⟩,trivial⟩,rfl,?_⟩
       rintro i hi
       have hml:=I4 (l:=l) (a:=a) (p:=dK p.rules es l a (aO p.rules es l a (aB is) j) x (y+1)) (q:=dK p.rules es l a (aO p.rules es l a (aB is) j) x y) (i:=i)
       conv=>whnf
       refine⟨fun h8=>?_,fun h8=>?_⟩
       ·have hi':i<l.length:=by
         have:(i:Int)<(((fE (l++a) d1).take l.length).length:Int):=of_decide_eq_true h8
         rw[hq1] at this; omega
        obtain⟨m1,m2⟩:=Fj (a:=a) (p:=dK p.rules es l a (aO p.rules es l a (aB is) j) x (y+1)) (q:=dK p.rules es l a (aO p.rules es l a (aB is) j) x y) hi'
        have hrg:=hq2 i hi'
        have hgk:=hge (l.getD i default)
        rw[hk1,Bool.true_and,xQ,hO] at hgk
        simp only at hgk
        conv=>whnf
        repeat(refine VC.mk (by first|(first|(show 0<=(i:Int)/\(i:Int)<(((fE (l++a) d1).take l.length).length:Int); rw[hq1]; omega)|(simp only[Rw.rng,Int.toNat_natCast,hml]; omega))|exact fun h=>h|(intro h; (repeat' apply And.intro)<;>first|exact h|omega|(simp only[Rw.lM]; omega)|(simp only[Rw.rng]; omega))) ?_; conv=>whnf)
        have hle:=fun h=>Yx (rs:=p.rules) (es:=es) (l:=l) (a:=a) (f:=(aO p.rules es l a (aB is) j)) (x:=x) (y:=y) (k:=l.getD i default) h
        refine⟨fun h9=>?_,fun h9=>?_⟩
        ·have V3:(!(((fE (l++a) d1).take l.length).getD i false)&& !((xR l a (dK p.rules es l a (aO p.rules es l a (aB is) j) x (y+1)) (dK p.rules es l a (aO p.rules es l a (aB is) j) x y) i).getD i false))=true:=h9
         rw[hrg,m1,Bool.and_eq_true,Bool.not_eq_true',Bool.not_eq_true'] at V3
         obtain⟨u1,u2⟩:=V3
         have hnew:dK p.rules es l a (aO p.rules es l a (aB is) j) x (y+1) (l.getD i default)=true:=by rw[hgk,u1]; simp
         have hold:(aO p.rules es l a (aB is) j) (l.getD i default)=false:=by
          cases hq:(aO p.rules es l a (aB is) j) (l.getD i default) with
          |false=>rfl
          |true=>rw[hle hq] at u2; cases u2
         have hag:=YA (q:=dK p.rules es l a (aO p.rules es l a (aB is) j) x y) hi' hnew hold
         rw[hnew] at m2
         conv=>whnf
         repeat(refine VC.mk (by first|(simp only[Rw.rng,Int.toNat_natCast,hml]; omega)|(simp only[okI] at *; omega)) ?_; conv=>whnf)
         refine⟨i+1,[0,6,7,14,309,403],by omega,by omega,⟨⟨_,rfl,.eq rfl⟩,⟨_,rfl,.eq (congrArg T.bool hag)⟩,trivial⟩,⟨⟨_,rfl,.eq rfl⟩,⟨_,rfl,.eq rfl⟩,⟨_,rfl,.eq rfl⟩,⟨_,rfl,.eq rfl⟩,⟨_,rfl,.eq rfl⟩,⟨_,rfl,.eq rfl⟩,⟨_,rfl,.eq rfl⟩,⟨_,rfl,.eq rfl⟩,⟨_,rfl,.eq rfl⟩,⟨_,rfl,.eq rfl⟩,⟨_,rfl,.eq rfl⟩,⟨_,rfl,.eq rfl⟩,⟨_,rfl,.eq rfl⟩,⟨_,rfl,.eq rfl⟩,⟨_,rfl,.eq rfl⟩,⟨_,rfl,.eq rfl⟩,trivial⟩,okF rfl nofun rfl rfl rfl ⟨rfl,rfl⟩ rfl,⟨rfl,nofun,rfl,rfl,_,rfl,rfl,rfl,bn.of_eq rfl⟩,okF rfl nofun rfl rfl rfl ⟨rfl,rfl⟩ rfl,okF rfl nofun rfl rfl rfl ⟨rfl,rfl⟩ rfl,okF rfl nofun rfl rfl rfl ⟨rfl,rfl⟩ (by rw[<- m2]; rfl),okF rfl nofun rfl rfl rfl ⟨rfl,rfl⟩ rfl,trivial⟩
        ·have V3:(!(((fE (l++a) d1).take l.length).getD i false)&& !((xR l a (dK p.rules es l a (aO p.rules es l a (aB is) j) x (y+1)) (dK p.rules es l a (aO p.rules es l a (aB is) j) x y) i).getD i false))=false:=h9
         rw[hrg,m1] at V3
         have hsame:dK p.rules es l a (aO p.rules es l a (aB is) j) x (y+1) (l.getD i default)=dK p.rules es l a (aO p.rules es l a (aB is) j) x y (l.getD i default):=by
          rw[hgk]
          cases u1:holdsB (l.getD i default) d1 with
          |true=>simp
          |false =>
           rw[u1] at V3
           have u2:dK p.rules es l a (aO p.rules es l a (aB is) j) x y (l.getD i default)=true:=by simpa using V3
           rw[u2]; rfl
         have hag:=Uk (f:=(aO p.rules es l a (aB is) j)) hi' hsame
         have hset:xR l a (dK p.rules es l a (aO p.rules es l a (aB is) j) x (y+1)) (dK p.rules es l a (aO p.rules es l a (aB is) j) x y) (i+1)=xR l a (dK p.rules es l a (aO p.rules es l a (aB is) j) x (y+1)) (dK p.rules es l a (aO p.rules es l a (aB is) j) x y) i:=by
          rw[<- m2,hsame,<- m1]
          exact BX
         conv=>whnf
         refine .mk (by simp only[okI] at *; omega) ?_
         conv=>whnf
         refine⟨i+1,[0,6,7,14,309,403],by omega,by omega,⟨⟨_,rfl,.eq rfl⟩,⟨_,rfl,.eq (congrArg T.bool hag)⟩,trivial⟩,⟨⟨_,rfl,.eq rfl⟩,⟨_,rfl,.eq rfl⟩,⟨_,rfl,.eq rfl⟩,⟨_,rfl,.eq rfl⟩,⟨_,rfl,.eq rfl⟩,⟨_,rfl,.eq rfl⟩,⟨_,rfl,.eq rfl⟩,⟨_,rfl,.eq rfl⟩,⟨_,rfl,.eq rfl⟩,⟨_,rfl,.eq rfl⟩,⟨_,rfl,.eq rfl⟩,⟨_,rfl,.eq rfl⟩,⟨_,rfl,.eq rfl⟩,⟨_,rfl,.eq rfl⟩,⟨_,rfl,.eq rfl⟩,⟨_,rfl,.eq rfl⟩,trivial⟩,okF rfl nofun rfl rfl rfl ⟨rfl,rfl⟩ rfl,⟨rfl,nofun,rfl,rfl,_,rfl,rfl,rfl,bn.of_eq rfl⟩,okF rfl nofun rfl rfl rfl ⟨rfl,rfl⟩ rfl,okF rfl nofun rfl rfl rfl ⟨rfl,rfl⟩ rfl,okF rfl nofun rfl rfl rfl ⟨rfl,rfl⟩ (by rw[hset]),okF rfl nofun rfl rfl rfl ⟨rfl,rfl⟩ rfl,trivial⟩
       ·have hi':i=l.length:=by
         have: ¬ ((i:Int)<(((fE (l++a) d1).take l.length).length:Int)):=of_decide_eq_false h8
         rw[hq1] at this; omega
        subst hi'
        rw[IZ,hz1]
        conv=>whnf
        refine .mk (by simp only[okI] at *; omega) ?_
        conv=>whnf
        refine⟨(y+1,Ya),[0,6,7,14,309,403],⟨by show y+1<=_; omega,CY⟩,by show es.length-(y+1)<es.length-y; omega,⟨⟨_,rfl,.eq rfl⟩,⟨_,rfl,.eq rfl⟩,trivial⟩,⟨⟨_,rfl,.eq rfl⟩,⟨_,rfl,.eq rfl⟩,⟨_,rfl,.eq rfl⟩,⟨_,rfl,.eq rfl⟩,⟨_,rfl,.eq rfl⟩,⟨_,rfl,.eq rfl⟩,⟨_,rfl,.eq rfl⟩,⟨_,rfl,.eq rfl⟩,⟨_,rfl,.eq rfl⟩,⟨_,rfl,.eq rfl⟩,⟨_,rfl,.eq rfl⟩,⟨_,rfl,.eq rfl⟩,⟨_,rfl,.eq rfl⟩,trivial⟩,okF rfl nofun rfl rfl rfl ⟨rfl,rfl⟩ rfl,⟨rfl,nofun,rfl,rfl,_,rfl,rfl,rfl,bn.of_eq rfl⟩,okF rfl nofun rfl rfl rfl ⟨rfl,rfl⟩ rfl,okF rfl nofun rfl rfl rfl ⟨rfl,rfl⟩ rfl,okF rfl nofun rfl rfl rfl ⟨rfl,rfl⟩ rfl,okF rfl nofun rfl rfl rfl ⟨rfl,rfl⟩ rfl,trivial⟩
     ·have hy':y=es.length:=by have: ¬ ((y:Int)<(es.length:Int)):=of_decide_eq_false h6; omega
      subst hy'
      rw[acu]
      conv=>whnf
      refine .mk (by simp only[okI] at *; omega) ?_
      conv=>whnf
      exact⟨(x+1,em),[0,6,7,14,309],⟨by show x+1<=_; omega,hem⟩,by show p.rules.length-(x+1)<p.rules.length-x; omega,⟨⟨_,rfl,.eq rfl⟩,⟨_,rfl,.eq rfl⟩,⟨_,rfl,.eq rfl⟩,trivial⟩,⟨⟨_,rfl,.eq rfl⟩,⟨_,rfl,.eq rfl⟩,⟨_,rfl,.eq rfl⟩,⟨_,rfl,.eq rfl⟩,⟨_,rfl,.eq rfl⟩,⟨_,rfl,.eq rfl⟩,⟨_,rfl,.eq rfl⟩,trivial⟩,okF rfl nofun rfl rfl rfl ⟨rfl,rfl⟩ rfl,⟨rfl,nofun,rfl,rfl,_,rfl,rfl,rfl,bn.of_eq rfl⟩,okF rfl nofun rfl rfl rfl ⟨rfl,rfl⟩ rfl,okF rfl nofun rfl rfl rfl ⟨rfl,rfl⟩ rfl,okF rfl nofun rfl rfl rfl ⟨rfl,rfl⟩ rfl,trivial⟩
    ·have hx':x=p.rules.length:=by have: ¬ ((x:Int)<(p.rules.length:Int)):=of_decide_eq_false h5; omega
     subst hx'
     conv=>whnf
     exact⟨(j+1,em),[0,6,7,309],hem,adV em,⟨⟨_,rfl,.eq rfl⟩,⟨_,rfl,.eq (congrArg T.bool hbn)⟩,trivial⟩,⟨⟨_,rfl,.eq rfl⟩,⟨_,rfl,.eq rfl⟩,⟨_,rfl,.eq rfl⟩,⟨_,rfl,.eq rfl⟩,trivial⟩,okF rfl nofun rfl rfl rfl ⟨rfl,rfl⟩ rfl,⟨rfl,nofun,rfl,rfl,_,rfl,rfl,rfl,bn.of_eq rfl⟩,okF rfl nofun rfl rfl rfl ⟨rfl,rfl⟩ rfl,okF rfl nofun rfl rfl rfl ⟨rfl,rfl⟩ (by rw[abE]),trivial⟩
  ·have hj0: ∃ i,j=i+1:=by
    cases j with
    |zero=>exact absurd (show true=false from h4) (by decide)
    |succ i=>exact⟨i,rfl⟩
   obtain⟨i,rfl⟩:=hj0
   have hst:=aau (j:=i) h4
   have hfin:l.filter (fun k=> !aO p.rules es l a (aB is) (i+1) k)=JW p.rules es l a (aB is):=by
    rw[<- Gj hst]
    exact sQ fun k hk=>by rw[hst k hk]
   conv=>whnf
   have hkm:nD l ((jX l a (aO p.rules es l a (aB is) (i+1))).take l.length)=JW p.rules es l a (aB is):=by rw[LC,DN,hfin]
   have hK:=S.nR l ((jX l a (aO p.rules es l a (aB is) (i+1))).take l.length) f false (hl.small g2 g3) (by rw[LC,List.length_map])
   rw[hkm] at hK
   repeat(refine VC.mk (by show 0<=(l.length:Int)/\(l.length:Int)<=(jX l a (aO p.rules es l a (aB is) (i+1))).length; rw[hmk]; omega) ?_; conv=>whnf)
   refine ah.KF hK (And.intro (aC _) (And.intro (acr rfl rfl (by rw[hmk]; show l.length<=l.length+a.length; omega)) trivial)) rfl ?_
   conv=>whnf
   exact ak.eqv rfl
end Go.Proofs.YtifbibbicplneaaGreatDoor
