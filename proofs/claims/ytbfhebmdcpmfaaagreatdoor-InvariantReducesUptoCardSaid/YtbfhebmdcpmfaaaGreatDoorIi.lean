/-
 A part of the proof. No condition.
-/
import Derived.Test.YtbfhebmdcpmfaaaGreatDoorIe
import Derived.Test.YtbfhebmdcpmfaaaGreatDoorIc
import Derived.Test.YtbfhebmdcpmfaaaGreatDoorIf
import Derived.Test.YtbfhebmdcpmfaaaGreatDoorId
namespace Go.Proofs.YtbfhebmdcpmfaaaGreatDoor
open Go.Ab Go.Proofs
set_option maxRecDepth 100000
theorem YN{b:Nat}(hb:0<b): ∀ {n:Nat} {c:List Int},c.length=n->(∀ x∈c,0<=x/\x<b)-> ∃ v,v<b^n/\eX b n v=c:=by
 intro n
 induction n with
 |zero =>
  intro c hc _
  have:c=[]:=List.eq_nil_of_length_eq_zero hc
  subst this
  exact⟨0,by simp,rfl⟩
 |succ n ih =>
  intro c hc h
  cases c with
  |nil=>cases hc
  |cons x c =>
   obtain⟨u,hu,hd⟩:=ih (c:=c) (by simpa using hc) (fun y hy=>h y (List.mem_cons_of_mem _ hy))
   have hx:=h x (by simp)
   have hk:x.toNat<b:=by omega
   refine⟨x.toNat*b^n+u,?_,?_⟩
   ·have h1:(x.toNat+1)*b^n<=b*b^n:=Nat.mul_le_mul_right _ hk
    rw[Nat.add_mul,Nat.one_mul] at h1
    rw[Nat.pow_succ,Nat.mul_comm (b^n) b]; omega
   ·rw[Jy hb hk hu,hd]
    congr 1; omega
theorem TR: ∀ n:Nat,(List.replicate n (0:Int)).sum=0:=by
 intro n
 induction n with
 |zero=>rfl
 |succ n ih=>rw[List.replicate_succ,List.sum_cons,ih]; rfl
theorem YO{b n vals:Nat}{e:Elem}(hb:0<b)(h:yx b n vals e):e∈eY b n vals:=by
 obtain⟨v,hv,hd⟩:=YN hb h.len h.rng
 have hv0:v≠0:=by
  intro e0
  have h1:=h.pos
  rw[<- hd,e0,zS hb,TR] at h1
  omega
 have hw:=h.val
 refine List.mem_flatMap.2 ⟨e.value.toNat,List.mem_range.2 (by omega),List.mem_map.2 ⟨v-1,List.mem_range.2 (by omega),?_⟩⟩
 rw[show v-1+1=v by omega,hd]
 cases e with
 |mk val cs =>
  have:((val.toNat:Nat):Int)=val:=by have:=hw.1; simp only at this ⊢; omega
  simp only[this]
theorem YP{m:Int}(hm:1<=m): ∀ {c:List Int},(∀ x∈c,0<=x)->(0<c.sum->0<(oC m c).sum)/\0<=(oC m c).sum:=by
 intro c
 induction c with
 |nil=>intro _; simp[oC]
 |cons x c ih =>
  intro h
  have h0:=h x (by simp)
  obtain⟨a,b⟩:=ih fun y hy=>h y (List.mem_cons_of_mem _ hy)
  have e1:(x::c).sum=x+c.sum:=by simp
  have e2:(oC m (x::c)).sum=min x m+(oC m c).sum:=by simp[oC]
  rw[e1,e2]
  refine⟨fun hp=>?_,by omega⟩
  by_cases hx:x=0
  ·have:=a (by omega); omega
  ·omega
theorem YQ{B m n vals:Nat}{e:Elem}(hm:1<=m)(h:yx B n vals e):uj m e∈eY (m+1) n vals:=by
 have hnn: ∀ x∈e.counts,0<=x:=fun x hx=>(h.rng x hx).1
 refine YO (by omega) ⟨by simp[uj,oC,h.len],fun x hx=>?_,h.val,(YP (by omega) hnn).1 h.pos⟩
 obtain⟨y,hy,rfl⟩:=List.mem_map.1 hx
 have:=hnn y hy; omega
theorem Wy: ∀ {l:List Int},(∀ x∈l,x=0)->aQ l=0:=by
 intro l
 induction l with
 |nil=>intro _; rfl
 |cons x r ih =>
  intro h
  have h0:=h x (by simp)
  subst h0
  exact ih fun y hy=>h y (List.mem_cons_of_mem _ hy)
theorem Yo{p:aU}{l m:List Clause}(h:jg p l=0)(hs: ∀ k∈m,k∈l)(hl:m.length<=l.length):jg p m=0:=by
 unfold jg at h ⊢
 obtain⟨h1,h2⟩:=bz (fun _=>by decide) h
 have h1':=of_decide_eq_false h1
 rw[decide_eq_false (by omega)]
 refine Wy fun x hx=>?_
 obtain⟨k,hk,rfl⟩:=List.mem_map.1 hx
 exact gY h2 _ (List.mem_map.2 ⟨k,hs k hk,rfl⟩)
abbrev hE(l:List Clause)(f:Bool)(es:List (Int×List Bool))(d:List Bool):Hz:=[(0,some (yK l f 1)),(1,some (xO es)),(2,some (rowB d))]
theorem iI.ofE{l:List Clause}{f:Bool}{es':List (Int×List Bool)}{d':List Bool}{h0 h:Hz}{n:Nat}{v u:V}{post:T->Hp->Prop}(Z:Nat->Prop)(q0:(h0.aj 0).isSome=true)(q1:(h0.aj 1).isSome=true)(q2:(h0.aj 2).isSome=true)(F:Fz Z h (hE l f es' d'))(hu:u.free=true)(hv:T.sub Z h.aj u.aG v.aG)(hp:post u.aG (hE l f es' d').aj):iI h0 n post v h:=by
 refine iI.OX (h2:=hE l f es' d') (u:=u) Z F ?_ hu hv hp
 intro i o ho
 have hG:=kL (show rM 3 (hE l f es' d')=true from rfl) i o.aF (aH ho)
 have hsome: ∀ i,i<3->(h0.aj i).isSome=true:=fun i hi=>by
  match i,hi with
  |0,_=>exact q0
  |1,_=>exact q1
  |2,_=>exact q2
  |k+3,hk=>exact absurd hk (by omega)
 exact⟨hsome i hG.1,T.ay (fun i hi=>hsome i hi) _ hG.2.1,hG.2.2⟩
def pV(l:List Clause)(d:List Bool)(i:Nat)(e:Elem):Bool:= !((fH l e).getD i false)&&(List.range (fH l e).length).all fun j=>(fH l e).getD j false||(d.set i true).getD j false
def wG(l:List Clause)(d:List Bool)(i:Nat)(es:List Elem):Bool:= !(es.any (pV l d i))
set_option maxHeartbeats 2000000 in
theorem S.I7(p:aU)(l:List Clause)(f:Bool)(es:List (Int×List Bool))(d:List Bool)(i:Nat)(hp:dh p)(hn0:0<p.states.length)(Ar:p.states.length<=6)(hvs:p.values.length<=3)(hl:fB p.states.length p.values.length l)(hd:d.length=l.length)(hi:i<l.length)(hdi:d.getD i false=false)(hg:iL p.states.length l es) :
  aN Tryz.prog 31 (V.aT [.ptr 0 0 0,.dat (.dF p),.own 2,.int i]) (Hz.aj (hE l f es d)) 3 (fun t hp=> ∃ es',iL p.states.length l es'/\t=(V.bool (wG l d i (eY (CJ l+3) p.states.length (lQ p)))).aG/\hp=Hz.aj (hE l f es' d)):=by
 have hsm:=hl.small Ar hvs
 have nM:lQ p<=3:=by unfold lQ; omega
 have hrk:=BD (l:=l)
 have YF:bF l<=3:=qP fun k hk=>(hl.cl k hk).two
 have PN:CJ l+3<=9:=by omega
 have hsl:=hl.len
 have hRk:=nC (l:=l)
 have hU:ak Tryz.prog 52 [.dat (.dF p),.int (bF l+2)] (.row 3 false (.elems (eY (CJ l+3) p.states.length (lQ p)))):=by
  have:=S.eF p p.states.length (lQ p) (CJ l+2) hp rfl hn0 Ar rfl nM (by omega)
  rw[hrk]; exact this
 have Nh:(eY (CJ l+3) p.states.length (lQ p)).length<=3*531441:=by
  rw[pG]
  have:=pO (b:=CJ l+3) (n:=p.states.length) (by omega) Ar
  exact Nat.mul_le_mul nM (by omega)
 have hok:=xI (b:=CJ l+3) (n:=p.states.length) (vals:=lQ p) (by omega)
 generalize eY (CJ l+3) p.states.length (lQ p)=us at hU Nh hok ⊢
 have hback:(d.set i true).set i false=d:=by
  rw[List.set_set]
  have:=vU (l:=d) (i:=i)
  rw[hdi] at this; exact this
 refine pR.ofD (nx:=3) (h0:=hE l f es d) Bd.vV Tryz.call51 (by simp) ⟨_,_,es,hg,rfl,rfl⟩ rfl rfl ?_
 conv=>whnf
 repeat(refine VC.mk (by first|(simp only[Rw.rng,Int.toNat_natCast]; omega)|(simp only[okI] at *; first|omega|(simp_all; done)|(simp_all; omega))) ?_; conv=>whnf)
 refine ah.pure (hU) rfl ?_
 conv=>whnf
 have hml:(d.set i true).length=l.length:=by rw[List.length_set,hd]
 refine aJ.yZ (ι:=Nat×List (Int×List Bool)) 100 [0,6,7,22,23] (fun x=>[(24,.int x.1)]) (fun x=>[(0,yK l f 1),(1,xO x.2),(2,rowB (d.set i true)),(4,.box 67 0 (.own 2)),(5,.box 3 0 (.int i))]) (fun x=>x.1<=us.length/\iL p.states.length l x.2/\(us.take x.1).any (pV l d i)=false) (fun x=>us.length-x.1) (0,es) [0,1,2,4,5] rfl (by decide) (fun _=>rfl) ⟨Nat.zero_le _,hg,rfl⟩ ?_ ?_ ?_
 ·exact⟨⟨_,rfl,.eq rfl⟩,trivial⟩
 ·refine⟨⟨rfl,(fun _=>rfl),rfl,rfl,_,rfl,rfl,rfl,bn.of_eq rfl⟩,okF rfl (fun _=>rfl) rfl rfl rfl ⟨rfl,rfl⟩ rfl,okF rfl (fun _=>rfl) rfl rfl rfl ⟨rfl,rfl⟩ rfl,⟨rfl,(fun _=>rfl),rfl,rfl,_,rfl,rfl,rfl,bn.of_eq rfl⟩,okF rfl (fun _=>rfl) rfl rfl rfl ⟨rfl,rfl⟩ rfl,trivial⟩
 conv=>whnf
 refine⟨⟨⟨_,rfl,.eq rfl⟩,⟨_,rfl,.eq rfl⟩,⟨_,rfl,.eq rfl⟩,⟨_,rfl,.eq rfl⟩,⟨_,rfl,.eq rfl⟩,trivial⟩,rfl,?_⟩
 rintro⟨k,em⟩ ⟨hk,hem,hany⟩
 conv=>whnf
 refine⟨fun h3=>?_,fun h3=>?_⟩
 ·have hk':k<us.length:=by simpa using h3
  have hue:=hok _ (getM (d:=default) hk')
  have hte:=hl.at hue PN nM hn0 Ar
  have Au:(us.getD k default).counts.length=p.states.length:=hue.len
  conv=>whnf
  refine .mk (by simp only[Rw.rng] at *; first|omega|(simp_all; done)|(simp_all; omega)) ?_
  conv=>whnf
  refine ah.row hsm hte (show iL (us.getD k default).counts.length l em by rw[Au]; exact hem) rfl rfl (by decide) rfl (by decide) (by decide) (fun I4 rO=>?_)
  replace rO:iL (us.getD k default).counts.length l I4:=rO
  rw[Au] at rO
  have hrl:(fH l (us.getD k default)).length=l.length:=pJ
  have hnext:(us.take (k+1)).any (pV l d i)=pV l d i (us.getD k default):=by
   rw[List.take_add_one,List.any_append,hany]
   have:us[k]? =some (us.getD k default):=by rw[List.getElem?_eq_getElem hk']; simp[hk']
   rw[this]; simp
  conv=>whnf
  repeat(refine VC.mk (by first|(show 0<=(i:Int)/\(i:Int)<(fH l (us.getD k default)).length; rw[hrl]; omega)|exact fun h=>⟨h,h⟩) ?_; conv=>whnf)
  show ah Tryz.prog false (some (!(fH l (us.getD k default)).getD i false)) _ _ _ _ _ _
  cases hr:(fH l (us.getD k default)).getD i false with
  |true =>
   have hnx:(us.take (k+1)).any (pV l d i)=false:=by rw[hnext,pV,hr]; rfl
   refine ah.V4 (.bool true) rfl ?_
   conv=>whnf
   refine VC.mk id ?_
   conv=>whnf
   refine Fork.mk (fun q=>absurd (q.symm.trans (show(!(fH l (us.getD k default)).getD i false&&true)=false by rw[hr]; rfl)).symm Bool.false_ne_true) (fun _=>?_)
   conv=>whnf
   refine .mk (by simp only[okI] at *; first|omega|(simp_all; done)|(simp_all; omega)) ?_
   conv=>whnf
   refine⟨(k+1,I4),[0,1,2,4,5],⟨by show k+1<=_; omega,rO,hnx⟩,by show us.length-(k+1)<us.length-k; omega,⟨⟨_,rfl,.eq rfl⟩,trivial⟩,⟨⟨_,rfl,.eq rfl⟩,⟨_,rfl,.eq rfl⟩,⟨_,rfl,.eq rfl⟩,⟨_,rfl,.eq rfl⟩,⟨_,rfl,.eq rfl⟩,trivial⟩,⟨rfl,(fun _=>rfl),rfl,rfl,_,rfl,rfl,rfl,bn.of_eq rfl⟩,okF rfl (fun _=>rfl) rfl rfl rfl ⟨rfl,rfl⟩ rfl,okF rfl (fun _=>rfl) rfl rfl rfl ⟨rfl,rfl⟩ rfl,⟨rfl,(fun _=>rfl),rfl,rfl,_,rfl,rfl,rfl,bn.of_eq rfl⟩,okF rfl (fun _=>rfl) rfl rfl rfl ⟨rfl,rfl⟩ rfl,trivial⟩
  |false =>
   have hf:pV l d i (us.getD k default)=(List.range (fH l (us.getD k default)).length).all fun j=>(fH l (us.getD k default)).getD j false||(d.set i true).getD j false:=by rw[pV,hr]; rfl
   refine ah.on (ah.lend (S.He (fH l (us.getD k default)) (d.set i true) false false (by rw[hrl]; omega) (by rw[hrl,hml]; omega)) ⟨aB _,JG trivial rfl,trivial⟩ rfl rfl ?_)
   rw[<- hf]
   conv=>whnf
   refine VC.mk id ?_
   conv=>whnf
   refine⟨fun h4=>?_,fun h4=>?_⟩
   ·have h4':pV l d i (us.getD k default)=true:=by
     have h4:(!(fH l (us.getD k default)).getD i false&&pV l d i (us.getD k default))=true:=h4
     rw[hr] at h4; exact h4
    have hQ:wG l d i us=false:=by
     rw[wG,<- List.take_append_drop (k+1) us,List.any_append,hnext,h4']; rfl
    rw[hQ]
    conv=>whnf
    refine TS.walk Bd.fO (by simp) rfl rfl rfl ?_
    conv=>whnf
    repeat(refine VC.mk (by simp only[Rw.rng,Int.toNat_natCast,List.length_set]; omega) ?_; conv=>whnf)
    refine iI.ofE (l:=l) (f:=f) (es':=I4) (d':=d) (u:=.fK []) (fun _=>False) rfl rfl rfl ⟨bG (Z:=fun _=>False) rfl (fun q=>q),bG (Z:=fun _=>False) rfl (fun q=>q),bG (Z:=fun _=>False) (show some (rowB ((d.set i true).set i false))=some (rowB d) by rw[hback]) (fun q=>q),trivial⟩ rfl (aB _) ⟨hE l f I4 d,rfl,?_⟩
    conv=>whnf
    exact iI.ofE (l:=l) (f:=f) (es':=I4) (d':=d) (u:=.bool false) (fun _=>False) rfl rfl rfl ⟨bG (Z:=fun _=>False) rfl (fun q=>q),bG (Z:=fun _=>False) rfl (fun q=>q),bG (Z:=fun _=>False) rfl (fun q=>q),trivial⟩ rfl (aB _) ⟨I4,rO,rfl,rfl⟩
   ·have h4':pV l d i (us.getD k default)=false:=by
     have h4:(!(fH l (us.getD k default)).getD i false&&pV l d i (us.getD k default))=false:=h4
     rw[hr] at h4; exact h4
    have hnx:(us.take (k+1)).any (pV l d i)=false:=by rw[hnext,h4']
    conv=>whnf
    refine .mk (by simp only[okI] at *; first|omega|(simp_all; done)|(simp_all; omega)) ?_
    conv=>whnf
    refine⟨(k+1,I4),[0,1,2,4,5],⟨by show k+1<=_; omega,rO,hnx⟩,by show us.length-(k+1)<us.length-k; omega,⟨⟨_,rfl,.eq rfl⟩,trivial⟩,⟨⟨_,rfl,.eq rfl⟩,⟨_,rfl,.eq rfl⟩,⟨_,rfl,.eq rfl⟩,⟨_,rfl,.eq rfl⟩,⟨_,rfl,.eq rfl⟩,trivial⟩,⟨rfl,(fun _=>rfl),rfl,rfl,_,rfl,rfl,rfl,bn.of_eq rfl⟩,okF rfl (fun _=>rfl) rfl rfl rfl ⟨rfl,rfl⟩ rfl,okF rfl (fun _=>rfl) rfl rfl rfl ⟨rfl,rfl⟩ rfl,⟨rfl,(fun _=>rfl),rfl,rfl,_,rfl,rfl,rfl,bn.of_eq rfl⟩,okF rfl (fun _=>rfl) rfl rfl rfl ⟨rfl,rfl⟩ rfl,trivial⟩
 ·have hk':k=us.length:=by have: ¬ ((k:Int)<(us.length:Int)):=of_decide_eq_false h3; omega
  subst hk'
  rw[List.take_length] at hany
  have hQ:wG l d i us=true:=by rw[wG,hany]; rfl
  rw[hQ]
  conv=>whnf
  refine TS.walk Bd.fO (by simp) rfl rfl rfl ?_
  conv=>whnf
  repeat(refine VC.mk (by simp only[Rw.rng,Int.toNat_natCast,List.length_set]; omega) ?_; conv=>whnf)
  refine iI.ofE (l:=l) (f:=f) (es':=em) (d':=d) (u:=.fK []) (fun _=>False) rfl rfl rfl ⟨bG (Z:=fun _=>False) rfl (fun q=>q),bG (Z:=fun _=>False) rfl (fun q=>q),bG (Z:=fun _=>False) (show some (rowB ((d.set i true).set i false))=some (rowB d) by rw[hback]) (fun q=>q),trivial⟩ rfl (aB _) ⟨hE l f em d,rfl,?_⟩
  conv=>whnf
  exact iI.ofE (l:=l) (f:=f) (es':=em) (d':=d) (u:=.bool true) (fun _=>False) rfl rfl rfl ⟨bG (Z:=fun _=>False) rfl (fun q=>q),bG (Z:=fun _=>False) rfl (fun q=>q),bG (Z:=fun _=>False) rfl (fun q=>q),trivial⟩ rfl (aB _) ⟨em,hem,rfl,rfl⟩
theorem aaO{h:Hz}{j:Nat}{c:Clause}{Z:Nat->Prop}(hz:Z j)(q:h.get j=some (.row 36 4 .nil [.dat (.clause c)])):T.sub Z h.aj (V.row 4 false (.clauses [c])).aG (V.own j).aG:=by
 show T.sub Z h.aj (.sl 4 false ([c].map nX)) (.own j)
 simp only[T.sub]
 refine⟨trivial,hz,Dc [c],by decide,36,?_⟩
 have:=aH q; simpa [OV.aF,Rw.aT,V.aT,V.aG,Dat.aG] using this
def qK(p:aU)(l:List Clause)(c:Clause):Int:=bif xB p !=0 then xB p else bif jg p l !=0 then jg p l else uX p c
def D8(l:List Clause)(c:Clause)(us:List Elem):Bool:= !(us.any fun e=> !(holdsB c e)&&cO l e)
def iU(p:aU)(l:List Clause):List Elem:=eY (CJ l+3) p.states.length (lQ p)
def yI(p:aU)(l:List Clause)(c:Clause):Bool:=qK p l c==0&&D8 l c (iU p (l++[c]))
def yH(p:aU)(l:List Clause)(c:Clause):V:=.fK [.bool (yI p l c),.int (qK p l c)]
theorem TT{l:List Clause}{c:Clause}{e:Elem}:pV (l++[c]) (List.replicate (l++[c]).length false) l.length e=(!(holdsB c e)&&cO l e):=by
 have h0:(fH (l++[c]) e).getD l.length false=holdsB c e:=by simp[fH]
 unfold pV
 rw[h0]
 congr 1
 rw[Bool.eq_iff_iff,cO,List.all_eq_true,List.all_eq_true]
 have hlen:(fH (l++[c]) e).length=l.length+1:=by simp[fH]
 rw[hlen]
 constructor
 ·intro h k hk
  obtain⟨i,hi,rfl⟩:=List.getElem_of_mem hk
  have:=h i (List.mem_range.2 (by omega))
  have h1:(fH (l++[c]) e).getD i false=holdsB l[i] e:=by
   simp only[fH,List.map_append,List.getD_eq_getElem?_getD]
   rw[List.getElem?_append_left (by simpa using hi)]; simp[hi]
  have h2:((List.replicate (l++[c]).length false).set l.length true).getD i false=false:=by
   rw[List.getD_eq_getElem?_getD,List.getElem?_set_ne (by omega)]; simp[List.getElem?_replicate]; split<;>rfl
  rw[h1,h2,Bool.or_false] at this
  exact this
 ·intro h i hi
  have hi:=List.mem_range.1 hi
  by_cases e0:i=l.length
  ·subst e0
   have h2:((List.replicate (l++[c]).length false).set l.length true).getD l.length false=true:=by
    rw[List.getD_eq_getElem?_getD,List.getElem?_set_self (by simp)]; rfl
   rw[h2,Bool.or_true]
  ·have hi':i<l.length:=by omega
   have h1:(fH (l++[c]) e).getD i false=holdsB l[i] e:=by
    simp only[fH,List.map_append,List.getD_eq_getElem?_getD]
    rw[List.getElem?_append_left (by simpa using hi')]; simp[hi']
   rw[h1,h l[i] (List.getElem_mem hi'),Bool.true_or]
theorem WA{l:List Clause}{c:Clause}{us:List Elem}:wG (l++[c]) (List.replicate (l++[c]).length false) l.length us=D8 l c us:=by
 unfold wG D8
 rw[show pV (l++[c]) (List.replicate (l++[c]).length false) l.length=fun e=> !(holdsB c e)&&cO l e from funext fun e=>TT]
theorem Hf{p:aU}{l:List Clause}{c:Clause}{k:Int}(he:qK p l c=k)(hk:(k !=0)=true):yH p l c= .fK [.bool false,.int k]:=by
 have:(k==0)=false:=by simpa using hk
 rw[yH,yI,he,this]; rfl
theorem ah.entails{p:aU}{l:List Clause}{f:Bool}{es:List (Int×List Bool)}{d:List Bool}{i:Nat}{h:Hz}{a b c n:Nat}{K:V->Hz->Prop}{KW:Nat->V->Hz->Prop}(hp:dh p)(hn0:0<p.states.length)(Ar:p.states.length<=6)(hvs:p.values.length<=3)(hl:fB p.states.length p.values.length l)(hd:d.length=l.length)(hi:i<l.length)(hdi:d.getD i false=false)(hg:iL p.states.length l es)
  (ha:h.get a=some (yK l f b)) (hb:h.get b=some (xO es)) (hc:h.get c=some (rowB d)) (hn:h.get n=none) (nd:([a,b,c]++[n]).Nodup)
  (hK: ∀ es',iL p.states.length l es'->K (.bool (wG l d i (iU p l))) ((a,some (yK l f b))::(b,some (xO es'))::(c,some (rowB d))::(n,none)::h)):ah Tryz.prog false none 31 [.ptr a 0 0,.dat (.dF p),.own c,.int i] h n K KW:=by
 refine ah.aaP (pre:=hE l f es d) [a,b,c] (S.I7 p l f es d i hp hn0 Ar hvs hl hd hi hdi hg) rfl ?_ rfl rfl rfl ⟨⟨_,ha,rfl⟩,⟨_,hb,kQ rfl _⟩,⟨_,hc,?_⟩,trivial⟩ hn nd ?_
 ·rfl
 ·exact kQ rfl _
 ·rintro t hp ⟨es',hg',rfl,rfl⟩
  exact⟨.bool (wG l d i (iU p l)),[some (yK l f b),some (xO es'),some (rowB d),none],rfl,rfl,⟨rfl,congrArg some (kQ rfl _).symm,congrArg some (kQ rfl _).symm,rfl,trivial⟩,hK es' hg'⟩
set_option maxHeartbeats 1000000 in
theorem S.iJ(p:aU)(l:List Clause)(c:Clause)(f:Bool)(hp:dh p)(hl:SmallK l)(hc:o9 c):ak Tryz.prog 12 [.dat (.dF p),.row 4 f (.clauses l),.dat (.clause c)] (yH p l c):=by
 refine ak.of Bd.iJ (by simp) rfl rfl ?_
 conv=>whnf
 refine ah.pure (S.dX p hp) rfl ?_
 conv=>whnf
 refine⟨fun h1=>?_,fun h1=>?_⟩
 ·have he:qK p l c=xB p:=by rw[qK,show(xB p !=0)=true from h1]; rfl
  conv=>whnf
  exact au.eqv (congrArg V.aG (Hf he h1))
 conv=>whnf
 refine ah.lend (S.rE p l false f hp hl) ⟨aB _,JK trivial rfl rfl,trivial⟩ rfl rfl ?_
 conv=>whnf
 refine⟨fun h2=>?_,fun h2=>?_⟩
 ·have he:qK p l c=jg p l:=by rw[qK,show(xB p !=0)=false from h1,show(jg p l !=0)=true from h2]; rfl
  conv=>whnf
  exact au.eqv (congrArg V.aG (Hf he h2))
 conv=>whnf
 refine ah.pure (S.bY p c hp hc) rfl ?_
 conv=>whnf
 refine⟨fun h3=>?_,fun h3=>?_⟩
 ·have he:qK p l c=uX p c:=by rw[qK,show(xB p !=0)=false from h1,show(jg p l !=0)=false from h2]; rfl
  conv=>whnf
  exact au.eqv (congrArg V.aG (Hf he h3))
 obtain⟨hF,_⟩:=zV (xw h1)
 obtain⟨hR,Wi⟩:=y5 (xw h2)
 have hC:=Jl (xw h3)
 have g1:=hF.pos; have g2:=hF.states; have g3:=hF.values
 have hR2:fB p.states.length p.values.length (l++[c]):=hR.app ⟨fun k hk=>by rw[List.mem_singleton] at hk; subst hk; exact hC,by simp⟩ (by simp; omega)
 have hsm:=hR2.small g2 g3
 have hll:(l++[c]).length=l.length+1:=by simp
 have he:qK p l c=0:=by rw[qK,show(xB p !=0)=false from h1,show(jg p l !=0)=false from h2]; exact xw h3
 have hV:yH p l c= .fK [.bool (wG (l++[c]) (List.replicate (l++[c]).length false) l.length (iU p (l++[c]))),.int 0]:=by
  rw[yH,yI,he,WA]; rfl
 rw[hV]
 conv=>whnf
 refine ah.MC (S.iw l [c] f false (by omega) (by simp)) (And.intro (aB _) (And.intro (aaO rfl rfl) trivial)) rfl ?_
 conv=>whnf
 refine ah.y7 hsm rfl ?_
 conv=>whnf
 rw[show(bif isZero (V.int ((l++[c]).length:Nat)) then some Rw.nil else SC (((l++[c]).length:Nat):Int).toNat (T.bool false))=some (Rw.bools (List.replicate (l++[c]).length false)) from by rw[hll]; rfl]
 conv=>whnf
 refine .mk (by omega) ?_
 conv=>whnf
 refine ah.entails (p:=p) (l:=l++[c]) (f:=false) (es:=[]) (d:=List.replicate (l++[c]).length false) (i:=l.length) hp g1 g2 g3 hR2 (List.length_replicate ..) (by omega) (by simp[]) iL.nil rfl rfl rfl rfl (by decide) (fun es' _=>?_)
 conv=>whnf
 exact au.eqv rfl
set_option maxHeartbeats 1000000 in
theorem S.rP(p:aU)(l:List Clause)(c:Clause)(f:Bool)(hp:dh p)(g1:0<p.states.length)(g2:p.states.length<=6)(g3:p.values.length<=3)(hl:fB p.states.length p.values.length l)(hc:fB p.states.length p.values.length [c])(hl9:l.length<=900):ak Tryz.prog 34 [.dat (.dF p),.row 4 f (.clauses l),.dat (.clause c)] (.bool (D8 l c (iU p (l++[c])))):=by
 have hR2:fB p.states.length p.values.length (l++[c]):=hl.app hc (by simp; omega)
 have hrk:=BD (l:=l++[c])
 have YF:bF (l++[c])<=3:=qP fun k hk=>(hR2.cl k hk).two
 have hE:ak Tryz.prog 56 [.dat (.dF p),.int (max (bF l) (bF [c])+2)] (.row 3 false (.elems (iU p (l++[c])))):=by
  have:=S.wE p p.states.length (lQ p) (CJ (l++[c])+2) hp rfl g1 g2 rfl (by unfold lQ; omega) (by omega)
  rw[<- GV,hrk]; exact this
 have PN:CJ (l++[c])+3<=9:=by omega
 have hok: ∀ e∈iU p (l++[c]),yx (CJ (l++[c])+3) p.states.length (lQ p) e:=xI (by omega)
 have hul:(iU p (l++[c])).length<=3*531441:=by
  show(eY _ _ _).length<=_
  have:=pO (b:=CJ (l++[c])+3) (n:=p.states.length) PN g2
  rw[pG]; exact Nat.mul_le_mul (by unfold lQ; omega) (by omega)
 have hr1:=nC (l:=l); have hr2:=nC (l:=[c])
 have hra:=GV (l:=l) (a:=[c])
 generalize iU p (l++[c])=es at hE hok hul ⊢
 refine ak.of Bd.rP (by simp) rfl rfl ?_
 conv=>whnf
 refine ah.pure (S.wB l f (hl.small g2 g3)) rfl ?_
 conv=>whnf
 refine ah.pure (S.wB [c] true (hc.small g2 g3)) rfl ?_
 conv=>whnf
 refine .mk (by simp only[okI] at *; first|omega|(simp_all; done)|(simp_all; omega)) ?_
 conv=>whnf
 conv=>whnf
 refine ah.pure (hE) rfl ?_
 conv=>whnf
 refine aJ.same [1,5,7] (fun j:Nat=>[(8,.int j)]) (fun j=>j<=es.length/\(es.take j).any (fun e=> !(holdsB c e)&&cO l e)=false) (fun j=>es.length-j) 0 rfl (by decide) rfl (fun _=>rfl) ⟨by omega,by simp⟩ ⟨⟨_,rfl,rfl⟩,trivial⟩ ?_
 conv=>whnf
 refine⟨rfl,?_⟩
 rintro j ⟨hj,hany⟩
 conv=>whnf
 refine⟨fun h4=>?_,fun h4=>?_⟩
 ·have hj':j<es.length:=by simpa using h4
  have hue:=hok _ (getM (d:=default) hj')
  have e1:=hue.len; have e2:=hue.Bl PN
  obtain⟨hf,hkv⟩:=hc.fit e1 e2 g2 g3 (i:=0) (by simp)
  have hf:S9 c (es.getD j default):=hf
  have href:KF c (es.getD j default)=holdsB c (es.getD j default):=hf.cl.elim fun _ q=>QV q fun x hx=>(hf.ok x hx).1
  conv=>whnf
  refine .mk (by simp only[Rw.rng] at *; first|omega|(simp_all; done)|(simp_all; omega)) ?_
  conv=>whnf
  refine ah.pure (S.tu c (es.getD j default) hf hkv) rfl ?_
  conv=>whnf
  repeat(refine VC.mk (by first|exact id|exact fun h=>⟨h,h⟩|(intro h; (repeat' apply And.intro)<;>first|exact h|omega|(simp only[Rw.lg]; omega)|(simp only[Rw.rng]; omega))) ?_; conv=>whnf)
  rw[href]
  refine ah.fP (fun _=>S.wC l (es.getD j default) f (by omega) (fun i hi=>hl.fit e1 e2 g2 g3 hi)) rfl ?_
  conv=>whnf
  refine VC.mk id ?_
  conv=>whnf
  refine⟨fun h5=>?_,fun h5=>?_⟩
  ·have h5':(!(holdsB c (es.getD j default))&&cO l (es.getD j default))=true:=h5
   conv=>whnf
   exact au.bool (by rw[D8,jq (d:=default) hj' h5']; rfl)
  ·have h5':(!(holdsB c (es.getD j default))&&cO l (es.getD j default))=false:=h5
   conv=>whnf
   refine .mk (by simp only[okI] at *; first|omega|(simp_all; done)|(simp_all; omega)) ?_
   conv=>whnf
   refine⟨j+1,⟨by omega,?_⟩,by omega,⟨⟨_,rfl,rfl⟩,trivial⟩,?_,rfl⟩
   ·rw[lJ (d:=default) hj' hany]; exact h5'
   ·repeat' (first|exact trivial|exact⟨_,rfl,rfl⟩|constructor)
 ·have hj':es.length<=j:=by simpa using h4
  rw[List.take_of_length_le hj'] at hany
  conv=>whnf
  exact au.bool (by rw[D8,hany]; rfl)
def aaQ(n vals:Nat)(a:List Clause)(c:Clause):Prop:= ∀ B e,yx B n vals e->cO a e=true->holdsB c e=true
theorem WB{r:Int}{l:List Clause}(hr:0<=r)(h: ∀ k∈l,kK k<=r):bF l<=r:=by
 have: ∀ (l:List Clause) (x:Int),x<=r->(∀ k∈l,kK k<=r)->l.foldl (fun r k=>max r (kK k)) x<=r:=by
  intro l
  induction l with
  |nil=>intro x hx _; exact hx
  |cons k l ih=>intro x hx h; exact ih (max x (kK k)) (by have:=h k (by simp); omega) fun q hq=>h q (List.mem_cons_of_mem _ hq)
 exact this l 0 hr h
theorem CG{n vals vs b:Nat}{a:List Clause}{c:Clause}(hk: ∀ k∈a++[c],yG n vs k)(hb:CJ (a++[c])+3<=b):D8 a c (eY b n vals)=true↔aaQ n vals a c:=by
 have hrk:=BD (l:=a++[c])
 have hra:=GV (l:=a) (a:=[c])
 have h1:=nC (l:=a); have h2:=nC (l:=[c])
 have hc1:kK c<=bF [c]:=zQ (by simp)
 unfold D8
 rw[Bool.not_eq_true',List.any_eq_false]
 constructor
 ·intro h B e he hev
  have hnn: ∀ x∈e.counts,0<=x:=fun x hx=>(he.rng x hx).1
  have hlo:uj ((b-1:Nat):Int) e∈eY (b-1+1) n vals:=YQ (by omega) he
  rw[show b-1+1=b by omega] at hlo
  have hag:=TN (m:=((b-1:Nat):Int)) (by omega) hnn
  have e1:=Nq (l:=a) (b:=uj ((b-1:Nat):Int) e) (m:=((b-1:Nat):Int)) (fun k q=>hk k (List.mem_append_left _ q)) he.len (by omega) rfl hag
  have e2:=E8 (b:=uj ((b-1:Nat):Int) e) (m:=((b-1:Nat):Int)) (hk c (by simp)) he.len (by omega) rfl hag
  have:=h _ hlo
  rw[<- e1,<- e2,hev] at this
  simpa using this
 ·intro h e he hf
  rw[Bool.and_eq_true,Bool.not_eq_true'] at hf
  have:=h b e (xI (by omega) e he) hf.2
  rw[this] at hf; cases hf.1
theorem uw{e:Elem}: ∀ {l:List Clause} {d:List Bool},l.length=d.length->(cO (bK l d) e=true↔ ∀ j,j<l.length->d.getD j false=true\/holdsB (l.getD j default) e=true):=by
 intro l
 induction l with
 |nil=>intro d h; cases d with
  |nil=>simp[bK,cO]
  |cons b d=>cases h
 |cons k l ih =>
  intro d h
  cases d with
  |nil=>cases h
  |cons b d =>
   have ih:=@ih d (by simpa using h)
   have e0:cO (bK (k::l) (b::d)) e=((b||holdsB k e)&&cO (bK l d) e):=by
    cases b<;>simp[bK,cO]
   rw[e0,Bool.and_eq_true,ih]
   constructor
   ·rintro⟨h1,h2⟩ j hj
    cases j with
    |zero=>simpa using h1
    |succ j=>simpa using h2 j (by simpa using hj)
   ·intro h1
    refine⟨by simpa using h1 0 (by simp),fun j hj=>by simpa using h1 (j+1) (by simpa using hj)⟩
theorem TU{l:List Clause}{d:List Bool}{i:Nat}{e:Elem}(hd:l.length=d.length)(hi:i<l.length):pV l d i e=(!(holdsB (l.getD i default) e)&&cO (bK l (d.set i true)) e):=by
 have hr: ∀ j,j<l.length->(fH l e).getD j false=holdsB (l.getD j default) e:=fun j hj=>YM hj
 unfold pV
 rw[hr i hi]
 congr 1
 rw[Bool.eq_iff_iff,uw (by rw[List.length_set]; exact hd),List.all_eq_true]
 have hlen:(fH l e).length=l.length:=pJ
 rw[hlen]
 constructor
 ·intro h j hj
  have:=h j (List.mem_range.2 hj)
  rw[hr j hj,Bool.or_eq_true] at this
  exact this.symm
 ·intro h j hj
  have hj:=List.mem_range.1 hj
  rw[hr j hj,Bool.or_eq_true]
  exact(h j hj).symm
theorem WC{l:List Clause}{d:List Bool}{i:Nat}{us:List Elem}(hd:l.length=d.length)(hi:i<l.length):wG l d i us=D8 (bK l (d.set i true)) (l.getD i default) us:=by
 unfold wG D8
 rw[show pV l d i=fun e=> !(holdsB (l.getD i default) e)&&cO (bK l (d.set i true)) e from funext fun e=>TU hd hi]
def gZ(l:List Clause)(us:List Elem):Nat->List Bool
 |0=>List.replicate l.length false
 |m+1=>(gZ l us m).set (l.length-1-m) (wG l (gZ l us m) (l.length-1-m) us)
theorem rD{l:List Clause}{us:List Elem}: ∀ m,(gZ l us m).length=l.length:=by
 intro m
 induction m with
 |zero=>simp[gZ]
 |succ m ih=>rw[gZ,List.length_set,ih]
theorem zW{l:List Clause}{us:List Elem}: ∀ {m j},j+m<l.length->(gZ l us m).getD j false=false:=by
 intro m
 induction m with
 |zero=>intro j h; rw[gZ,List.getD_eq_getElem?_getD,List.getElem?_replicate]; split<;>rfl
 |succ m ih=>intro j h; rw[gZ,List.getD_eq_getElem?_getD,List.getElem?_set_ne (by omega),<- List.getD_eq_getElem?_getD]; exact ih (by omega)
theorem KO{n vals vs:Nat}{l:List Clause}{us:List Elem}{b:Nat}(hk: ∀ k∈l,yG n vs k)(hb:CJ l+3<=b)(hus:us=eY b n vals){i:Nat}(hi:i<l.length){d:List Bool}(hd:l.length=d.length) :
  wG l d i us=true↔aaQ n vals (bK l (d.set i true)) (l.getD i default):=by
 subst hus
 rw[WC hd hi]
 have hmem: ∀ k∈bK l (d.set i true)++[l.getD i default],k∈l:=fun k q=>by
  rcases List.mem_append.1 q with q|q
  ·exact vY q
  ·rw[List.mem_singleton] at q; subst q; exact getM hi
 refine CG (fun k q=>hk k (hmem k q)) ?_
 have h1:=BD (l:=l); have h2:=BD (l:=bK l (d.set i true)++[l.getD i default])
 have h3:bF (bK l (d.set i true)++[l.getD i default])<=bF l:=WB nC fun k q=>zQ (hmem k q)
 omega
theorem Yp{n vals vs:Nat}{l:List Clause}{us:List Elem}{b:Nat}(hk: ∀ k∈l,yG n vs k)(hb:CJ l+3<=b)(hus:us=eY b n vals): ∀ {m},m<=l.length-> ∀ {B e},yx B n vals e->cO (bK l (gZ l us m)) e=true-> ∀ j,j<l.length->holdsB (l.getD j default) e=true:=by
 intro m
 induction m with
 |zero =>
  intro _ B e _ h j hj
  rw[uw (rD 0).symm] at h
  have:=h j hj
  rw[zW (by omega)] at this
  exact this.resolve_left (by decide)
 |succ m ih =>
  intro hm B e he h
  refine ih (by omega) he ?_
  have hi:l.length-1-m<l.length:=by omega
  have hd:=(rD (l:=l) (us:=us) m).symm
  rw[gZ] at h
  cases hE:wG l (gZ l us m) (l.length-1-m) us with
  |true =>
   rw[hE] at h
   have hc:=(KO hk hb hus hi hd).1 hE B e he h
   rw[uw (by rw[List.length_set]; exact hd)] at h
   rw[uw hd]
   intro j hj
   by_cases e0:j=l.length-1-m
   ·subst e0; exact .inr hc
   ·have:=h j hj
    rw[List.getD_eq_getElem?_getD,List.getElem?_set_ne (by omega),<- List.getD_eq_getElem?_getD] at this
    exact this
  |false =>
   rw[hE] at h
   have e1:(gZ l us m).set (l.length-1-m) false=gZ l us m:=by
    have:=vU (l:=gZ l us m) (i:=l.length-1-m)
    rw[zW (by omega)] at this; exact this
   rw[e1] at h; exact h
theorem Nr{l:List Clause}{us:List Elem}{m:Nat}{j:Nat}: ∀ {k},m+k<=l.length->(gZ l us m).getD j false=true->(gZ l us (m+k)).getD j false=true:=by
 intro k
 induction k with
 |zero=>intro _ h; exact h
 |succ k ih =>
  intro hk h
  have h1:=ih (by omega) h
  rw[show m+(k+1)=(m+k)+1 by omega,gZ]
  by_cases e0:j=l.length-1-(m+k)
  ·subst e0; rw[zW (by omega)] at h1; cases h1
  ·rw[List.getD_eq_getElem?_getD,List.getElem?_set_ne (by omega),<- List.getD_eq_getElem?_getD]; exact h1
theorem Vu{n vals vs:Nat}{l:List Clause}{us:List Elem}{b:Nat}(hk: ∀ k∈l,yG n vs k)(hb:CJ l+3<=b)(hus:us=eY b n vals){i:Nat}(hi:i<l.length)(h:(gZ l us l.length).getD i false=false): ¬ aaQ n vals (bK l ((gZ l us l.length).set i true)) (l.getD i default):=by
 have hm:l.length-1-i<l.length:=by omega
 have hii:l.length-1-(l.length-1-i)=i:=by omega
 have h1:(gZ l us (l.length-1-i+1)).getD i false=false:=by
  cases e:(gZ l us (l.length-1-i+1)).getD i false with
  |false=>rfl
  |true =>
   have:=Nr (k:=l.length-(l.length-1-i+1)) (by omega) e
   rw[show l.length-1-i+1+(l.length-(l.length-1-i+1))=l.length by omega,h] at this; cases this
 rw[gZ,hii,List.getD_eq_getElem?_getD,List.getElem?_set_self (by rw[rD]; exact hi)] at h1
 have h1:wG l (gZ l us (l.length-1-i)) i us=false:=h1
 intro hE
 have:wG l (gZ l us (l.length-1-i)) i us=true:=by
  refine(KO hk hb hus hi (rD _).symm).2 fun B e he hev=>hE B e he ?_
  rw[uw (by rw[List.length_set,rD])] at hev ⊢
  intro j hj
  by_cases e0:j=i
  ·subst e0; left; rw[List.getD_eq_getElem?_getD,List.getElem?_set_self (by rw[rD]; exact hj)]; rfl
  ·have:=hev j hj
   rw[List.getD_eq_getElem?_getD,List.getElem?_set_ne (Ne.symm e0),<- List.getD_eq_getElem?_getD] at this ⊢
   refine this.imp_left fun q=>?_
   have:=Nr (k:=l.length-(l.length-1-i)) (by omega) q
   rwa [show l.length-1-i+(l.length-(l.length-1-i))=l.length by omega] at this
 rw[h1] at this; cases this
def Bh(p:aU)(l:List Clause):List Clause:=bK l (gZ l (iU p l) l.length)
set_option maxHeartbeats 1000000 in
theorem S.kR(p:aU)(l:List Clause)(f:Bool)(hp:dh p)(g1:0<p.states.length)(g2:p.states.length<=6)(g3:p.values.length<=3)(hl:fB p.states.length p.values.length l):ak Tryz.prog 35 [.dat (.dF p),.row 4 f (.clauses l)] (.row 4 false (.clauses (Bh p l))):=by
 have hsm:=hl.small g2 g3
 have hk1:=hl.len
 have hrd:=fun m=>rD (l:=l) (us:=iU p l) m
 refine ak.of Bd.kR (by simp) rfl rfl ?_
 conv=>whnf
 refine ah.y7 hsm rfl ?_
 conv=>whnf
 obtain⟨rb,hrb,hrL⟩:=Em l.length
 rw[hrb]
 conv=>whnf
 repeat(refine VC.mk (by first|(omega)|(simp only[okI] at *; first|omega|(simp_all; done)|(simp_all; omega))) ?_; conv=>whnf)
 conv=>whnf
 have hi0:((l.length:Int)-1)=(l.length:Int)-1-((0:Nat):Int):=by omega
 refine aJ.yZ (ι:=Nat×List (Int×List Bool)) 100 [1,2,5,6] (fun x=>[(7,.int ((l.length:Int)-1-x.1))]) (fun x=>[(0,.box 27 11 (.dat (.dF p))),(3,yK l f 4),(4,xO x.2),(8,rowB (gZ l (iU p l) x.1))]) (fun x=>x.1<=l.length/\iL p.states.length l x.2) (fun x=>l.length-x.1) (0,[]) [0,3,4,8] rfl (by decide) (fun _=>rfl) ⟨Nat.zero_le _,iL.nil⟩ ?_ ?_ ?_
 ·exact⟨⟨_,rfl,.eq (congrArg T.int hi0.symm)⟩,trivial⟩
 ·refine⟨okF rfl nofun rfl rfl rfl ⟨rfl,rfl⟩ rfl,⟨rfl,nofun,rfl,rfl,_,rfl,rfl,rfl,bn.of_eq rfl⟩,okF rfl nofun rfl rfl rfl ⟨rfl,rfl⟩ rfl,okF rfl nofun rfl rfl rfl ⟨rfl,rfl⟩ ?_,trivial⟩
  show(Rw.bools (List.replicate l.length false)).aT++[]=rb.aT++[]
  rw[hrL]
 conv=>whnf
 refine⟨⟨⟨_,rfl,.eq rfl⟩,⟨_,rfl,.eq rfl⟩,⟨_,rfl,.eq rfl⟩,⟨_,rfl,.eq rfl⟩,trivial⟩,rfl,?_⟩
 rintro⟨m,em⟩ ⟨hm,hem⟩
 replace hm:m<=l.length:=hm
 conv=>whnf
 refine⟨fun h3=>?_,fun h3=>?_⟩
 ·have h3':(0:Int)<=(l.length:Int)-1-m:=of_decide_eq_true h3
  have hm':m<l.length:=by omega
  have hii:((l.length:Int)-1-m)=((l.length-1-m:Nat):Int):=by omega
  have hlow:(gZ l (iU p l) m).getD (l.length-1-m) false=false:=zW (by omega)
  conv=>whnf
  rw[hii]
  refine ah.entails (l:=l) (f:=f) (es:=em) (d:=gZ l (iU p l) m) (i:=l.length-1-m) hp g1 g2 g3 hl (hrd m) (by omega) hlow hem rfl rfl rfl rfl (by decide) (fun I4 rO=>?_)
  conv=>whnf
  repeat(refine VC.mk (by first|(simp only[Rw.rng,Int.toNat_natCast,hrd]; omega)|(simp only[okI] at *; first|omega|(simp_all; done)|(simp_all; omega))) ?_; conv=>whnf)
  refine⟨(m+1,I4),[0,3,4,8],⟨by show m+1<=_; omega,rO⟩,by show l.length-(m+1)<l.length-m; omega,⟨⟨_,rfl,.eq (congrArg T.int (show(l.length:Int)-1-((m+1:Nat):Int)=((l.length-1-m:Nat):Int)-1 by omega))⟩,trivial⟩,⟨⟨_,rfl,.eq rfl⟩,⟨_,rfl,.eq rfl⟩,⟨_,rfl,.eq rfl⟩,⟨_,rfl,.eq rfl⟩,trivial⟩,okF rfl nofun rfl rfl rfl ⟨rfl,rfl⟩ rfl,⟨rfl,nofun,rfl,rfl,_,rfl,rfl,rfl,bn.of_eq rfl⟩,okF rfl nofun rfl rfl rfl ⟨rfl,rfl⟩ rfl,okF rfl nofun rfl rfl rfl ⟨rfl,rfl⟩ rfl,trivial⟩
 ·have h3': ¬ ((0:Int)<=(l.length:Int)-1-m):=of_decide_eq_false h3
  have hm':m=l.length:=by omega
  subst hm'
  conv=>whnf
  have hK:=S.mP l (gZ l (iU p l) l.length) f false hsm (hrd _)
  refine ah.MC hK (And.intro (aB _) (And.intro (JG rfl rfl) trivial)) rfl ?_
  conv=>whnf
  exact au.eqv rfl
def su(p:aU)(l:List Clause):Int:=bif xB p !=0 then xB p else jg p l
def jX(p:aU)(l:List Clause):List Clause:=bif su p l==0 then Bh p l else []
def IQ(p:aU)(l:List Clause):V:=.fK [.row 4 false (.clauses (jX p l)),.int (su p l)]
theorem Df{p:aU}{l:List Clause}{k:Int}(he:su p l=k)(hk:(k !=0)=true):IQ p l= .fK [.row 4 false (.clauses []),.int k]:=by
 have:(k==0)=false:=by simpa using hk
 rw[IQ,jX,he,this]; rfl
theorem au.YR{k:Int}{h:Hz}:au (.fK [.row 4 false (.clauses []),.int k]) (.fK [.row 0 true .nil,.int k]) h:=⟨by
 show T.sub _ _ (.fK [.sl 4 false [],.int k]) (.fK [.sl 0 true [],.int k])
 simp[T.sub,T.dD]⟩
theorem S.kH(p:aU)(l:List Clause)(f:Bool)(hp:dh p)(hl:SmallK l):ak Tryz.prog 14 [.dat (.dF p),.row 4 f (.clauses l)] (IQ p l):=by
 refine ak.of Bd.kH (by simp) rfl rfl ?_
 conv=>whnf
 refine ah.pure (S.dX p hp) rfl ?_
 conv=>whnf
 refine⟨fun h1=>?_,fun h1=>?_⟩
 ·have he:su p l=xB p:=by rw[su,show(xB p !=0)=true from h1]; rfl
  rw[Df he h1]
  conv=>whnf
  exact au.YR
 conv=>whnf
 refine ah.lend (S.rE p l false f hp hl) ⟨aB _,JK trivial rfl rfl,trivial⟩ rfl rfl ?_
 conv=>whnf
 have he:su p l=jg p l:=by rw[su,show(xB p !=0)=false from h1]; rfl
 refine⟨fun h2=>?_,fun h2=>?_⟩
 ·rw[Df he h2]
  conv=>whnf
  exact au.YR
 obtain⟨hF,_⟩:=zV (xw h1)
 obtain⟨hR,Wi⟩:=y5 (xw h2)
 have hV:IQ p l= .fK [.row 4 false (.clauses (Bh p l)),.int 0]:=by
  rw[IQ,jX,he,xw h2]; rfl
 rw[hV]
 conv=>whnf
 refine ah.pure (S.kR p l f hp hF.pos hF.states hF.values hR) rfl ?_
 conv=>whnf
 conv=>whnf
 exact au.eqv rfl
def fU(l:List Clause)(i:Nat):List Clause:=l.take i++l.drop (i+1)
theorem S.rQ(l:List Clause)(i:Nat)(f:Bool)(hl:l.length<2^20)(hi:i<l.length):ak Tryz.prog 36 [.row 4 f (.clauses l),.int i] (.row 4 false (.clauses (fU l i))):=by
 refine ak.of Bd.rQ (by simp) rfl rfl ?_
 conv=>whnf
 refine .mk (by simp only[Rw.lg]; omega) ?_
 conv=>whnf
 refine .mk (by show(0+(l.take i).length)*72<=140737488355328/\0+(l.take i).length<=1152921504606846976; rw[List.length_take]; omega) ?_
 conv=>whnf
 repeat(refine VC.mk (by first|(simp only[okI]; omega)|(simp only[Rw.lg]; omega)|(show((l.take i).length+(l.drop (i+1)).length)*72<=140737488355328/\(l.take i).length+(l.drop (i+1)).length<=1152921504606846976; rw[List.length_take,List.length_drop]; omega)) ?_; conv=>whnf)
 exact au.YD rfl
theorem KP: ∀ {l:List Clause} {d:List Bool} {i:Nat},l.length=d.length->i<l.length->(∀ j,j<=i->d.getD j false=false) ->
  i<(bK l d).length/\(bK l d).getD i default=l.getD i default/\fU (bK l d) i=bK l (d.set i true):=by
 intro l
 induction l with
 |nil=>intro d i _ hi; cases hi
 |cons k l ih =>
  intro d i hd hi h
  cases d with
  |nil=>cases hd
  |cons b d =>
   have hb:b=false:=h 0 (by omega)
   subst hb
   cases i with
   |zero=>exact⟨by simp[bK],by simp[bK],by simp[bK,fU]⟩
   |succ i =>
    obtain⟨a1,a2,a3⟩:=@ih d i (by simpa using hd) (by simpa using hi) fun j hj=>by simpa using h (j+1) (by omega)
    refine⟨by simp[bK]; omega,?_,?_⟩
    ·show(k::bK l d).getD (i+1) default=_
     simp only[List.getD_cons_succ]; exact a2
    ·show k::fU (bK l d) i=k::bK l (d.set i true)
     rw[a3]
theorem fB.keep{n vals:Nat}{l:List Clause}(h:fB n vals l)(d:List Bool):fB n vals (bK l d) :=
 ⟨fun k hk=>h.cl k (vY hk),Nat.le_trans kept_len h.len⟩
theorem TV{p:aU}{l:List Clause}{m:Nat}(hR:fB p.states.length p.values.length l)(hm:m<l.length) :
  D8 (bK l ((gZ l (iU p l) m).set (l.length-1-m) true)) (l.getD (l.length-1-m) default) (iU p (bK l ((gZ l (iU p l) m).set (l.length-1-m) true)++[l.getD (l.length-1-m) default]))=wG l (gZ l (iU p l) m) (l.length-1-m) (iU p l):=by
 have hi:l.length-1-m<l.length:=by omega
 have h2:=KO (n:=p.states.length) (vals:=lQ p) (vs:=p.values.length) (us:=iU p l) (b:=CJ l+3) hR.cl (Nat.le_refl _) rfl hi (rD (us:=iU p l) m).symm
 rw[Bool.eq_iff_iff]
 refine Iff.trans ?_ h2.symm
 refine CG (vs:=p.values.length) (fun k q=>?_) (Nat.le_refl _)
 rcases List.mem_append.1 q with q|q
 ·exact hR.cl k (vY q)
 ·rw[List.mem_singleton] at q; subst q; exact hR.cl _ (getM hi)
set_option maxHeartbeats 1000000 in
theorem S.tZ(p:aU)(l:List Clause)(f:Bool)(hp:dh p)(hl:SmallK l):ak Tryz.prog 15 [.dat (.dF p),.row 4 f (.clauses l)] (IQ p l):=by
 have k1:=hl.len
 refine ak.of Bd.tZ (by simp) rfl rfl ?_
 conv=>whnf
 refine ah.pure (S.uo p hp) rfl ?_
 conv=>whnf
 refine⟨fun h1=>?_,fun h1=>?_⟩
 ·have he:su p l=xB p:=by rw[su,show(xB p !=0)=true from h1]; rfl
  rw[Df he h1]
  conv=>whnf
  exact au.YR
 conv=>whnf
 refine ah.pure (S.rJ p l f hp hl) rfl ?_
 conv=>whnf
 conv=>whnf
 have he:su p l=jg p l:=by rw[su,show(xB p !=0)=false from h1]; rfl
 refine⟨fun h2=>?_,fun h2=>?_⟩
 ·rw[Df he h2]
  conv=>whnf
  exact au.YR
 obtain⟨hF,_⟩:=zV (xw h1)
 obtain⟨hR,Wi⟩:=y5 (xw h2)
 have g1:=hF.pos; have g2:=hF.states; have g3:=hF.values
 have hV:IQ p l= .fK [.row 4 false (.clauses (Bh p l)),.int 0]:=by
  rw[IQ,jX,he,xw h2]; rfl
 rw[hV]
 conv=>whnf
 refine .mk (by show(0+l.length)*72<=140737488355328/\0+l.length<=1152921504606846976; omega) ?_
 conv=>whnf
 refine .mk (by simp only[okI] at *; first|omega|(simp_all; done)|(simp_all; omega)) ?_
 conv=>whnf
 refine aJ.fz 7 16 4 (.clauses l) rfl rfl (QM rfl rfl) ?_
 have hi0:((l.length:Int)-1)=(l.length:Int)-1-((0:Nat):Int):=by omega
 have hk0:bK l (gZ l (iU p l) 0)=l:=by
  rw[gZ]
  have: ∀ l:List Clause,bK l (List.replicate l.length false)=l:=fun l=>by
   induction l with
   |nil=>rfl
   |cons k l ih=>show k::bK l (List.replicate l.length false)=_; rw[ih]
  exact this l
 refine aJ.same [2] (fun m:Nat=>[(7,.row 4 false (.clauses (bK l (gZ l (iU p l) m)))),(8,.int ((l.length:Int)-1-m))]) (fun m=>m<=l.length) (fun m=>l.length-m) 0 rfl (by decide) rfl (fun _=>rfl) (Nat.zero_le _) ⟨⟨_,rfl,by rw[hk0]⟩,⟨_,rfl,congrArg T.int hi0.symm⟩,trivial⟩ ?_
 conv=>whnf
 refine⟨rfl,?_⟩
 rintro m hm
 conv=>whnf
 refine⟨fun h3=>?_,fun h3=>?_⟩
 ·have h3':(0:Int)<=(l.length:Int)-1-m:=of_decide_eq_true h3
  have hm':m<l.length:=by omega
  have hii:((l.length:Int)-1-m)=((l.length-1-m:Nat):Int):=by omega
  have hi:l.length-1-m<l.length:=by omega
  have hlow:(gZ l (iU p l) m).getD (l.length-1-m) false=false:=zW (by omega)
  obtain⟨b1,b2,b3⟩:=KP (rD (us:=iU p l) m).symm hi fun j hj=>zW (by omega)
  have hkl:=kept_len (l:=l) (d:=gZ l (iU p l) m)
  have hstep:=TV hR hm'
  have hRk:=hR.keep ((gZ l (iU p l) m).set (l.length-1-m) true)
  have hRc:fB p.states.length p.values.length [l.getD (l.length-1-m) default]:=⟨fun k q=>by rw[List.mem_singleton] at q; subst q; exact hR.cl _ (getM hi),by simp⟩
  have hkl2:=kept_len (l:=l) (d:=(gZ l (iU p l) m).set (l.length-1-m) true)
  conv=>whnf
  rw[hii]
  refine ah.pure (S.rQ (bK l (gZ l (iU p l) m)) (l.length-1-m) false (by omega) b1) rfl ?_
  conv=>whnf
  refine .mk (by simp only[Rw.rng] at *; first|omega|(simp_all; done)|(simp_all; omega)) ?_
  conv=>whnf
  rw[b3]
  conv=>whnf
  rw[show(bK l (gZ l (iU p l) m)).getD ((l.length-1-m:Nat):Int).toNat default=l.getD (l.length-1-m) default from b2]
  refine ah.pure (S.rP p (bK l ((gZ l (iU p l) m).set (l.length-1-m) true)) (l.getD (l.length-1-m) default) false hp g1 g2 g3 hRk hRc (by omega)) rfl ?_
  conv=>whnf
  rw[hstep]
  have hint:(l.length:Int)-1-((m+1:Nat):Int)=((l.length-1-m:Nat):Int)-1:=by omega
  refine⟨fun h4=>?_,fun h4=>?_⟩
  ·have e1:gZ l (iU p l) (m+1)=(gZ l (iU p l) m).set (l.length-1-m) true:=by rw[gZ,show wG l (gZ l (iU p l) m) (l.length-1-m) (iU p l)=true from h4]
   conv=>whnf
   refine .mk (by simp only[okI] at *; first|omega|(simp_all; done)|(simp_all; omega)) ?_
   conv=>whnf
   refine⟨m+1,by omega,by omega,⟨⟨_,rfl,congrArg (fun d=>(V.row 4 false (.clauses (bK l d))).aG) e1⟩,⟨_,rfl,congrArg T.int hint⟩,trivial⟩,?_,rfl⟩
   repeat' (first|exact trivial|exact⟨_,rfl,rfl⟩|constructor)
  ·have e1:gZ l (iU p l) (m+1)=gZ l (iU p l) m:=by
    rw[gZ,show wG l (gZ l (iU p l) m) (l.length-1-m) (iU p l)=false from h4]
    have:=vU (l:=gZ l (iU p l) m) (i:=l.length-1-m)
    rw[hlow] at this; exact this
   conv=>whnf
   refine .mk (by simp only[okI] at *; first|omega|(simp_all; done)|(simp_all; omega)) ?_
   conv=>whnf
   refine⟨m+1,by omega,by omega,⟨⟨_,rfl,congrArg (fun d=>(V.row 4 false (.clauses (bK l d))).aG) e1⟩,⟨_,rfl,congrArg T.int hint⟩,trivial⟩,?_,rfl⟩
   repeat' (first|exact trivial|exact⟨_,rfl,rfl⟩|constructor)
 ·have h3': ¬ ((0:Int)<=(l.length:Int)-1-m):=of_decide_eq_false h3
  have hm':m=l.length:=by omega
  subst hm'
  conv=>whnf
  exact au.eqv rfl
end Go.Proofs.YtbfhebmdcpmfaaaGreatDoor
