/-
 A part of the proof. No condition.
-/
import Derived.Test.YtbfhebmdcpmfaaaGreatDoorIc
import Derived.Test.YtbfhebmdcpmfaaaGreatDoorIf
import Derived.Test.YtbfhebmdcpmfaaaGreatDoorId
namespace Go.Proofs.YtbfhebmdcpmfaaaGreatDoor
open Go.Ab Go.Proofs
set_option maxRecDepth 100000
abbrev hE(l:List Clause)(f:Bool)(es:List (Int×List Bool))(d:List Bool):Hz:=[(0,some (yw l f 1)),(1,some (xW es)),(2,some (rowB d))]
theorem iC.ofE{l:List Clause}{f:Bool}{es':List (Int×List Bool)}{d':List Bool}{h0 h:Hz}{n:Nat}{v u:V}{post:T->Hp->Prop}(Z:Nat->Prop)(q0:(h0.aj 0).isSome=true)(q1:(h0.aj 1).isSome=true)(q2:(h0.aj 2).isSome=true)(F:Dj Z h (hE l f es' d'))(hu:u.free=true)(hv:T.sub Z h.aj u.aG v.aG)(hp:post u.aG (hE l f es' d').aj):iC h0 n post v h:=by
 refine iC.NY (h2:=hE l f es' d') (u:=u) Z F ?_ hu hv hp
 intro i o ho
 have hG:=ku (show qU 3 (hE l f es' d')=true from rfl) i o.aF (aH ho)
 have hsome: ∀ i,i<3->(h0.aj i).isSome=true:=fun i hi=>by
  match i,hi with
  |0,_=>exact q0
  |1,_=>exact q1
  |2,_=>exact q2
  |k+3,hk=>exact absurd hk (by omega)
 exact⟨hsome i hG.1,T.ay (fun i hi=>hsome i hi) _ hG.2.1,hG.2.2⟩
def rU(l:List Clause)(d:List Bool)(i:Nat)(e:Elem):Bool:= !((fP l e).getD i false)&&(List.range (fP l e).length).all fun j=>(fP l e).getD j false||(d.set i true).getD j false
def Ic(l:List Clause)(d:List Bool)(i:Nat)(es:List Elem):Bool:= !(es.any (rU l d i))
set_option maxHeartbeats 2000000 in
theorem S.Ie(p:aW)(l:List Clause)(f:Bool)(es:List (Int×List Bool))(d:List Bool)(i:Nat)(hp:dD p)(hn0:0<p.states.length)(zH:p.states.length<=6)(hvs:p.values.length<=3)(hl:ig p.states.length p.values.length l)(hd:d.length=l.length)(hi:i<l.length)(hdi:d.getD i false=false)(hg:iR p.states.length l es) :
  aK Tryz.prog 31 (V.aT [.ptr 0 0 0,.dat (.dJ p),.own 2,.int i]) (Hz.aj (hE l f es d)) 3 (fun t hp=> ∃ es',iR p.states.length l es'/\t=(V.bool (Ic l d i (fH (Hy l+3) p.states.length (lK p)))).aG/\hp=Hz.aj (hE l f es' d)):=by
 have hsm:=hl.small zH hvs
 have mY:lK p<=3:=by unfold lK; omega
 have hrk:=JU (l:=l)
 have XA:bJ l<=3:=qh fun k hk=>(hl.cl k hk).two
 have OH:Hy l+3<=9:=by omega
 have hsl:=hl.len
 have hRk:=qL (l:=l)
 have hU:ak Tryz.prog 52 [.dat (.dJ p),.int (bJ l+2)] (.row 3 false (.elems (fH (Hy l+3) p.states.length (lK p)))):=by
  have:=S.dY p p.states.length (lK p) (Hy l+2) hp rfl hn0 zH rfl mY (by omega)
  rw[hrk]; exact this
 have LU:(fH (Hy l+3) p.states.length (lK p)).length<=3*531441:=by
  rw[oN]
  have:=oU (b:=Hy l+3) (n:=p.states.length) (by omega) zH
  exact Nat.mul_le_mul mY (by omega)
 have hok:=y8 (b:=Hy l+3) (n:=p.states.length) (vals:=lK p) (by omega)
 generalize fH (Hy l+3) p.states.length (lK p)=us at hU LU hok ⊢
 have hback:(d.set i true).set i false=d:=by
  rw[List.set_set]
  have:=Ib (l:=d) (i:=i)
  rw[hdi] at this; exact this
 refine oV.ofD (nx:=3) (h0:=hE l f es d) Bd.vk Tryz.call51 (by simp) ⟨_,_,es,hg,rfl,rfl⟩ rfl rfl ?_
 conv=>whnf
 repeat(refine VC.mk (by first|(simp only[Rw.rng,Int.toNat_natCast]; omega)|(simp only[okI] at *; first|omega|(simp_all; done)|(simp_all; omega))) ?_; conv=>whnf)
 refine ah.pure (hU) rfl ?_
 conv=>whnf
 have hml:(d.set i true).length=l.length:=by rw[List.length_set,hd]
 refine aP.Eo (ι:=Nat×List (Int×List Bool)) 100 [0,6,7,22,23] (fun x=>[(24,.int x.1)]) (fun x=>[(0,yw l f 1),(1,xW x.2),(2,rowB (d.set i true)),(4,.box 67 0 (.own 2)),(5,.box 3 0 (.int i))]) (fun x=>x.1<=us.length/\iR p.states.length l x.2/\(us.take x.1).any (rU l d i)=false) (fun x=>us.length-x.1) (0,es) [0,1,2,4,5] rfl (by decide) (fun _=>rfl) ⟨Nat.zero_le _,hg,rfl⟩ ?_ ?_ ?_
 ·exact⟨⟨_,rfl,.eq rfl⟩,trivial⟩
 ·refine⟨⟨rfl,(fun _=>rfl),rfl,rfl,_,rfl,rfl,rfl,bg.of_eq rfl⟩,okF rfl (fun _=>rfl) rfl rfl rfl ⟨rfl,rfl⟩ rfl,okF rfl (fun _=>rfl) rfl rfl rfl ⟨rfl,rfl⟩ rfl,⟨rfl,(fun _=>rfl),rfl,rfl,_,rfl,rfl,rfl,bg.of_eq rfl⟩,okF rfl (fun _=>rfl) rfl rfl rfl ⟨rfl,rfl⟩ rfl,trivial⟩
 conv=>whnf
 refine⟨⟨⟨_,rfl,.eq rfl⟩,⟨_,rfl,.eq rfl⟩,⟨_,rfl,.eq rfl⟩,⟨_,rfl,.eq rfl⟩,⟨_,rfl,.eq rfl⟩,trivial⟩,rfl,?_⟩
 rintro⟨k,em⟩ ⟨hk,hem,hany⟩
 conv=>whnf
 refine⟨fun h3=>?_,fun h3=>?_⟩
 ·have hk':k<us.length:=by simpa using h3
  have hue:=hok _ (getM (d:=default) hk')
  have hte:=hl.at hue OH mY hn0 zH
  have zI:(us.getD k default).counts.length=p.states.length:=hue.len
  conv=>whnf
  refine .mk (by simp only[Rw.rng] at *; first|omega|(simp_all; done)|(simp_all; omega)) ?_
  conv=>whnf
  refine ah.row hsm hte (show iR (us.getD k default).counts.length l em by rw[zI]; exact hem) rfl rfl (by decide) rfl (by decide) (by decide) (fun JR rX=>?_)
  replace rX:iR (us.getD k default).counts.length l JR:=rX
  rw[zI] at rX
  have hrl:(fP l (us.getD k default)).length=l.length:=qM
  have hnext:(us.take (k+1)).any (rU l d i)=rU l d i (us.getD k default):=by
   rw[List.take_add_one,List.any_append,hany]
   have:us[k]? =some (us.getD k default):=by rw[List.getElem?_eq_getElem hk']; simp[hk']
   rw[this]; simp
  conv=>whnf
  repeat(refine VC.mk (by first|(show 0<=(i:Int)/\(i:Int)<(fP l (us.getD k default)).length; rw[hrl]; omega)|exact fun h=>⟨h,h⟩) ?_; conv=>whnf)
  show ah Tryz.prog false (some (!(fP l (us.getD k default)).getD i false)) _ _ _ _ _ _
  cases hr:(fP l (us.getD k default)).getD i false with
  |true =>
   have hnx:(us.take (k+1)).any (rU l d i)=false:=by rw[hnext,rU,hr]; rfl
   refine ah.U6 (.bool true) rfl ?_
   conv=>whnf
   refine VC.mk id ?_
   conv=>whnf
   refine Fork.mk (fun q=>absurd (q.symm.trans (show(!(fP l (us.getD k default)).getD i false&&true)=false by rw[hr]; rfl)).symm Bool.false_ne_true) (fun _=>?_)
   conv=>whnf
   refine .mk (by simp only[okI] at *; first|omega|(simp_all; done)|(simp_all; omega)) ?_
   conv=>whnf
   refine⟨(k+1,JR),[0,1,2,4,5],⟨by show k+1<=_; omega,rX,hnx⟩,by show us.length-(k+1)<us.length-k; omega,⟨⟨_,rfl,.eq rfl⟩,trivial⟩,⟨⟨_,rfl,.eq rfl⟩,⟨_,rfl,.eq rfl⟩,⟨_,rfl,.eq rfl⟩,⟨_,rfl,.eq rfl⟩,⟨_,rfl,.eq rfl⟩,trivial⟩,⟨rfl,(fun _=>rfl),rfl,rfl,_,rfl,rfl,rfl,bg.of_eq rfl⟩,okF rfl (fun _=>rfl) rfl rfl rfl ⟨rfl,rfl⟩ rfl,okF rfl (fun _=>rfl) rfl rfl rfl ⟨rfl,rfl⟩ rfl,⟨rfl,(fun _=>rfl),rfl,rfl,_,rfl,rfl,rfl,bg.of_eq rfl⟩,okF rfl (fun _=>rfl) rfl rfl rfl ⟨rfl,rfl⟩ rfl,trivial⟩
  |false =>
   have hf:rU l d i (us.getD k default)=(List.range (fP l (us.getD k default)).length).all fun j=>(fP l (us.getD k default)).getD j false||(d.set i true).getD j false:=by rw[rU,hr]; rfl
   refine ah.on (ah.lend (S.Gi (fP l (us.getD k default)) (d.set i true) false false (by rw[hrl]; omega) (by rw[hrl,hml]; omega)) ⟨aC _,LK trivial rfl,trivial⟩ rfl rfl ?_)
   rw[<- hf]
   conv=>whnf
   refine VC.mk id ?_
   conv=>whnf
   refine⟨fun h4=>?_,fun h4=>?_⟩
   ·have h4':rU l d i (us.getD k default)=true:=by
     have h4:(!(fP l (us.getD k default)).getD i false&&rU l d i (us.getD k default))=true:=h4
     rw[hr] at h4; exact h4
    have hQ:Ic l d i us=false:=by
     rw[Ic,<- List.take_append_drop (k+1) us,List.any_append,hnext,h4']; rfl
    rw[hQ]
    conv=>whnf
    refine Sr.walk Bd.fG (by simp) rfl rfl rfl ?_
    conv=>whnf
    repeat(refine VC.mk (by simp only[Rw.rng,Int.toNat_natCast,List.length_set]; omega) ?_; conv=>whnf)
    refine iC.ofE (l:=l) (f:=f) (es':=JR) (d':=d) (u:=.gQ []) (fun _=>False) rfl rfl rfl ⟨bn (Z:=fun _=>False) rfl (fun q=>q),bn (Z:=fun _=>False) rfl (fun q=>q),bn (Z:=fun _=>False) (show some (rowB ((d.set i true).set i false))=some (rowB d) by rw[hback]) (fun q=>q),trivial⟩ rfl (aC _) ⟨hE l f JR d,rfl,?_⟩
    conv=>whnf
    exact iC.ofE (l:=l) (f:=f) (es':=JR) (d':=d) (u:=.bool false) (fun _=>False) rfl rfl rfl ⟨bn (Z:=fun _=>False) rfl (fun q=>q),bn (Z:=fun _=>False) rfl (fun q=>q),bn (Z:=fun _=>False) rfl (fun q=>q),trivial⟩ rfl (aC _) ⟨JR,rX,rfl,rfl⟩
   ·have h4':rU l d i (us.getD k default)=false:=by
     have h4:(!(fP l (us.getD k default)).getD i false&&rU l d i (us.getD k default))=false:=h4
     rw[hr] at h4; exact h4
    have hnx:(us.take (k+1)).any (rU l d i)=false:=by rw[hnext,h4']
    conv=>whnf
    refine .mk (by simp only[okI] at *; first|omega|(simp_all; done)|(simp_all; omega)) ?_
    conv=>whnf
    refine⟨(k+1,JR),[0,1,2,4,5],⟨by show k+1<=_; omega,rX,hnx⟩,by show us.length-(k+1)<us.length-k; omega,⟨⟨_,rfl,.eq rfl⟩,trivial⟩,⟨⟨_,rfl,.eq rfl⟩,⟨_,rfl,.eq rfl⟩,⟨_,rfl,.eq rfl⟩,⟨_,rfl,.eq rfl⟩,⟨_,rfl,.eq rfl⟩,trivial⟩,⟨rfl,(fun _=>rfl),rfl,rfl,_,rfl,rfl,rfl,bg.of_eq rfl⟩,okF rfl (fun _=>rfl) rfl rfl rfl ⟨rfl,rfl⟩ rfl,okF rfl (fun _=>rfl) rfl rfl rfl ⟨rfl,rfl⟩ rfl,⟨rfl,(fun _=>rfl),rfl,rfl,_,rfl,rfl,rfl,bg.of_eq rfl⟩,okF rfl (fun _=>rfl) rfl rfl rfl ⟨rfl,rfl⟩ rfl,trivial⟩
 ·have hk':k=us.length:=by have: ¬ ((k:Int)<(us.length:Int)):=of_decide_eq_false h3; omega
  subst hk'
  rw[List.take_length] at hany
  have hQ:Ic l d i us=true:=by rw[Ic,hany]; rfl
  rw[hQ]
  conv=>whnf
  refine Sr.walk Bd.fG (by simp) rfl rfl rfl ?_
  conv=>whnf
  repeat(refine VC.mk (by simp only[Rw.rng,Int.toNat_natCast,List.length_set]; omega) ?_; conv=>whnf)
  refine iC.ofE (l:=l) (f:=f) (es':=em) (d':=d) (u:=.gQ []) (fun _=>False) rfl rfl rfl ⟨bn (Z:=fun _=>False) rfl (fun q=>q),bn (Z:=fun _=>False) rfl (fun q=>q),bn (Z:=fun _=>False) (show some (rowB ((d.set i true).set i false))=some (rowB d) by rw[hback]) (fun q=>q),trivial⟩ rfl (aC _) ⟨hE l f em d,rfl,?_⟩
  conv=>whnf
  exact iC.ofE (l:=l) (f:=f) (es':=em) (d':=d) (u:=.bool true) (fun _=>False) rfl rfl rfl ⟨bn (Z:=fun _=>False) rfl (fun q=>q),bn (Z:=fun _=>False) rfl (fun q=>q),bn (Z:=fun _=>False) rfl (fun q=>q),trivial⟩ rfl (aC _) ⟨em,hem,rfl,rfl⟩
theorem Uw{h:Hz}{j:Nat}{c:Clause}{Z:Nat->Prop}(hz:Z j)(q:h.get j=some (.row 36 4 .nil [.dat (.clause c)])):T.sub Z h.aj (V.row 4 false (.clauses [c])).aG (V.own j).aG:=by
 show T.sub Z h.aj (.sl 4 false ([c].map nK)) (.own j)
 simp only[T.sub]
 refine⟨trivial,hz,BM [c],by decide,36,?_⟩
 have:=aH q; simpa [OV.aF,Rw.aT,V.aT,V.aG,Dat.aG] using this
def kT(p:aW)(l:List Clause)(c:Clause):Int:=bif yc p !=0 then yc p else bif jZ p l !=0 then jZ p l else uD p c
def OJ(l:List Clause)(c:Clause)(us:List Elem):Bool:= !(us.any fun e=> !(holdsB c e)&&eP l e)
def Ig(p:aW)(l:List Clause):List Elem:=fH (Hy l+3) p.states.length (lK p)
def yx(p:aW)(l:List Clause)(c:Clause):Bool:=kT p l c==0&&OJ l c (Ig p (l++[c]))
def zD(p:aW)(l:List Clause)(c:Clause):V:=.gQ [.bool (yx p l c),.int (kT p l c)]
theorem Sv{l:List Clause}{c:Clause}{e:Elem}:rU (l++[c]) (List.replicate (l++[c]).length false) l.length e=(!(holdsB c e)&&eP l e):=by
 have h0:(fP (l++[c]) e).getD l.length false=holdsB c e:=by simp[fP]
 unfold rU
 rw[h0]
 congr 1
 rw[Bool.eq_iff_iff,eP,List.all_eq_true,List.all_eq_true]
 have hlen:(fP (l++[c]) e).length=l.length+1:=by simp[fP]
 rw[hlen]
 constructor
 ·intro h k hk
  obtain⟨i,hi,rfl⟩:=List.getElem_of_mem hk
  have:=h i (List.mem_range.2 (by omega))
  have h1:(fP (l++[c]) e).getD i false=holdsB l[i] e:=by
   simp only[fP,List.map_append,List.getD_eq_getElem?_getD]
   rw[List.getElem?_append_left (by simpa using hi)]; simp[hi]
  have h2:((List.replicate (l++[c]).length false).set l.length true).getD i false=false:=by
   rw[List.getD_eq_getElem?_getD,List.getElem?_set_ne (by omega)]; simp[List.getElem?_replicate]; split<;>rfl
  rw[h1,h2,Bool.or_false] at this
  exact this
 ·intro h i hi
  have hi:=List.mem_range.1 hi
  by_cases e0:i=l.length
  ·subst e0
   have h2:((List.replicate (l++[c]).length false).set l.length true).getD l.length false=true:=by
    rw[List.getD_eq_getElem?_getD,List.getElem?_set_self (by simp)]; rfl
   rw[h2,Bool.or_true]
  ·have hi':i<l.length:=by omega
   have h1:(fP (l++[c]) e).getD i false=holdsB l[i] e:=by
    simp only[fP,List.map_append,List.getD_eq_getElem?_getD]
    rw[List.getElem?_append_left (by simpa using hi')]; simp[hi']
   rw[h1,h l[i] (List.getElem_mem hi'),Bool.true_or]
theorem Vj{l:List Clause}{c:Clause}{us:List Elem}:Ic (l++[c]) (List.replicate (l++[c]).length false) l.length us=OJ l c us:=by
 unfold Ic OJ
 rw[show rU (l++[c]) (List.replicate (l++[c]).length false) l.length=fun e=> !(holdsB c e)&&eP l e from funext fun e=>Sv]
theorem vO{p:aW}{l:List Clause}{c:Clause}{k:Int}(he:kT p l c=k)(hk:(k !=0)=true):zD p l c= .gQ [.bool false,.int k]:=by
 have:(k==0)=false:=by simpa using hk
 rw[zD,yx,he,this]; rfl
theorem ah.entails{p:aW}{l:List Clause}{f:Bool}{es:List (Int×List Bool)}{d:List Bool}{i:Nat}{h:Hz}{a b c n:Nat}{K:V->Hz->Prop}{KW:Nat->V->Hz->Prop}(hp:dD p)(hn0:0<p.states.length)(zH:p.states.length<=6)(hvs:p.values.length<=3)(hl:ig p.states.length p.values.length l)(hd:d.length=l.length)(hi:i<l.length)(hdi:d.getD i false=false)(hg:iR p.states.length l es)
  (ha:h.get a=some (yw l f b)) (hb:h.get b=some (xW es)) (hc:h.get c=some (rowB d)) (hn:h.get n=none) (nd:([a,b,c]++[n]).Nodup)
  (hK: ∀ es',iR p.states.length l es'->K (.bool (Ic l d i (Ig p l))) ((a,some (yw l f b))::(b,some (xW es'))::(c,some (rowB d))::(n,none)::h)):ah Tryz.prog false none 31 [.ptr a 0 0,.dat (.dJ p),.own c,.int i] h n K KW:=by
 refine ah.ZJ (pre:=hE l f es d) [a,b,c] (S.Ie p l f es d i hp hn0 zH hvs hl hd hi hdi hg) rfl ?_ rfl rfl rfl ⟨⟨_,ha,rfl⟩,⟨_,hb,kF rfl _⟩,⟨_,hc,?_⟩,trivial⟩ hn nd ?_
 ·rfl
 ·exact kF rfl _
 ·rintro t hp ⟨es',hg',rfl,rfl⟩
  exact⟨.bool (Ic l d i (Ig p l)),[some (yw l f b),some (xW es'),some (rowB d),none],rfl,rfl,⟨rfl,congrArg some (kF rfl _).symm,congrArg some (kF rfl _).symm,rfl,trivial⟩,hK es' hg'⟩
set_option maxHeartbeats 1000000 in
theorem S.jH(p:aW)(l:List Clause)(c:Clause)(f:Bool)(hp:dD p)(hl:SmallK l)(hc:rD c):ak Tryz.prog 12 [.dat (.dJ p),.row 4 f (.clauses l),.dat (.clause c)] (zD p l c):=by
 refine ak.of Bd.jH (by simp) rfl rfl ?_
 conv=>whnf
 refine ah.pure (S.eU p hp) rfl ?_
 conv=>whnf
 refine⟨fun h1=>?_,fun h1=>?_⟩
 ·have he:kT p l c=yc p:=by rw[kT,show(yc p !=0)=true from h1]; rfl
  conv=>whnf
  exact au.eqv (congrArg V.aG (vO he h1))
 conv=>whnf
 refine ah.lend (S.vg p l false f hp hl) ⟨aC _,LW trivial rfl rfl,trivial⟩ rfl rfl ?_
 conv=>whnf
 refine⟨fun h2=>?_,fun h2=>?_⟩
 ·have he:kT p l c=jZ p l:=by rw[kT,show(yc p !=0)=false from h1,show(jZ p l !=0)=true from h2]; rfl
  conv=>whnf
  exact au.eqv (congrArg V.aG (vO he h2))
 conv=>whnf
 refine ah.pure (S.bW p c hp hc) rfl ?_
 conv=>whnf
 refine⟨fun h3=>?_,fun h3=>?_⟩
 ·have he:kT p l c=uD p c:=by rw[kT,show(yc p !=0)=false from h1,show(jZ p l !=0)=false from h2]; rfl
  conv=>whnf
  exact au.eqv (congrArg V.aG (vO he h3))
 obtain⟨hF,_⟩:=BO (xI h1)
 obtain⟨hR,YS⟩:=Ar (xI h2)
 have hC:=U4 (xI h3)
 have g1:=hF.pos; have g2:=hF.states; have g3:=hF.values
 have hR2:ig p.states.length p.values.length (l++[c]):=hR.app ⟨fun k hk=>by rw[List.mem_singleton] at hk; subst hk; exact hC,by simp⟩ (by simp; omega)
 have hsm:=hR2.small g2 g3
 have hll:(l++[c]).length=l.length+1:=by simp
 have he:kT p l c=0:=by rw[kT,show(yc p !=0)=false from h1,show(jZ p l !=0)=false from h2]; exact xI h3
 have hV:zD p l c= .gQ [.bool (Ic (l++[c]) (List.replicate (l++[c]).length false) l.length (Ig p (l++[c]))),.int 0]:=by
  rw[zD,yx,he,Vj]; rfl
 rw[hV]
 conv=>whnf
 refine ah.P6 (S.gW l [c] f false (by omega) (by simp)) (And.intro (aC _) (And.intro (Uw rfl rfl) trivial)) rfl ?_
 conv=>whnf
 refine ah.BN hsm rfl ?_
 conv=>whnf
 rw[show(bif isZero (V.int ((l++[c]).length:Nat)) then some Rw.nil else Q7 (((l++[c]).length:Nat):Int).toNat (T.bool false))=some (Rw.bools (List.replicate (l++[c]).length false)) from by rw[hll]; rfl]
 conv=>whnf
 refine .mk (by omega) ?_
 conv=>whnf
 refine ah.entails (p:=p) (l:=l++[c]) (f:=false) (es:=[]) (d:=List.replicate (l++[c]).length false) (i:=l.length) hp g1 g2 g3 hR2 (List.length_replicate ..) (by omega) (by simp[]) iR.nil rfl rfl rfl rfl (by decide) (fun es' _=>?_)
 conv=>whnf
 exact au.eqv rfl
set_option maxHeartbeats 1000000 in
theorem S.qV(p:aW)(l:List Clause)(c:Clause)(f:Bool)(hp:dD p)(g1:0<p.states.length)(g2:p.states.length<=6)(g3:p.values.length<=3)(hl:ig p.states.length p.values.length l)(hc:ig p.states.length p.values.length [c])(hl9:l.length<=900):ak Tryz.prog 34 [.dat (.dJ p),.row 4 f (.clauses l),.dat (.clause c)] (.bool (OJ l c (Ig p (l++[c])))):=by
 have hR2:ig p.states.length p.values.length (l++[c]):=hl.app hc (by simp; omega)
 have hrk:=JU (l:=l++[c])
 have XA:bJ (l++[c])<=3:=qh fun k hk=>(hR2.cl k hk).two
 have hE:ak Tryz.prog 56 [.dat (.dJ p),.int (max (bJ l) (bJ [c])+2)] (.row 3 false (.elems (Ig p (l++[c])))):=by
  have:=S.vM p p.states.length (lK p) (Hy (l++[c])+2) hp rfl g1 g2 rfl (by unfold lK; omega) (by omega)
  rw[<- LG,hrk]; exact this
 have OH:Hy (l++[c])+3<=9:=by omega
 have hok: ∀ e∈Ig p (l++[c]),En (Hy (l++[c])+3) p.states.length (lK p) e:=y8 (by omega)
 have hul:(Ig p (l++[c])).length<=3*531441:=by
  show(fH _ _ _).length<=_
  have:=oU (b:=Hy (l++[c])+3) (n:=p.states.length) OH g2
  rw[oN]; exact Nat.mul_le_mul (by unfold lK; omega) (by omega)
 have hr1:=qL (l:=l); have hr2:=qL (l:=[c])
 have hra:=LG (l:=l) (a:=[c])
 generalize Ig p (l++[c])=es at hE hok hul ⊢
 refine ak.of Bd.qV (by simp) rfl rfl ?_
 conv=>whnf
 refine ah.pure (S.vJ l f (hl.small g2 g3)) rfl ?_
 conv=>whnf
 refine ah.pure (S.vJ [c] true (hc.small g2 g3)) rfl ?_
 conv=>whnf
 refine .mk (by simp only[okI] at *; first|omega|(simp_all; done)|(simp_all; omega)) ?_
 conv=>whnf
 conv=>whnf
 refine ah.pure (hE) rfl ?_
 conv=>whnf
 refine aP.same [1,5,7] (fun j:Nat=>[(8,.int j)]) (fun j=>j<=es.length/\(es.take j).any (fun e=> !(holdsB c e)&&eP l e)=false) (fun j=>es.length-j) 0 rfl (by decide) rfl (fun _=>rfl) ⟨by omega,by simp⟩ ⟨⟨_,rfl,rfl⟩,trivial⟩ ?_
 conv=>whnf
 refine⟨rfl,?_⟩
 rintro j ⟨hj,hany⟩
 conv=>whnf
 refine⟨fun h4=>?_,fun h4=>?_⟩
 ·have hj':j<es.length:=by simpa using h4
  have hue:=hok _ (getM (d:=default) hj')
  have e1:=hue.len; have e2:=hue.Ag OH
  obtain⟨hf,hkv⟩:=hc.fit e1 e2 g2 g3 (i:=0) (by simp)
  have hf:Rx c (es.getD j default):=hf
  have href:JI c (es.getD j default)=holdsB c (es.getD j default):=hf.cl.elim fun _ q=>Qd q fun x hx=>(hf.ok x hx).1
  conv=>whnf
  refine .mk (by simp only[Rw.rng] at *; first|omega|(simp_all; done)|(simp_all; omega)) ?_
  conv=>whnf
  refine ah.pure (S.sF c (es.getD j default) hf hkv) rfl ?_
  conv=>whnf
  repeat(refine VC.mk (by first|exact id|exact fun h=>⟨h,h⟩|(intro h; (repeat' apply And.intro)<;>first|exact h|omega|(simp only[Rw.lT]; omega)|(simp only[Rw.rng]; omega))) ?_; conv=>whnf)
  rw[href]
  refine ah.fJ (fun _=>S.vK l (es.getD j default) f (by omega) (fun i hi=>hl.fit e1 e2 g2 g3 hi)) rfl ?_
  conv=>whnf
  refine VC.mk id ?_
  conv=>whnf
  refine⟨fun h5=>?_,fun h5=>?_⟩
  ·have h5':(!(holdsB c (es.getD j default))&&eP l (es.getD j default))=true:=h5
   conv=>whnf
   exact au.bool (by rw[OJ,je (d:=default) hj' h5']; rfl)
  ·have h5':(!(holdsB c (es.getD j default))&&eP l (es.getD j default))=false:=h5
   conv=>whnf
   refine .mk (by simp only[okI] at *; first|omega|(simp_all; done)|(simp_all; omega)) ?_
   conv=>whnf
   refine⟨j+1,⟨by omega,?_⟩,by omega,⟨⟨_,rfl,rfl⟩,trivial⟩,?_,rfl⟩
   ·rw[kY (d:=default) hj' hany]; exact h5'
   ·repeat' (first|exact trivial|exact⟨_,rfl,rfl⟩|constructor)
 ·have hj':es.length<=j:=by simpa using h4
  rw[List.take_of_length_le hj'] at hany
  conv=>whnf
  exact au.bool (by rw[OJ,hany]; rfl)
set_option maxHeartbeats 1000000 in
theorem S.qO(p:aW)(l:List Clause)(c:Clause)(f:Bool)(hp:dD p)(hl:SmallK l)(hc:rD c):ak Tryz.prog 13 [.dat (.dJ p),.row 4 f (.clauses l),.dat (.clause c)] (zD p l c):=by
 refine ak.of Bd.qO (by simp) rfl rfl ?_
 conv=>whnf
 refine ah.pure (S.tq p hp) rfl ?_
 conv=>whnf
 refine⟨fun h1=>?_,fun h1=>?_⟩
 ·have he:kT p l c=yc p:=by rw[kT,show(yc p !=0)=true from h1]; rfl
  conv=>whnf
  exact au.eqv (congrArg V.aG (vO he h1))
 conv=>whnf
 refine ah.pure (S.qR p l f hp hl) rfl ?_
 conv=>whnf
 refine⟨fun h2=>?_,fun h2=>?_⟩
 ·have he:kT p l c=jZ p l:=by rw[kT,show(yc p !=0)=false from h1,show(jZ p l !=0)=true from h2]; rfl
  conv=>whnf
  exact au.eqv (congrArg V.aG (vO he h2))
 conv=>whnf
 refine ah.pure (S.qp p c hp hc) rfl ?_
 conv=>whnf
 refine⟨fun h3=>?_,fun h3=>?_⟩
 ·have he:kT p l c=uD p c:=by rw[kT,show(yc p !=0)=false from h1,show(jZ p l !=0)=false from h2]; rfl
  conv=>whnf
  exact au.eqv (congrArg V.aG (vO he h3))
 obtain⟨hF,_⟩:=BO (xI h1)
 obtain⟨hR,YS⟩:=Ar (xI h2)
 have hC:=U4 (xI h3)
 have he:kT p l c=0:=by rw[kT,show(yc p !=0)=false from h1,show(jZ p l !=0)=false from h2]; exact xI h3
 have hV:zD p l c= .gQ [.bool (OJ l c (Ig p (l++[c]))),.int 0]:=by
  rw[zD,yx,he]; rfl
 rw[hV]
 conv=>whnf
 refine ah.pure (S.qV p l c f hp hF.pos hF.states hF.values hR ⟨fun k hk=>by rw[List.mem_singleton] at hk; subst hk; exact hC,by simp⟩ (by omega)) rfl ?_
 conv=>whnf
 conv=>whnf
 exact au.eqv rfl
end Go.Proofs.YtbfhebmdcpmfaaaGreatDoor
