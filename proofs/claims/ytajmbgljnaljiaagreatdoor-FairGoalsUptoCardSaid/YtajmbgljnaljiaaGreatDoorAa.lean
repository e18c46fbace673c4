/-
 fair and its reference: families, kinds, rules. No condition.
-/
import Derived.Test.YtajmbgljnaljiaaGreatDoorFa
import Derived.Test.YtajmbgljnaljiaaGreatDoorRb
namespace Go.Proofs.YtajmbgljnaljiaaGreatDoor
open Go.Ab Go.Proofs
set_option maxRecDepth 100000
def CX(p:aH):Int:=bif dW p !=0 then dW p else bif (qp p).monadic then 0 else 7
theorem cf1(p:aH):CX p=bif ((dW p==0)&& !(bif dW p !=0 then QU else qp p).monadic) then 7 else dW p:=by
 unfold CX bne
 cases hz:dW p==0 with
 |true =>
  simp only[Bool.not_true,cond_false,Bool.true_and]
  cases (qp p).monadic<;>simp[show dW p=0 from beq_iff_eq.1 hz]
 |false=>rfl
def uI(p:aH)(q:Prop'):Int:=bif kY p q !=0 then kY p q else CX p
def Ew(p:aH)(q:Prop')(k:Int):Int:=bif (uI p q==0)&&(q.kind !=k) then 7 else uI p q
def QV(p:aH)(r:Int):Int:=bif (CX p==0)&&(decide (r<0)||decide (r>=(p.rules.length:Int))) then 6 else CX p
theorem S.iU(p:aH)(hp:gq p):au Tryz.prog 69 [.dat (.mJ p)] (.int (CX p)):=by
 refine au.of Bd.iU (by simp) rfl rfl ?_
 conv=>whnf
 refine ah.pure (S.ig p hp) rfl ?_
 conv=>whnf
 repeat(refine VC.mk id ?_; conv=>whnf)
 refine⟨fun h1=>?_,fun h1=>?_⟩
 ·conv=>whnf
  exact aG.int (by rw[cf1,h1]; rfl)
 ·conv=>whnf
  exact aG.int (by rw[cf1,h1]; rfl)
theorem S.rZ(p:aH)(q:Prop')(hp:gq p)(hq:jO q):au Tryz.prog 41 [.dat (.mJ p),.dat (.prop q)] (.int (uI p q)):=by
 refine au.of Bd.rZ (by simp) rfl rfl ?_
 conv=>whnf
 refine ah.pure (S.dK p q hp hq) rfl ?_
 conv=>whnf
 refine⟨fun h1=>?_,fun h1=>?_⟩
 ·conv=>whnf
  exact aG.int (by rw[uI,h1]; rfl)
 ·conv=>whnf
  refine ah.pure (S.iU p hp) rfl ?_
  conv=>whnf
  exact aG.int (by rw[uI,h1]; rfl)
theorem S.jP(p:aH)(q:Prop')(k:Int)(hp:gq p)(hq:jO q):au Tryz.prog 22 [.dat (.mJ p),.dat (.prop q),.int k] (.int (Ew p q k)):=by
 refine au.of Bd.jP (by simp) rfl rfl ?_
 conv=>whnf
 refine ah.pure (S.rZ p q hp hq) rfl ?_
 conv=>whnf
 repeat(refine VC.mk (by first|exact id|exact fun h=>⟨h,h⟩) ?_; conv=>whnf)
 refine⟨fun h1=>?_,fun h1=>?_⟩
 ·conv=>whnf
  exact aG.int (by rw[Ew,h1]; rfl)
 ·conv=>whnf
  exact aG.int (by rw[Ew,h1]; rfl)
theorem S.lD(p:aH)(r:Int)(hp:gq p):au Tryz.prog 55 [.dat (.mJ p),.int r] (.int (QV p r)):=by
 refine au.of Bd.lD (by simp) rfl rfl ?_
 conv=>whnf
 refine ah.pure (S.iU p hp) rfl ?_
 conv=>whnf
 repeat(refine VC.mk (by first|exact id|exact fun h=>⟨h,h⟩|(intro h; simp[h]; done)) ?_; conv=>whnf)
 refine⟨fun h1=>?_,fun h1=>?_⟩
 ·conv=>whnf
  exact aG.int (by rw[QV,h1]; rfl)
 ·conv=>whnf
  exact aG.int (by rw[QV,h1]; rfl)
def Vu(n:Int):Bool:= !(decide (2<n))
def cvB(p:aH)(e:Elem):Bool:=(Iq p e !=0)||(xQ e==0)
def Hu(p:aH)(a:Elem):Int:=bif cvB p a then 1 else bif a.counts.all Vu then 0 else 1
theorem S.kH(p:aH)(a:Elem)(hp:gq p)(ha:a.counts.length<2^30):au Tryz.prog 56 [.dat (.mJ p),.dat (.elem a)] (.int (Hu p a)):=by
 refine au.of Bd.kH (by simp) rfl rfl ?_
 conv=>whnf
 refine ah.pure (S.jd p a hp ha) rfl ?_
 conv=>whnf
 refine VC.mk id ?_
 conv=>whnf
 refine ah.jC (fun _=>S.nK a (by omega)) rfl ?_
 conv=>whnf
 repeat(refine VC.mk (by first|exact id|(intro h; rw[h]; rfl)) ?_; conv=>whnf)
 refine⟨fun h1=>?_,fun h1=>?_⟩
 ·conv=>whnf
  exact aG.int (by rw[Hu,show cvB p a=true from h1]; rfl)
 have hc:cvB p a=false:=h1
 conv=>whnf
 refine aP.same [2,3,17,18] (fun i:Nat=>[(19,.int i)]) (fun i=>i<=a.counts.length/\(a.counts.take i).all Vu=true) (fun i=>a.counts.length-i) 0 rfl (by decide) rfl (fun _=>rfl) ⟨by omega,by simp⟩ ⟨⟨_,rfl,rfl⟩,trivial⟩ ?_
 conv=>whnf
 refine⟨rfl,?_⟩
 rintro i ⟨hi,hall⟩
 conv=>whnf
 refine⟨fun h3=>?_,fun h3=>?_⟩
 ·have hi':i<a.counts.length:=by simpa using h3
  conv=>whnf
  refine .mk (by simp only[Rw.rng] at *; first|omega|(simp_all; done)|(simp_all; omega)) ?_
  conv=>whnf
  refine⟨fun h4=>?_,fun h4=>?_⟩
  ·conv=>whnf
   refine aG.int ?_
   rw[Hu,hc,zO (d:=0) hi' (by simpa [Vu] using h4)]; rfl
  ·conv=>whnf
   refine .mk (by simp only[okI] at *; first|omega|(simp_all; done)|(simp_all; omega)) ?_
   conv=>whnf
   refine⟨i+1,⟨by omega,?_⟩,by omega,⟨⟨_,rfl,rfl⟩,trivial⟩,?_,rfl⟩
   ·rw[C9 (d:=0) hi' hall]; simpa [Vu] using h4
   ·repeat' (first|exact trivial|exact⟨_,rfl,rfl⟩|constructor)
 ·have hi':a.counts.length<=i:=by simpa using h3
  conv=>whnf
  refine aG.int ?_
  rw[List.take_of_length_le hi'] at hall
  rw[Hu,hc,hall]; rfl
theorem aa4(e:Elem):0<=xQ e:=by
 unfold xQ
 split
 ·omega
 ·split
  ·rename_i h; exact(yR h).1
  ·omega
theorem ou{p:aH}(h:CX p=0):JJ p=0:=by
 unfold CX at h
 unfold JJ
 cases hv:(dW p !=0) with
 |true=>rw[hv] at h; simp only[cond_true] at h; rw[h] at hv; simp at hv
 |false =>
  rw[hv] at h
  simp only[cond_false] at h ⊢
  cases hm:(qp p).monadic with
  |true=>simp
  |false=>rw[hm] at h; cases h
theorem aa5{p:aH}(h:CX p=0)(e:Elem):Iq p e=iq (JK p e) 1:=by
 rw[Iq,ou h]; rfl
def Vw(p:aH)(e:Elem):Bool:=JK p e||(xQ e==0)
theorem aa6{p:aH}(h:CX p=0)(e:Elem):cvB p e=Vw p e:=by
 unfold cvB Vw
 rw[aa5 h]
 cases JK p e<;>rfl
def Fg(p:aH)(r:Int)(a:Elem):Int:=bif QV p r !=0 then QV p r else Hu p a
def uU(l:List Int):List Int:=l.map fun n=>min n 2
def Vx(e:Elem):Elem:=⟨e.value,uU e.counts⟩
def L6(l:List Int)(i:Nat):List Int:=uU (l.take i)++List.replicate (l.length-i) 0
theorem Vy(l:List Int)(i:Nat)(hi:i<=l.length):(L6 l i).length=l.length:=by simp[L6,uU]; omega
theorem SQ{l:List Int}{i:Nat}(hi:i<l.length):(L6 l i).set i (min (l.getD i 0) 2)=L6 l (i+1):=by
 have e1:l.length-i=(l.length-(i+1))+1:=by omega
 have e2:l.take (i+1)=l.take i++[l.getD i 0]:=by rw[List.take_add_one]; simp[hi]
 unfold L6
 rw[e1,List.replicate_succ,List.set_append_right _ _ (by simp[uU]; omega)]
 have:i-(uU (l.take i)).length=0:=by simp[uU]; omega
 rw[this,List.set_cons_zero,e2]
 simp[uU]
theorem Vz(l:List Int):L6 l l.length=uU l:=by simp[L6]
theorem S.mM(e:Elem)(h0:0<e.counts.length)(he:e.counts.length<2^30):au Tryz.prog 77 [.dat (.elem e)] (.dat (.elem (Vx e))):=by
 refine au.of Bd.mM (by simp) rfl rfl ?_
 conv=>whnf
 have hm:=Fh (n:=e.counts.length) (by omega)
 rw[hm]
 conv=>whnf
 refine .mk (by omega) ?_
 conv=>whnf
 refine aP.xE 15 [2,3,14,15] (fun i:Nat=>[(16,.int i)]) (fun i=>[(0,.box 54 3 (.dat (.elem e))),(1,.box 54 3 (.agg [.int 0,.row 0 true .nil])),(7,xK (L6 e.counts i)),(9,.box 54 3 (.agg [.int e.value,.own 7]))]) (fun i=>i<=e.counts.length) (fun i=>e.counts.length-i) 0 [0,1,7,9] rfl (by decide) (fun _=>rfl) (Nat.zero_le _) ?_ ?_ ?_
 ·exact(sR rfl)
 ·exact⟨cu rfl rfl,cu rfl rfl,cu rfl rfl,nV rfl rfl rfl ⟨rfl,rfl⟩ (dL.of_eq rfl),trivial⟩
 conv=>whnf
 refine⟨(sR rfl),rfl,?_⟩
 rintro i hi
 have hRl:=Vy e.counts i hi
 conv=>whnf
 refine⟨fun g1=>?_,fun g1=>?_⟩
 ·have hi':i<e.counts.length:=by simpa using g1
  conv=>whnf
  repeat(refine VC.mk (by first|(simp only[Rw.rng,Int.toNat_natCast]; omega)|(simp only[okI,Int.toNat_natCast] at *; omega)) ?_; conv=>whnf)
  refine⟨i+1,[0,1,7,9],by omega,by omega,(sR rfl),(sR rfl),cu rfl rfl,cu rfl rfl,okF rfl nofun rfl rfl rfl ⟨rfl,rfl⟩ ?_,nV rfl rfl rfl ⟨rfl,rfl⟩ (dL.of_eq rfl),trivial⟩
  rw[<- SQ hi']; rfl
 ·have hi':i=e.counts.length:=by
   have: ¬ ((i:Int)<(e.counts.length:Int)):=of_decide_eq_false g1
   omega
  subst hi'
  rw[Vz]
  conv=>whnf
  exact aG.elem rfl
end Go.Proofs.YtajmbgljnaljiaaGreatDoor
namespace Go.Proofs.YtajmbgljnaljiaaGreatDoor
open Go.Ab Go.Proofs
set_option maxRecDepth 100000
def Vp(n:Int):Bool:= !(decide (n<0)||decide (6<n))
def SV(p:aH)(w:List Int):Bool:=bif (w.length:Int) !=p.states.length then false else w.all Vp
theorem YC{p:aH}{w:List Int}(h:SV p w=true):w.length=p.states.length/\w.all Vp=true:=by
 unfold SV at h
 cases hc:((w.length:Int) !=p.states.length) with
 |true=>rw[hc] at h; cases h
 |false=>rw[hc] at h; exact⟨by have:(w.length:Int)=p.states.length:=(by simpa using hc); omega,h⟩
theorem YD{w:List Int}(h:w.all Vp=true)(i:Nat):0<=w.getD i 0/\w.getD i 0<=6:=by
 rw[List.getD_eq_getElem?_getD]
 cases hg:w[i]? with
 |none=>simp
 |some x =>
  have:=List.all_eq_true.1 h x (List.mem_of_getElem? hg)
  simp[Vp] at this
  simp; omega
theorem S.jD(p:aH)(w:List Int)(f:Bool)(hw:w.length<2^30):au Tryz.prog 33 [.dat (.mJ p),.row 0 f (.ints w)] (.bool (SV p w)):=by
 refine au.of Bd.jD (by simp) rfl rfl ?_
 conv=>whnf
 refine⟨fun h1=>?_,fun h1=>?_⟩
 ·conv=>whnf
  exact aG.bool (by rw[SV,h1]; rfl)
 conv=>whnf
 refine aP.same [13,14] (fun i:Nat=>[(15,.int i)]) (fun i=>i<=w.length/\(w.take i).all Vp=true) (fun i=>w.length-i) 0 rfl (by decide) rfl (fun _=>rfl) ⟨by omega,by simp⟩ ⟨⟨_,rfl,rfl⟩,trivial⟩ ?_
 conv=>whnf
 refine⟨rfl,?_⟩
 rintro i ⟨hi,hall⟩
 conv=>whnf
 refine⟨fun h3=>?_,fun h3=>?_⟩
 ·have hi':i<w.length:=by simpa using h3
  conv=>whnf
  repeat(refine VC.mk (by first|exact id|(intro h; rw[h]; rfl)|(simp only[Rw.rng] at *; first|omega|(simp_all; done)|(simp_all; omega))) ?_; conv=>whnf)
  refine⟨fun h4=>?_,fun h4=>?_⟩
  ·conv=>whnf
   refine aG.bool ?_
   rw[SV,h1,zO (d:=0) hi' (congrArg Bool.not h4)]; rfl
  ·conv=>whnf
   refine .mk (by simp only[okI] at *; first|omega|(simp_all; done)|(simp_all; omega)) ?_
   conv=>whnf
   refine⟨i+1,⟨by omega,?_⟩,by omega,⟨⟨_,rfl,rfl⟩,trivial⟩,?_,rfl⟩
   ·rw[C9 (d:=0) hi' hall]; exact congrArg Bool.not h4
   ·repeat' (first|exact trivial|exact⟨_,rfl,rfl⟩|constructor)
 ·have hi':w.length<=i:=by simpa using h3
  rw[List.take_of_length_le hi'] at hall
  conv=>whnf
  exact aG.bool (by rw[SV,h1,hall]; rfl)
structure Yt(n:Nat)(r:Rule):Prop where
 place:zQ n r
 ad8:r.response.length<=n
 ad9:su n r.response
 aeX:r.kind≠3->r.response=[]
theorem aea{p:aH}{i:Nat}(hv:JL p)(ht:p.topology=1)(hi:i<p.rules.length):Yt p.states.length (p.rules.getD i default):=by
 have hF:=aaL hv ht hi
 have hn:(p.rules.getD i default).kind≠3->(p.rules.getD i default).response=[]:=by
  have h:=hv.rule i hi
  simp only[jE,oz] at h
  generalize (p.rules.getD i default)=r at h ⊢
  obtain⟨_,h⟩:=bz (fun _=>by decide) h
  obtain⟨hb,h⟩:=bz (fun _=>by decide) h
  rw[ht,Bool.or_eq_false_iff] at hb
  have hk:=Ir (show xF r.kind 1=true by simpa using hb.1)
  have hu:uh r 1=false:=by rw[xR (by omega)]; exact hb.2
  intro k3
  simp only[uh,JM,Bool.or_eq_false_iff] at hu
  have h4:=hu.2.2.2.1
  simp only[beq_eq_false_iff_ne.2 k3,Bool.not_false,Bool.true_and] at h4
  exact len_nil h4.1
 refine⟨hF.place,?_,?_,hn⟩
 ·by_cases k:(p.rules.getD i default).kind=3
  ·rw[(hF.place.rsp k).1]; exact Nat.le_refl _
  ·rw[hn k]; exact Nat.zero_le _
 ·by_cases k:(p.rules.getD i default).kind=3
  ·exact(hF.place.rsp k).2
  ·rw[hn k]; intro q hq; cases hq
theorem wtR{p:aH}(h:CX p=0){i:Nat}(hi:i<p.rules.length):Yt p.states.length (p.rules.getD i default):=by
 obtain⟨h1,h2⟩:=iV (ou h)
 exact aea (oC h1) (Iu h2) hi
def wt(w:List Int)(x:Int):Int:=w.getD x.toNat 0
def Hw(r:Rule)(w:List Int):Int:=bif r.kind==2 then(wt w r.to-wt w r.fr)+(wt w r.Dc-wt w r.iw) else wt w r.to-wt w r.fr
theorem JO{w:List Int}(h:w.all Vp=true)(x:Int):0<=wt w x/\wt w x<=6:=YD h _
theorem S.nM(r:Rule)(w:List Int)(f:Bool)(hw:w.all Vp=true)(hr:Yt w.length r):au Tryz.prog 94 [.dat (.rule r),.row 0 f (.ints w)] (.int (Hw r w)):=by
 have a:=JO hw r.to; have b:=JO hw r.fr; have c:=JO hw r.Dc; have d:=JO hw r.iw
 have p1:=hr.place.src; have p2:=hr.place.dst; have p3:=hr.place.YE; have p4:=hr.place.YF
 unfold wt at a b c d
 refine au.of Bd.nM (by simp) rfl rfl ?_
 conv=>whnf
 repeat(refine VC.mk (by simp only[okI,Rw.rng] at *; first|omega|(simp_all; done)|(simp_all; omega)) ?_; conv=>whnf)
 refine⟨fun h1=>?_,fun h1=>?_⟩
 ·conv=>whnf
  repeat(refine VC.mk (by simp only[okI,Rw.rng] at *; first|omega|(simp_all; done)|(simp_all; omega)) ?_; conv=>whnf)
  exact aG.int (by rw[Hw,h1]; rfl)
 ·conv=>whnf
  exact aG.int (by rw[Hw,h1]; rfl)
def aa7(r:Rule)(w:List Int)(x:Nat):Bool:=decide (w.getD x 0<wt w (r.response.getD x 0))
def upB(r:Rule)(w:List Int)(i:Nat):Bool:=(List.range i).any (aa7 r w)
def L8(r:Rule)(w:List Int):Bool:=upB r w r.response.length||decide (0<Hw r w)
theorem VA{r:Rule}{w:List Int}{i:Nat}(h:upB r w i=false):upB r w (i+1)=aa7 r w i:=by
 unfold upB at h ⊢
 rw[List.range_succ,List.any_append,h]; simp
theorem aa8{r:Rule}{w:List Int}{i n:Nat}(hi:i<n)(h:aa7 r w i=true):upB r w n=true:=List.any_eq_true.2 ⟨i,List.mem_range.2 hi,h⟩
theorem Df{n:Nat}{l:List Int}(h:su n l){i:Nat}(hi:i<l.length):0<=l.getD i 0/\l.getD i 0<n:=by
 rw[List.getD_eq_getElem?_getD,List.getElem?_eq_getElem hi]; exact h _ (List.getElem_mem hi)
theorem S.ku(r:Rule)(w:List Int)(f:Bool)(hw:w.all Vp=true)(hr:Yt w.length r)(hl:w.length<2^30):au Tryz.prog 61 [.dat (.rule r),.row 0 f (.ints w)] (.bool (L8 r w)):=by
 have hrl:=hr.ad8
 refine au.of Bd.ku (by simp) rfl rfl ?_
 conv=>whnf
 refine aP.same [1,2,8,9] (fun i:Nat=>[(10,.int i)]) (fun i=>i<=r.response.length/\upB r w i=false) (fun i=>r.response.length-i) 0 rfl (by decide) rfl (fun _=>rfl) ⟨by omega,rfl⟩ ⟨⟨_,rfl,rfl⟩,trivial⟩ ?_
 conv=>whnf
 refine⟨rfl,?_⟩
 rintro i ⟨hi,hno⟩
 conv=>whnf
 refine⟨fun h3=>?_,fun h3=>?_⟩
 ·have hi':i<r.response.length:=by simpa using h3
  have hpl:=Df hr.ad9 hi'
  conv=>whnf
  repeat(refine VC.mk (by simp only[Rw.rng,Int.toNat_natCast]; omega) ?_; conv=>whnf)
  refine⟨fun h4=>?_,fun h4=>?_⟩
  ·conv=>whnf
   exact aG.bool (by rw[L8,aa8 hi' h4]; rfl)
  ·conv=>whnf
   refine .mk (by simp only[okI] at *; first|omega|(simp_all; done)|(simp_all; omega)) ?_
   conv=>whnf
   refine⟨i+1,⟨by omega,?_⟩,by omega,⟨⟨_,rfl,rfl⟩,trivial⟩,?_,rfl⟩
   ·rw[VA hno]; exact h4
   ·repeat' (first|exact trivial|exact⟨_,rfl,rfl⟩|constructor)
 ·have hi':i=r.response.length:=by
   have: ¬ ((i:Int)<(r.response.length:Int)):=of_decide_eq_false h3
   omega
  subst hi'
  conv=>whnf
  refine ah.pure (S.nM r w f hw hr) rfl ?_
  conv=>whnf
  exact aG.bool (by rw[L8,hno]; rfl)
def L9(r:Rule)(w:List Int):Bool:= !(L8 r w)&&decide (Hw r w<0)
theorem S.kT(r:Rule)(w:List Int)(f:Bool)(hw:w.all Vp=true)(hr:Yt w.length r)(hl:w.length<2^30):au Tryz.prog 62 [.dat (.rule r),.row 0 f (.ints w)] (.bool (L9 r w)):=by
 refine au.of Bd.kT (by simp) rfl rfl ?_
 conv=>whnf
 refine ah.pure (S.ku r w f hw hr hl) rfl ?_
 conv=>whnf
 refine .mk (by exact fun h=>⟨h,h⟩) ?_
 conv=>whnf
 refine ah.jC (fun _=>S.nM r w f hw hr) rfl ?_
 conv=>whnf
 repeat(refine VC.mk id ?_; conv=>whnf)
 exact aG.bool rfl
def aa9(r:Rule)(x:Int):Bool:=((x==r.fr)||((r.kind==2)&&(x==r.iw)))||((r.kind==3)&&(r.response.getD x.toNat 0 !=x))
theorem S.sD(r:Rule)(x:Int)(n:Nat)(hr:Yt n r)(hx:0<=x/\x<n):au Tryz.prog 63 [.dat (.rule r),.int x] (.bool (aa9 r x)):=by
 have hk:=hr.place.rsp
 refine au.of Bd.sD (by simp) rfl rfl ?_
 conv=>whnf
 repeat(refine VC.mk (by first|exact id|exact fun h=>⟨h,h⟩|(intro h; rw[h]; rfl)|(intro h; simp[h]; done)|(intro h; simp_all; done)|(simp only[Rw.rng] at *; first|omega|(simp_all; done)|(simp_all; omega))) ?_; conv=>whnf)
 exact aG.bool rfl
def sumW(c w:List Int)(i:Nat):Int:=(List.range i).foldl (fun a j=>a+c.getD j 0*w.getD j 0) 0
theorem uV{c w:List Int}{i:Nat}:sumW c w (i+1)=sumW c w i+c.getD i 0*w.getD i 0:=by
 unfold sumW; rw[List.range_succ,List.foldl_append]; rfl
theorem abb{p:aH}{e:Elem}(h:Vw p e=false):e.counts.length=p.states.length/\EJ e.counts:=by
 unfold Vw at h
 rw[Bool.or_eq_false_iff] at h
 have:=abd h.1
 exact⟨this.1,this.2.1⟩
theorem acP{p:aH}{r:Int}(hc:CX p=0)(h:QV p r=0):0<=r/\r.toNat<p.rules.length/\r<p.rules.length:=by
 unfold QV at h
 rw[hc] at h
 cases hb:(decide (r<0)||decide (r>=(p.rules.length:Int))) with
 |true=>rw[hb] at h; cases h
 |false=>rw[Bool.or_eq_false_iff,decide_eq_false_iff_not,decide_eq_false_iff_not] at hb; omega
theorem acQ{p:aH}{r:Int}(h:QV p r=0):CX p=0:=by
 by_cases h0:CX p=0
 ·exact h0
 ·unfold QV at h
  rw[show(CX p==0)=false by simpa using h0] at h; exact absurd h h0
theorem VB{c:List Int}{i j:Nat}{v:Int}(hi:i<c.length):(c.set i v).getD j 0=if j=i then v else c.getD j 0:=by
 rw[List.getD_eq_getElem?_getD,List.getD_eq_getElem?_getD]
 by_cases e:j=i
 ·subst e; simp[hi]
 ·rw[if_neg e,List.getElem?_set_ne (fun h=>e h.symm)]
theorem Mc{c w:List Int}{i:Nat}{v:Int}(hi:i<c.length): ∀ {n:Nat},sumW (c.set i v) w n=sumW c w n+(if i<n then(v-c.getD i 0)*w.getD i 0 else 0):=by
 intro n
 induction n with
 |zero=>simp[sumW]
 |succ n ih =>
  rw[uV,uV,ih,VB hi]
  by_cases e:n=i
  ·subst e
   rw[if_pos rfl,if_neg (Nat.lt_irrefl _),if_pos (Nat.lt_succ_self _),Int.sub_mul]; omega
  ·rw[if_neg e]
   by_cases h:i<n
   ·rw[if_pos h,if_pos (by omega)]; omega
   ·rw[if_neg h,if_neg (by omega)]; omega
theorem Md{c w:List Int}{i d:Int}(hi:0<=i/\i<c.length):sumW (jK c i d) w c.length=sumW c w c.length+d*wt w i:=by
 unfold jK wt
 rw[Mc (by omega),if_pos (by omega)]
 have:c.getD i.toNat 0+d-c.getD i.toNat 0=d:=by omega
 rw[this]
theorem Fj{c w:List Int}{i:Int}(hi:0<=i/\i<c.length):sumW (cO c i) w c.length=sumW c w c.length-wt w i:=by
 unfold cO wt
 rw[Mc (by omega),if_pos (by omega)]
 have:c.getD i.toNat 0-1-c.getD i.toNat 0= -1:=by omega
 rw[this]; omega
def SX(r:Rule)(c w:List Int)(k:Nat):Int:=(List.range k).foldl (fun a j=>a+c.getD j 0*wt w (r.response.getD j 0)) 0
theorem Iw{r:Rule}{c w:List Int}{k:Nat}:SX r c w (k+1)=SX r c w k+c.getD k 0*wt w (r.response.getD k 0):=by
 unfold SX; rw[List.range_succ,List.foldl_append]; rfl
theorem SY{n w:Nat}{l:List Int}:sumW (List.replicate n 0) l w=0:=by
 induction w with
 |zero=>rfl
 |succ w ih =>
  rw[uV,ih,List.getD_eq_getElem?_getD]
  have:((List.replicate n (0:Int))[w]?.getD 0)=0:=by
   rw[List.getElem?_replicate]; split<;>rfl
  rw[this]; simp
theorem VD{r:Rule}{c w:List Int}(hr:su c.length r.response): ∀ {k:Nat},k<=r.response.length->sumW (sF r c k) w c.length=SX r c w k:=by
 intro k
 induction k with
 |zero=>intro _; exact SY
 |succ k ih =>
  intro hk
  have hl:=uX (r:=r) (c:=c) (i:=k)
  have:=Md (c:=sF r c k) (w:=w) (i:=r.response.getD k 0) (d:=c.getD k 0) (by rw[hl]; exact Df hr (by omega))
  rw[hl] at this
  rw[uY,this,ih (by omega),Iw]
theorem VE{r:Rule}{e x:Elem}(w:List Int)(hr:Yt e.counts.length r)(hx:iC r e=some x):sumW x.counts w e.counts.length =
  if r.kind=3 then SX r (cO e.counts r.fr) w e.counts.length+wt w r.to else sumW e.counts w e.counts.length+Hw r w:=by
 have p1:=hr.place.src; have p2:=hr.place.dst; have p3:=hr.place.YE; have p4:=hr.place.YF
 have d1:=Fj (w:=w) p1
 have l1:(cO e.counts r.fr).length=e.counts.length:=lU
 have a1: ∀ {c:List Int} {i d:Int},c.length=e.counts.length->0<=i/\i<e.counts.length->sumW (jK c i d) w e.counts.length=sumW c w e.counts.length+d*wt w i:=by
  intro c i d hl hi
  have:=Md (c:=c) (w:=w) (d:=d) (by rw[hl]; exact hi)
  rw[hl] at this; exact this
 have b1: ∀ {c:List Int} {i:Int},c.length=e.counts.length->0<=i/\i<e.counts.length->sumW (cO c i) w e.counts.length=sumW c w e.counts.length-wt w i:=by
  intro c i hl hi
  have:=Fj (c:=c) (w:=w) (by rw[hl]; exact hi)
  rw[hl] at this; exact this
 unfold iC at hx
 simp only at hx
 cases h0:(decide (0<=r.read)&&e.value !=r.read||e.counts.getD r.fr.toNat 0==0) with
 |true=>rw[h0] at hx; cases hx
 |false =>
  rw[h0] at hx
  simp only[cond_false] at hx
  cases k1:r.kind==1 with
  |true =>
   have k1':r.kind=1:=by simpa using k1
   rw[k1] at hx
   simp only[cond_true] at hx
   cases ha:xU r (cO e.counts r.fr) with
   |false=>rw[ha] at hx; cases hx
   |true =>
    rw[ha] at hx
    simp only[Bool.not_true,cond_false,Option.some.injEq] at hx
    subst hx
    rw[if_neg (by omega),a1 l1 p2,b1 rfl p1,Hw,show(r.kind==2)=false by rw[k1']; rfl]
    simp only[cond_false]; omega
  |false =>
   rw[k1] at hx
   simp only[cond_false] at hx
   cases k2:r.kind==2 with
   |true =>
    have k2':r.kind=2:=by simpa using k2
    rw[k2] at hx
    simp only[cond_true] at hx
    cases ha:((cO e.counts r.fr).getD r.iw.toNat 0==0) with
    |true=>rw[ha] at hx; cases hx
    |false =>
     rw[ha] at hx
     simp only[cond_false,Option.some.injEq] at hx
     subst hx
     have l2:(cO (cO e.counts r.fr) r.iw).length=e.counts.length:=by rw[lU,l1]
     rw[if_neg (by omega),a1 (by rw[Dh,l2]) p2,a1 l2 p4,b1 l1 p3,b1 rfl p1,Hw,k2]
     simp only[cond_true]; omega
   |false =>
    rw[k2] at hx
    simp only[cond_false] at hx
    cases k3:r.kind==3 with
    |true =>
     have k3':r.kind=3:=by simpa using k3
     obtain⟨q1,q2⟩:=hr.place.rsp k3'
     rw[k3] at hx
     simp only[cond_true,Option.some.injEq] at hx
     subst hx
     have hs:=VD (c:=cO e.counts r.fr) (w:=w) (by rw[l1]; exact q2) (k:=e.counts.length) (by omega)
     rw[l1] at hs
     rw[if_pos k3',a1 (by rw[uX,l1]) p2,l1,hs]; omega
    |false =>
     have k3':r.kind≠3:=by simpa using k3
     rw[k3] at hx
     simp only[cond_false,Option.some.injEq] at hx
     subst hx
     rw[if_neg k3',a1 l1 p2,b1 rfl p1,Hw,k2]
     simp only[cond_false]; omega
theorem Fp{n:Nat}: ∀ {c:List Int} {k:Nat},k<=n->k<=c.length->sumW c (List.replicate n 1) k=(c.take k).sum:=by
 intro c k
 induction k with
 |zero=>intro _ _; simp[sumW]
 |succ k ih =>
  intro h1 h2
  have e1:(List.replicate n (1:Int)).getD k 0=1:=by
   rw[List.getD_eq_getElem?_getD,List.getElem?_replicate,if_pos (by omega)]; rfl
  rw[uV,ih (by omega) (by omega),Me (by omega),e1,Int.mul_one]
theorem AQ{n:Nat}{x:Int}(h:0<=x/\x<n):wt (List.replicate n 1) x=1:=by
 unfold wt
 rw[List.getD_eq_getElem?_getD,List.getElem?_replicate,if_pos (by omega)]; rfl
theorem S9{r:Rule}{c:List Int}{n:Nat}(hr:su n r.response): ∀ {k:Nat},k<=r.response.length->k<=n->SX r c (List.replicate n 1) k=sumW c (List.replicate n 1) k:=by
 intro k
 induction k with
 |zero=>intro _ _; rfl
 |succ k ih =>
  intro h1 h2
  have e1:(List.replicate n (1:Int)).getD k 0=1:=by
   rw[List.getD_eq_getElem?_getD,List.getElem?_replicate,if_pos (by omega)]; rfl
  rw[Iw,uV,ih (by omega) (by omega),AQ (Df hr (by omega)),e1]
theorem O9{r:Rule}{e x:Elem}(hr:Yt e.counts.length r)(hx:iC r e=some x):x.counts.sum=e.counts.sum:=by
 have h:=VE (List.replicate e.counts.length 1) hr hx
 have hl:=yS hx
 rw[Fp (Nat.le_refl _) (by omega),Fp (Nat.le_refl _) (Nat.le_refl _),List.take_of_length_le (by omega),List.take_of_length_le (Nat.le_refl _)] at h
 rw[h]
 have p1:=AQ hr.place.src; have p2:=AQ hr.place.dst; have p3:=AQ hr.place.YE; have p4:=AQ hr.place.YF
 split
 ·rename_i k3
  obtain⟨q1,q2⟩:=hr.place.rsp k3
  have hd:=Fj (w:=List.replicate e.counts.length 1) hr.place.src
  rw[S9 q2 (by omega) (Nat.le_refl _),p2,hd,p1,Fp (Nat.le_refl _) (Nat.le_refl _),List.take_of_length_le (Nat.le_refl _)]; omega
 ·unfold Hw
  rw[p1,p2,p3,p4]
  cases r.kind==2<;>simp
theorem JQ{e:Elem}(hl:e.counts.length<=6)(h:e.counts.all Iy=true):xQ e=e.counts.sum:=by
 rw[xQ,if_neg (by omega),if_pos h]
end Go.Proofs.YtajmbgljnaljiaaGreatDoor
