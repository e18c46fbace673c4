/-
 The abstraction follows every step. No condition.
-/
import Derived.Test.YtajmbgljnaljiaaGreatDoorAb
import Derived.Test.YtajmbgljnaljiaaGreatDoorLg
namespace Go.Proofs.YtajmbgljnaljiaaGreatDoor
open Go.Ab Go.Proofs
set_option maxRecDepth 100000
theorem VR(c:List Int):(uU c).length=c.length:=by simp[uU]
theorem J3{c:List Int}(h:EJ c):EJ (uU c):=fun x hx=>by
 obtain⟨y,hy,rfl⟩:=List.mem_map.1 hx
 have:=h y hy; omega
theorem YR(c:List Int):(uU c).all Vu=true:=List.all_eq_true.2 fun x hx=>by
 obtain⟨y,hy,rfl⟩:=List.mem_map.1 hx
 simp[Vu]; omega
theorem YS{c:List Int}(h:EJ c)(hs:0<c.sum):0<(uU c).sum:=by
 rcases Int.lt_or_le 0 (uU c).sum with h1|h1
 ·exact h1
 ·exfalso
  have hz: ∀ {d:List Int},EJ d->d.sum<=0-> ∀ x∈d,x=0:=by
   intro d
   induction d with
   |nil=>intro _ _ x hx; cases hx
   |cons y d ih =>
    intro ho hsum x hx
    have hy:=ho y (by simp)
    have hd:EJ d:=fun z hz=>ho z (by simp[hz])
    have hd0:=(yR (EM hd)).1
    rw[List.sum_cons] at hsum
    rcases List.mem_cons.1 hx with rfl|hx
    ·omega
    ·exact ih hd (by omega) x hx
  have h2:=hz (J3 h) h1
  have h3: ∀ x∈c,x=0:=fun x hx=>by
   have:=h2 (min x 2) (List.mem_map.2 ⟨x,hx,rfl⟩)
   have:=h x hx; omega
  have:c.sum=0:=by
   clear hs h h1 h2
   induction c with
   |nil=>rfl
   |cons y d ih=>rw[List.sum_cons,h3 y (by simp),ih fun x hx=>h3 x (by simp[hx])]; rfl
  omega
theorem mO.objs{h0 h:Hz}{m:Nat}{post:T->Hp->Prop}{v:V}(objs:List (Nat×OV))(nw:List Nat)(hall:((List.range m).all fun i=>(h0.get i).isSome)=true)(ho:okR (dR objs nw) (m+1) m h objs nw)(hn:h0.get m=none)(hv:v.free=true)
  (hp:post v.aF (ng objs).aj):mO h0 m post v h:=by
 have hfr:=V.kL v hv
 have hL:=FI (Z:=fun i=> ¬ FK (vk objs nw) i) ho
 have hlt: ∀ i,i<m->(h0.aj i).isSome=true:=fun i hi=>by
  rw[List.all_eq_true] at hall
  have:=hall i (List.mem_range.2 hi)
  simpa [Hz.aj] using this
 have hM: ∀ i,i<m+1->(h0.aj i).isSome=true\/i=m:=fun i hi=>by
  rcases Nat.lt_or_ge i m with h|h
  ·exact .inl (hlt i h)
  ·exact .inr (by omega)
 have e:zo (vk objs nw)=dR objs nw:=funext fun _=>Ba
 refine⟨fun i=> ¬ FK (vk objs nw) i,dR objs nw,v.aF,(ng objs).aj,hp,by rw[MZ hfr]; exact aB _,fun i ob hi=>?_,fun i j hi hj q=>?_,T.aX (fun _ h=>h.elim) _ (dY hfr),fun i ob hi=>?_,fun i hi hs=>?_⟩
 ·rw[<- vw ho] at hi
  obtain⟨h1,h2⟩:=rC hi
  obtain⟨_,_,_,h4,l',h5,h6⟩:=wM hL h1
  rw[e] at h2 h5
  exact⟨_,h5,fun hz=>hz h2,rfl,rfl,h6,zV h4⟩
 ·rw[<- vw ho] at hi hj
  obtain⟨oi,hi⟩:=Option.isSome_iff_exists.1 hi
  obtain⟨oj,hj⟩:=Option.isSome_iff_exists.1 hj
  exact Q5 hL hi hj (by rw[e]; exact q)
 ·rw[<- vw ho] at hi
  obtain⟨h1,_,h3,_⟩:=wM hL (rC hi).1
  exact⟨hM i h1,T.aA hM _ h3⟩
 ·rw[<- vw ho] at hs
  obtain⟨ob,hob⟩:=Option.isSome_iff_exists.1 hs
  obtain⟨_,h2,_⟩:=wM hL (rC hob).1
  rw[e] at h2
  refine h2 ?_
  obtain⟨h1,_⟩:=wM hL (rC hob).1
  rcases Nat.lt_or_ge i m with hlt'|hge
  ·exact hlt'
  ·have h1:i<m+1:=h1
   have e1:i=m:=by omega
   rw[e1] at hi; simp[Hz.aj,hn] at hi
def Pq(q:Prop')(a:Elem):Bool:= !(JY a.counts q.goal)
def mP(q:Prop')(a:Elem):Bool:=(q.kind==1)|| !(Pq q a)
theorem S.kC(q:Prop')(a:Elem)(hq:jO q)(ha:a.counts.length<2^40):au Tryz.prog 46 [.dat (.prop q),.dat (.elem a)] (.bool (Pq q a)):=by
 have hg:=hq.goal
 refine au.of Bd.kC (by simp) rfl rfl ?_
 conv=>whnf
 refine aP.same [2,8,9] (fun i:Nat=>[(10,.int i)]) (fun i=>i<=a.counts.length/\(List.range i).any (fun i=>decide (a.counts.getD i 0>0)&& !(Dj q.goal i))=false) (fun i=>a.counts.length-i) 0 rfl (by decide) rfl (fun _=>rfl) ⟨by omega,by simp⟩ ⟨⟨_,rfl,rfl⟩,trivial⟩ ?_
 conv=>whnf
 refine⟨rfl,?_⟩
 rintro i ⟨hi,hall⟩
 conv=>whnf
 refine⟨fun h3=>?_,fun h3=>?_⟩
 ·have hi':i<a.counts.length:=by simpa using h3
  conv=>whnf
  repeat(refine VC.mk (by first|exact id|exact fun h=>⟨h,h⟩|(simp only[Rw.rng] at *; first|omega|(simp_all; done)|(simp_all; omega))) ?_; conv=>whnf)
  refine ah.jC (fun _=>S.slices_Contains_int q.goal i false (by omega)) rfl ?_
  conv=>whnf
  repeat(refine VC.mk id ?_; conv=>whnf)
  refine⟨fun h4=>?_,fun h4=>?_⟩
  ·conv=>whnf
   have:JY a.counts q.goal=true:=uZ.2 ⟨i,hi',h4⟩
   exact aG.bool (by rw[Pq,this]; rfl)
  ·conv=>whnf
   refine .mk (by simp only[okI] at *; first|omega|(simp_all; done)|(simp_all; omega)) ?_
   conv=>whnf
   refine⟨i+1,⟨by omega,?_⟩,by omega,⟨⟨_,rfl,rfl⟩,trivial⟩,?_,rfl⟩
   ·rw[List.range_succ,List.any_append,hall]
    simp only[List.any_cons,List.any_nil,Bool.or_false,Bool.false_or]; exact h4
   ·repeat' (first|exact trivial|exact⟨_,rfl,rfl⟩|constructor)
 ·have hi':a.counts.length<=i:=by simpa using h3
  have ei:i=a.counts.length:=Nat.le_antisymm hi hi'
  subst ei
  conv=>whnf
  exact aG.bool (by rw[Pq,show JY a.counts q.goal=false from hall]; rfl)
abbrev hA(a:Elem)(l:List Elem):Hz:=[(0,some (.box 54 3 (.dat (.elem a)))),(1,some (iW l))]
theorem S.Pv(a b:Elem)(l:List Elem)(ha:a.counts.length<2^40)(hb:b.counts.length<2^40)(n:Nat):aT Tryz.prog 44 (V.aS [.dat (.elem b),.ptr 0 0 0]) (hA a l).aj n (fun t hp=>t=(V.bool (gW a b==0)).aF/\hp=(hA a l).aj):=by
 refine o7.of (nx:=2) (h0:=hA a l) Bd.pG (by simp) ⟨_,_,rfl,rfl⟩ rfl rfl ?_
 conv=>whnf
 refine ah.pure (S.fQ a b ha hb) rfl ?_
 conv=>whnf
 exact mO.same (nx:=2) (h0:=hA a l) rfl ⟨rfl,rfl,trivial⟩ rfl rfl ⟨rfl,rfl⟩
def Q7(a:Elem)(l:List Elem):Bool:=l.any fun b=>gW a b==0
theorem S.Na(a:Elem)(l:List Elem)(ha:a.counts.length<2^40)(hl:l.length<2^30)(hs:eU l)(n:Nat):aT Tryz.prog 70 (V.aS [.own 1,.fn 44 [.ptr 0 0 0]]) (hA a l).aj n (fun t hp=>t=(V.int (VT (fun b=>gW a b==0) l)).aF/\hp=(hA a l).aj):=by
 refine o7.of (nx:=2) (h0:=hA a l) Bd.bZ (by simp) ⟨_,_,rfl,rfl⟩ rfl rfl ?_
 conv=>whnf
 refine aP.same [0,1,7] (fun i:Nat=>[(8,.int i)]) (fun i=>i<=l.length/\(l.take i).any (fun b=>gW a b==0)=false) (fun i=>l.length-i) 0 rfl (by decide) rfl (fun _=>rfl) ⟨by omega,by simp⟩ ⟨⟨_,rfl,rfl⟩,trivial⟩ ?_
 conv=>whnf
 refine⟨rfl,?_⟩
 rintro i ⟨hi,hall⟩
 conv=>whnf
 refine⟨fun h3=>?_,fun h3=>?_⟩
 ·have hi':i<l.length:=by simpa using h3
  conv=>whnf
  repeat(refine VC.mk (by simp only[Rw.rng] at *; first|omega|(simp_all; done)|(simp_all; omega)) ?_; conv=>whnf)
  refine ah.heap (S.Pv a (l.getD i default) l ha (hs.get i) _) ?_
  rintro t hp ⟨rfl,rfl⟩
  refine⟨.bool (gW a (l.getD i default)==0),hA a l,rfl,rfl,?_⟩
  conv=>whnf
  refine⟨fun h4=>?_,fun h4=>?_⟩
  ·conv=>whnf
   refine mO.same (nx:=2) (h0:=hA a l) rfl ⟨rfl,rfl,trivial⟩ rfl rfl ⟨?_,rfl⟩
   rw[VT,if_pos (sH (p:=fun b=>gW a b==0) (d:=default) hi' h4),HY (p:=fun b=>gW a b==0) hi' hall h4]
  ·conv=>whnf
   refine .mk (by simp only[okI] at *; first|omega|(simp_all; done)|(simp_all; omega)) ?_
   conv=>whnf
   refine⟨i+1,⟨by omega,?_⟩,by omega,⟨⟨_,rfl,rfl⟩,trivial⟩,?_,rfl⟩
   ·rw[xY (p:=fun b=>gW a b==0) (d:=default) hi' hall]; exact h4
   ·repeat' (first|exact trivial|exact⟨_,rfl,rfl⟩|constructor)
 ·have hi':l.length<=i:=by simpa using h3
  rw[List.take_of_length_le hi'] at hall
  conv=>whnf
  refine mO.same (nx:=2) (h0:=hA a l) rfl ⟨rfl,rfl,trivial⟩ rfl rfl ⟨?_,rfl⟩
  rw[VT,if_neg (by rw[hall]; decide)]
theorem S.FM(a:Elem)(l:List Elem)(ha:a.counts.length<2^40)(hl:l.length<2^30)(hs:eU l)(n:Nat):aT Tryz.prog 43 (V.aS [.own 1,.fn 44 [.ptr 0 0 0]]) (hA a l).aj n (fun t hp=>t=(V.bool (Q7 a l)).aF/\hp=(hA a l).aj):=by
 refine o7.of (nx:=2) (h0:=hA a l) Bd.bJ (by simp) ⟨_,_,rfl,rfl⟩ rfl rfl ?_
 conv=>whnf
 refine ah.heap (S.Na a l ha hl hs _) ?_
 rintro t hp ⟨rfl,rfl⟩
 refine⟨.int (VT (fun b=>gW a b==0) l),hA a l,rfl,rfl,?_⟩
 conv=>whnf
 refine mO.same (nx:=2) (h0:=hA a l) rfl ⟨rfl,rfl,trivial⟩ rfl rfl ⟨?_,rfl⟩
 unfold VT Q7
 cases hk:l.any fun b=>gW a b==0 with
 |true=>rw[if_pos rfl,show decide ((0:Int)<=(l.findIdx (fun b=>gW a b==0):Int))=true from decide_eq_true (by omega)]
 |false=>rfl
abbrev hA0(a:Elem):Hz:=[(0,some (.box 54 3 (.dat (.elem a))))]
theorem S.J4(a:Elem)(n:Nat):aT Tryz.prog 70 (V.aS [.row 0 true .nil,.fn 44 [.ptr 0 0 0]]) (hA0 a).aj n (fun t hp=>t=(V.int (-1)).aF/\hp=(hA0 a).aj):=by
 refine o7.of (nx:=1) (h0:=hA0 a) Bd.bZ (by simp) ⟨_,_,rfl,rfl⟩ rfl rfl ?_
 conv=>whnf
 refine aP.times 1 rfl ?_
 conv=>whnf
 refine Fork.mk (fun q=>absurd (q.symm.trans ((rfl:decide ((0:Int)<0)=false))).symm Bool.false_ne_true) (fun _=>?_)
 conv=>whnf
 exact mO.same (nx:=1) (h0:=hA0 a) rfl ⟨rfl,trivial⟩ rfl rfl ⟨rfl,rfl⟩
theorem S.Ez(a:Elem)(n:Nat):aT Tryz.prog 43 (V.aS [.row 0 true .nil,.fn 44 [.ptr 0 0 0]]) (hA0 a).aj n (fun t hp=>t=(V.bool false).aF/\hp=(hA0 a).aj):=by
 refine o7.of (nx:=1) (h0:=hA0 a) Bd.bJ (by simp) ⟨_,_,rfl,rfl⟩ rfl rfl ?_
 conv=>whnf
 refine ah.heap (S.J4 a _) ?_
 rintro t hp ⟨rfl,rfl⟩
 refine⟨.int (-1),hA0 a,rfl,rfl,?_⟩
 conv=>whnf
 exact mO.same (nx:=1) (h0:=hA0 a) rfl ⟨rfl,trivial⟩ rfl rfl ⟨rfl,rfl⟩
def mD(q:Prop')(out:List Elem)(a:Elem):List Elem:=if(!(Q7 a out)&&mP q a)=true then out++[a] else out
def fK(q:Prop')(out l:List Elem):List Elem:=l.foldl (mD q) out
theorem FN{q:Prop'}{out l:List Elem}{i:Nat}(hi:i<l.length):fK q out (l.take (i+1))=mD q (fK q out (l.take i)) (l.getD i default):=by
 unfold fK
 have ht:l.take (i+1)=l.take i++[l.getD i default]:=by rw[List.take_add_one]; simp[hi]
 rw[ht,List.foldl_append]; rfl
theorem IL{q:Prop'}: ∀ {l out:List Elem},(fK q out l).length<=out.length+l.length:=by
 intro l
 induction l with
 |nil=>intro out; exact Nat.le_refl _
 |cons a l ih =>
  intro out
  have h1:(mD q out a).length<=out.length+1:=by unfold mD; split<;>simp
  have h2:=ih (out:=mD q out a)
  show(fK q (mD q out a) l).length<=_
  rw[List.length_cons]; omega
theorem pI{q:Prop'}: ∀ {l out:List Elem} {x:Elem},x∈fK q out l↔x∈out\/(x∈l/\mP q x=true):=by
 intro l
 induction l with
 |nil=>intro out x; simp[fK]
 |cons a l ih =>
  intro out x
  show x∈fK q (mD q out a) l↔_
  rw[ih]
  have kn:Q7 a out=true↔a∈out:=by
   unfold Q7
   rw[List.any_eq_true]
   constructor
   ·rintro⟨b,hb,h⟩
    rw[beq_iff_eq,iP] at h
    rw[h]; exact hb
   ·intro h; exact⟨a,h,by rw[beq_iff_eq,iP]⟩
  have h1:x∈mD q out a↔x∈out\/(x=a/\mP q a=true):=by
   unfold mD
   split
   ·rename_i h
    rw[Bool.and_eq_true] at h
    rw[List.mem_append,List.mem_singleton]
    simp[h.2]
   ·rename_i h
    rw[Bool.and_eq_true,Bool.not_eq_true'] at h
    constructor
    ·exact .inl
    ·rintro(h2|⟨rfl,h2⟩)
     ·exact h2
     ·cases hk:Q7 x out with
      |true=>exact kn.1 hk
      |false=>exact absurd ⟨hk,h2⟩ h
  rw[h1,List.mem_cons]
  constructor
  ·rintro((h|⟨rfl,h⟩)|⟨h,g⟩)
   ·exact .inl h
   ·exact .inr ⟨.inl rfl,h⟩
   ·exact .inr ⟨.inr h,g⟩
  ·rintro(h|⟨rfl|h,g⟩)
   ·exact .inl (.inl h)
   ·exact .inl (.inr ⟨rfl,g⟩)
   ·exact .inr ⟨h,g⟩
abbrev Nb:OV:=.box 51 0 (.row 0 true .nil)
abbrev zq(j:Nat):OV:=.box 51 0 (.own j)
abbrev nX(q:Prop'):OV:=.box 30 7 (.dat (.prop q))
abbrev hM(q:Prop')(out:List Elem):Hz:=[(0,some (zq 2)),(1,some (nX q)),(2,some (iW out))]
abbrev Q8(l:List Elem):List V:=[.row 3 false (.elems l),.ptr 0 0 0,.ptr 1 0 0]
theorem FP{q:Prop'}{out l:List Elem}(h1:eU out)(h2:eU l):eU (fK q out l):=fun x hx=>by
 rcases pI.1 hx with h|⟨h,_⟩
 ·exact h1 x h
 ·exact h2 x h
theorem FQ{l:List Elem}(h:eU l)(i:Nat):eU (l.take i):=fun x hx=>h x (List.mem_of_mem_take hx)
theorem ah.contains{a:Elem}{l:List Elem}{h:Hz}{i j n:Nat}{K:V->Hz->Prop}{KW:Nat->V->Hz->Prop}(ha:a.counts.length<2^40)(hl:l.length<2^30)(hs:eU l)(hi:h.get i=some (.box 54 3 (.dat (.elem a))))(hj:h.get j=some (iW l))(hn:h.get n=none)(hij:i≠j)
  (hK:K (.bool (Q7 a l)) ((i,some (.box 54 3 (.dat (.elem a))))::(j,some (iW l))::(n,none)::h)):ah Tryz.prog false none 43 [.own j,.fn 44 [.ptr i 0 0]] h n K KW:=by
 have hin:i≠n:=by rintro rfl; rw[hi] at hn; cases hn
 have hjn:j≠n:=by rintro rfl; rw[hj] at hn; cases hn
 refine ah.J5 (ts:=[.own 1,.fn 44 [.ptr 0 0 0]]) (pre:=hA a l) [i,j] (S.FM a l ha hl hs 2) rfl rfl rfl rfl rfl ⟨⟨_,hi,gX rfl _⟩,⟨_,hj,gX rfl _⟩,trivial⟩ hn (by simp[hij,hin,hjn]) ?_
 rintro t hp ⟨rfl,rfl⟩
 exact⟨.bool (Q7 a l),[some (.box 54 3 (.dat (.elem a))),some (iW l),none],rfl,rfl,⟨congrArg some (gX (o:=.box 54 3 (.dat (.elem a))) rfl _).symm,congrArg some (gX (o:=iW l) rfl _).symm,rfl,trivial⟩,hK⟩
theorem ah.Tv{a:Elem}{h:Hz}{i n:Nat}{K:V->Hz->Prop}{KW:Nat->V->Hz->Prop}(hi:h.get i=some (.box 54 3 (.dat (.elem a))))(hn:h.get n=none)
  (hK:K (.bool false) ((i,some (.box 54 3 (.dat (.elem a))))::(n,none)::h)):ah Tryz.prog false none 43 [.row 0 true .nil,.fn 44 [.ptr i 0 0]] h n K KW:=by
 have hin:i≠n:=by rintro rfl; rw[hi] at hn; cases hn
 refine ah.J5 (ts:=[.row 0 true .nil,.fn 44 [.ptr 0 0 0]]) (pre:=hA0 a) [i] (S.Ez a 1) rfl rfl rfl rfl rfl ⟨⟨_,hi,gX rfl _⟩,trivial⟩ hn (by simp[hin]) ?_
 rintro t hp ⟨rfl,rfl⟩
 exact⟨.bool false,[some (.box 54 3 (.dat (.elem a))),none],rfl,rfl,⟨congrArg some (gX (o:=.box 54 3 (.dat (.elem a))) rfl _).symm,rfl,trivial⟩,hK⟩
set_option maxHeartbeats 1000000 in
theorem S.VU(q:Prop')(out l:List Elem)(hq:jO q)(ho:out.length+l.length<2^30)(so:eU out)(sl:eU l):aT Tryz.prog 42 (V.aS (Q8 l)) (hM q out).aj 3 (fun t hp=>t=(V.fU []).aF/\hp=Hz.aj [(0,some (zq 3)),(1,some (nX q)),(3,some (iW (fK q out l)))]):=by
 refine o7.of (nx:=3) (h0:=hM q out) Bd.qw (by simp) ⟨_,_,rfl,rfl⟩ rfl rfl ?_
 conv=>whnf
 refine aP.xE 4 [1,2,7,8] (fun a:Nat=>[(9,.int a)]) (fun a=>[(0,zq 3),(1,nX q),(3,iW (fK q out (l.take a)))]) (fun a=>a<=l.length) (fun a=>l.length-a) 0 [0,1,2] rfl (by decide) (fun _=>rfl) (Nat.zero_le _) ?_ ?_ ?_
 ·exact(sR rfl)
 ·exact⟨nV rfl rfl rfl ⟨rfl,rfl⟩ (dL.of_eq rfl),cu rfl rfl,cu rfl rfl,trivial⟩
 conv=>whnf
 refine⟨(sR rfl),rfl,?_⟩
 rintro a ha
 have hml:=IL (q:=q) (l:=l.take a) (out:=out)
 rw[List.length_take] at hml
 have hms:=FP (q:=q) so (FQ sl a)
 conv=>whnf
 refine⟨fun h1=>?_,fun h1=>?_⟩
 ·have ha':a<l.length:=by simpa using h1
  have hstep:=FN (q:=q) (out:=out) ha'
  have hel:=sl.get a
  conv=>whnf
  refine .mk (by simp only[Rw.rng] at *; first|omega|(simp_all; done)|(simp_all; omega)) ?_
  conv=>whnf
  refine ah.contains (a:=l.getD a default) (l:=fK q out (l.take a)) hel (by omega) hms rfl rfl rfl (by decide) ?_
  conv=>whnf
  repeat(refine VC.mk (by first|exact id|exact fun h=>⟨h,h⟩) ?_; conv=>whnf)
  refine ah.jC (fun _=>S.kC q (l.getD a default) hq hel) rfl ?_
  conv=>whnf
  repeat(refine VC.mk (by first|exact id|(intro h; simp_all; done)) ?_; conv=>whnf)
  refine⟨fun h2=>?_,fun h2=>?_⟩
  ·replace h2:(!(Q7 (l.getD a default) (fK q out (l.take a)))&&mP q (l.getD a default))=true:=h2
   rw[mD,if_pos h2] at hstep
   conv=>whnf
   repeat(refine VC.mk (by first|(show((fK q out (l.take a)).length+(0+1))*32<=140737488355328/\(fK q out (l.take a)).length+(0+1)<=1152921504606846976; omega)|(simp only[okI] at *; first|omega|(simp_all; done)|(simp_all; omega))) ?_; conv=>whnf)
   refine⟨a+1,[0,1,29],by omega,by omega,(sR rfl),(sR rfl),nV rfl rfl rfl ⟨rfl,rfl⟩ (dL.of_eq rfl),cu rfl rfl,okF rfl nofun rfl rfl rfl ⟨rfl,rfl⟩ ?_,trivial⟩
   rw[hstep]
   show List.map gV (fK q out (l.take a)++[l.getD a default])++[]=List.map gV (fK q out (l.take a))++[gV (l.getD a default)]
   simp
  ·replace h2:(!(Q7 (l.getD a default) (fK q out (l.take a)))&&mP q (l.getD a default))=false:=h2
   rw[mD,if_neg (by rw[h2]; decide)] at hstep
   conv=>whnf
   refine .mk (by simp only[okI] at *; first|omega|(simp_all; done)|(simp_all; omega)) ?_
   conv=>whnf
   refine⟨a+1,[0,1,3],by omega,by omega,(sR rfl),(sR rfl),nV rfl rfl rfl ⟨rfl,rfl⟩ (dL.of_eq rfl),cu rfl rfl,okF rfl nofun rfl rfl rfl ⟨rfl,rfl⟩ (by rw[hstep]),trivial⟩
 ·have ha':l.length<=a:=by simpa using h1
  rw[List.take_of_length_le ha']
  conv=>whnf
  exact mO.objs [(0,zq 3),(1,nX q),(3,iW (fK q out l))] [0,1,3] rfl ⟨nV rfl rfl rfl ⟨rfl,rfl⟩ (dL.of_eq rfl),cu rfl rfl,cu rfl rfl,trivial⟩ rfl rfl ⟨rfl,rfl⟩
theorem FT.at{ι:Type}{inv:ι->Prop}{μ:ι->Nat}{vars:ι->Fm}{objs:ι->List (Nat×OV)}{base:Fm}{nx pn:Nat}{i:ι}{m:Fm}{h:Hz}(j:ι)(nw:List Nat)(L:List (Nat×OV))(e:objs j=L)(h1:inv j)(h2:μ j<μ i)(h3:iL (dR L nw) m (vars j))(h4:iL (dR L nw) m base)(h5:okR (dR L nw) nx pn h L nw):FT inv μ vars objs base nx pn i m h:=by
 subst e
 exact⟨j,nw,h1,h2,h3,h4,h5⟩
def Nc(q:Prop')(out:List Elem):List (Nat×OV):=match out with
 |[]=>[(0,Nb),(1,nX q)]
 |x::l=>[(0,zq 2),(1,nX q),(2,iW (x::l))]
abbrev hN(q:Prop'):Hz:=[(0,some Nb),(1,some (nX q))]
set_option maxHeartbeats 2000000 in
theorem S.VW(q:Prop')(l:List Elem)(hq:jO q)(hl:l.length<2^28)(sl:eU l):aT Tryz.prog 42 (V.aS (Q8 l)) (hN q).aj 2 (fun t hp=>t=(V.fU []).aF/\hp=(ng (Nc q (fK q [] l))).aj):=by
 refine o7.of (nx:=2) (h0:=hN q) Bd.qw (by simp) ⟨_,_,rfl,rfl⟩ rfl rfl ?_
 conv=>whnf
 refine aP.xE 3 [1,2,7,8] (fun a:Nat=>[(9,.int a)]) (fun a=>Nc q (fK q [] (l.take a))) (fun a=>a<=l.length) (fun a=>l.length-a) 0 [0,1] rfl (by decide) (fun _=>rfl) (Nat.zero_le _) ?_ ?_ ?_
 ·exact(sR rfl)
 ·exact⟨nV rfl rfl rfl ⟨rfl,rfl⟩ (dL.of_eq rfl),cu rfl rfl,trivial⟩
 conv=>whnf
 refine⟨(sR rfl),rfl,?_⟩
 rintro a ha
 have hml:=IL (q:=q) (l:=l.take a) (out:=[])
 rw[List.length_take,List.length_nil] at hml
 have hms:=FP (q:=q) (fun _ h=>by cases h) (FQ sl a) (out:=[])
 have hstep:a<l.length->fK q [] (l.take (a+1))=mD q (fK q [] (l.take a)) (l.getD a default):=fun h=>FN h
 have hend:l.length<=a->fK q [] l=fK q [] (l.take a):=fun h=>by rw[List.take_of_length_le h]
 have hel:=sl.get a
 generalize fK q [] (l.take a)=out at hml hms hstep hend ⊢
 cases out with
 |nil =>
  show az _ _ _ _ _ _ (ng [(0,Nb),(1,nX q)]) _
  conv=>whnf
  refine⟨fun h1=>?_,fun h1=>?_⟩
  ·have ha':a<l.length:=by simpa using h1
   replace hstep:=hstep ha'
   conv=>whnf
   refine .mk (by simp only[Rw.rng] at *; first|omega|(simp_all; done)|(simp_all; omega)) ?_
   conv=>whnf
   refine ah.Tv (a:=l.getD a default) rfl rfl ?_
   conv=>whnf
   repeat(refine VC.mk (by first|exact id|exact fun h=>⟨h,h⟩) ?_; conv=>whnf)
   refine ah.jC (fun _=>S.kC q (l.getD a default) hq hel) rfl ?_
   conv=>whnf
   repeat(refine VC.mk (by first|exact id|(intro h; simp[]; done)) ?_; conv=>whnf)
   refine⟨fun h2=>?_,fun h2=>?_⟩
   ·replace h2:mP q (l.getD a default)=true:=h2
    rw[mD,if_pos (by rw[h2]; rfl)] at hstep
    conv=>whnf
    repeat(refine VC.mk (by first|(show(0+(0+1))*32<=140737488355328/\0+(0+1)<=1152921504606846976; omega)|(simp only[okI] at *; first|omega|(simp_all; done)|(simp_all; omega))) ?_; conv=>whnf)
    refine FT.at (a+1) [0,1,28] [(0,zq 2),(1,nX q),(2,iW [l.getD a default])] (congrArg (Nc q) hstep) (by omega) (by omega) (sR rfl) (sR rfl) ⟨nV rfl rfl rfl ⟨rfl,rfl⟩ (dL.of_eq rfl),cu rfl rfl,cu rfl rfl,trivial⟩
   ·replace h2:mP q (l.getD a default)=false:=h2
    rw[mD,if_neg (by rw[h2,Bool.and_false]; exact Bool.false_ne_true)] at hstep
    conv=>whnf
    refine .mk (by simp only[okI] at *; first|omega|(simp_all; done)|(simp_all; omega)) ?_
    conv=>whnf
    refine FT.at (a+1) [0,1] [(0,Nb),(1,nX q)] (congrArg (Nc q) hstep) (by omega) (by omega) (sR rfl) (sR rfl) ⟨nV rfl rfl rfl ⟨rfl,rfl⟩ (dL.of_eq rfl),cu rfl rfl,trivial⟩
  ·have ha':l.length<=a:=by simpa using h1
   rw[hend ha']
   conv=>whnf
   exact mO.objs [(0,Nb),(1,nX q)] [0,1] rfl ⟨nV rfl rfl rfl ⟨rfl,rfl⟩ (dL.of_eq rfl),cu rfl rfl,trivial⟩ rfl rfl ⟨rfl,rfl⟩
 |cons x out =>
  show az _ _ _ _ _ _ (ng [(0,zq 2),(1,nX q),(2,iW (x::out))]) _
  generalize ho:x::out=o at hml hms hstep hend ⊢
  have hoM:Nc q o=[(0,zq 2),(1,nX q),(2,iW o)]:=by subst ho; rfl
  have aeb: ∀ e,Nc q (o++[e])=[(0,zq 2),(1,nX q),(2,iW (o++[e]))]:=fun e=>by subst ho; rfl
  conv=>whnf
  refine⟨fun h1=>?_,fun h1=>?_⟩
  ·have ha':a<l.length:=by simpa using h1
   replace hstep:=hstep ha'
   conv=>whnf
   refine .mk (by simp only[Rw.rng] at *; first|omega|(simp_all; done)|(simp_all; omega)) ?_
   conv=>whnf
   refine ah.contains (a:=l.getD a default) (l:=o) hel (by omega) hms rfl rfl rfl (by decide) ?_
   conv=>whnf
   repeat(refine VC.mk (by first|exact id|exact fun h=>⟨h,h⟩) ?_; conv=>whnf)
   refine ah.jC (fun _=>S.kC q (l.getD a default) hq hel) rfl ?_
   conv=>whnf
   repeat(refine VC.mk (by first|exact id|(intro h; simp_all; done)) ?_; conv=>whnf)
   refine⟨fun h2=>?_,fun h2=>?_⟩
   ·replace h2:(!(Q7 (l.getD a default) o)&&mP q (l.getD a default))=true:=h2
    rw[mD,if_pos h2] at hstep
    conv=>whnf
    repeat(refine VC.mk (by first|(show(o.length+(0+1))*32<=140737488355328/\o.length+(0+1)<=1152921504606846976; omega)|(simp only[okI] at *; first|omega|(simp_all; done)|(simp_all; omega))) ?_; conv=>whnf)
    refine FT.at (a+1) [0,1,28] _ ((congrArg (Nc q) hstep).trans (aeb _)) (by omega) (by omega) (sR rfl) (sR rfl) ⟨nV rfl rfl rfl ⟨rfl,rfl⟩ (dL.of_eq rfl),cu rfl rfl,okF rfl nofun rfl rfl rfl ⟨rfl,rfl⟩ ?_,trivial⟩
    show List.map gV (o++[l.getD a default])++[]=List.map gV o++[gV (l.getD a default)]
    simp
   ·replace h2:(!(Q7 (l.getD a default) o)&&mP q (l.getD a default))=false:=h2
    rw[mD,if_neg (by rw[h2]; exact Bool.false_ne_true)] at hstep
    conv=>whnf
    refine .mk (by simp only[okI] at *; first|omega|(simp_all; done)|(simp_all; omega)) ?_
    conv=>whnf
    refine FT.at (a+1) [0,1,2] _ ((congrArg (Nc q) hstep).trans hoM) (by omega) (by omega) (sR rfl) (sR rfl) ⟨nV rfl rfl rfl ⟨rfl,rfl⟩ (dL.of_eq rfl),cu rfl rfl,cu rfl rfl,trivial⟩
  ·have ha':l.length<=a:=by simpa using h1
   rw[hend ha',hoM]
   conv=>whnf
   exact mO.objs [(0,zq 2),(1,nX q),(2,iW o)] [0,1,2] rfl ⟨nV rfl rfl rfl ⟨rfl,rfl⟩ (dL.of_eq rfl),cu rfl rfl,cu rfl rfl,trivial⟩ rfl rfl ⟨rfl,rfl⟩
theorem ah.VW{q:Prop'}{l:List Elem}{h:Hz}{B C n:Nat}{K:V->Hz->Prop}{KW:Nat->V->Hz->Prop}(hq:jO q)(hl:l.length<2^28)(sl:eU l)(hB:h.get B=some Nb)(hC:h.get C=some (nX q))(hBC:B≠C)(hn:h.get n=none)
  (h0:fK q [] l=[]->K (.fU []) ((B,some Nb)::(C,some (nX q))::(n,none)::h))
  (h1: ∀ x o,fK q [] l=x::o->K (.fU []) ((B,some (zq n))::(C,some (nX q))::(n,some (iW (x::o)))::h)):ah Tryz.prog false none 42 [.row 3 false (.elems l),.ptr B 0 0,.ptr C 0 0] h n K KW:=by
 have hBn:B≠n:=by rintro rfl; rw[hB] at hn; cases hn
 have hCn:C≠n:=by rintro rfl; rw[hC] at hn; cases hn
 refine ah.J5 (ts:=Q8 l) (pre:=hN q) [B,C] (S.VW q l hq hl sl) rfl rfl rfl rfl rfl ⟨⟨_,hB,rfl⟩,⟨_,hC,gX rfl _⟩,trivial⟩ hn (by simp[hBC,hBn,hCn]) ?_
 rintro t hp ⟨rfl,rfl⟩
 cases hm:fK q [] l with
 |nil=>exact⟨.fU [],[some Nb,some (nX q),none],rfl,rfl,⟨rfl,congrArg some (gX (o:=nX q) rfl _).symm,rfl,trivial⟩,h0 hm⟩
 |cons x o=>exact⟨.fU [],[some (zq n),some (nX q),some (iW (x::o))],rfl,rfl,⟨rfl,congrArg some (gX (o:=nX q) rfl _).symm,congrArg some (gX (o:=iW (x::o)) rfl _).symm,trivial⟩,h1 x o hm⟩
theorem ah.VU{q:Prop'}{out l:List Elem}{h:Hz}{B C j n:Nat}{K:V->Hz->Prop}{KW:Nat->V->Hz->Prop}(hq:jO q)(ho:out.length+l.length<2^30)(so:eU out)(sl:eU l)(hB:h.get B=some (zq j))(hC:h.get C=some (nX q))(hj:h.get j=some (iW out))(hBC:B≠C)(hBj:B≠j)(hCj:C≠j)(hn:h.get n=none)
  (hK:K (.fU []) ((B,some (zq n))::(C,some (nX q))::(j,none)::(n,some (iW (fK q out l)))::h)):ah Tryz.prog false none 42 [.row 3 false (.elems l),.ptr B 0 0,.ptr C 0 0] h n K KW:=by
 have hBn:B≠n:=by rintro rfl; rw[hB] at hn; cases hn
 have hCn:C≠n:=by rintro rfl; rw[hC] at hn; cases hn
 have hjn:j≠n:=by rintro rfl; rw[hj] at hn; cases hn
 refine ah.J5 (ts:=Q8 l) (pre:=hM q out) [B,C,j] (S.VU q out l hq ho so sl) rfl rfl rfl rfl rfl ⟨⟨_,hB,rfl⟩,⟨_,hC,gX rfl _⟩,⟨_,hj,gX rfl _⟩,trivial⟩ hn (by simp[hBC,hBn,hCn,hBj,hCj,hjn]) ?_
 rintro t hp ⟨rfl,rfl⟩
 exact⟨.fU [],[some (zq n),some (nX q),none,some (iW (fK q out l))],rfl,rfl,⟨rfl,congrArg some (gX (o:=nX q) rfl _).symm,rfl,congrArg some (gX (o:=iW (fK q out l)) rfl _).symm,trivial⟩,hK⟩
theorem S.Px:au Tryz.prog 131 [.row 0 true .nil,.int 0,.int 0,.fn 45 []] (.fU []):=by
 refine au.of Bd.dh (by simp) rfl rfl ?_
 conv=>whnf
 refine .mk (by simp only[okI] at *; first|omega|(simp_all; done)|(simp_all; omega)) ?_
 conv=>whnf
 refine aP.times 1 rfl ?_
 conv=>whnf
 refine Fork.mk (fun q=>absurd (q.symm.trans ((rfl:decide ((0:Int)+1<0)=false))).symm Bool.false_ne_true) (fun _=>?_)
 conv=>whnf
 exact⟨aB _⟩
theorem S.aec:au Tryz.prog 109 [.row 0 true .nil,.int 0,.int 0,.int 0,.fn 45 []] (.fU []):=by
 refine au.of Bd.dP (by simp) rfl rfl ?_
 conv=>whnf
 refine aP.times 1 rfl ?_
 conv=>whnf
 refine .mk (by simp only[okI] at *; first|omega|(simp_all; done)|(simp_all; omega)) ?_
 conv=>whnf
 refine Fork.mk (fun _=>?_) (fun q=>absurd (q.symm.trans ((rfl:decide ((0:Int)-0<=12)=true))) Bool.false_ne_true)
 conv=>whnf
 refine ah.pure (S.Px) rfl ?_
 conv=>whnf
 exact⟨aB _⟩
theorem S.acT:au Tryz.prog 78 [.row 0 true .nil,.fn 45 []] (.fU []):=by
 refine au.of Bd.bC (by simp) rfl rfl ?_
 conv=>whnf
 refine .mk (by omega) ?_
 conv=>whnf
 refine ah.pure (S.bitsLen) rfl ?_
 conv=>whnf
 refine ah.pure (S.aec) rfl ?_
 conv=>whnf
 exact⟨aB _⟩
theorem S.acU:au Tryz.prog 79 [.row 0 true .nil,.fn 80 []] (.row 0 true .nil):=by
 refine au.of Bd.bU (by simp) rfl rfl ?_
 conv=>whnf
 refine Fork.mk (fun _=>?_) (fun q=>absurd (q.symm.trans ((rfl:decide ((0:Int)<2)=true))) Bool.false_ne_true)
 conv=>whnf
 exact⟨aB _⟩
theorem S.Py:au Tryz.prog 49 [.row 0 true .nil] (.row 0 true .nil):=by
 refine au.of Bd.rJ (by simp) rfl rfl ?_
 conv=>whnf
 refine ah.pure (S.acT) rfl ?_
 conv=>whnf
 refine ah.pure (S.acU) rfl ?_
 conv=>whnf
 exact⟨aB _⟩
def LX(b:Int)(c:List Int):Prop:= ∀ x∈c,0<=x/\x<=b
theorem LX.g{b:Int}{c:List Int}(h:LX b c)(hb:0<=b)(i:Nat):0<=c.getD i 0/\c.getD i 0<=b:=by
 by_cases hi:i<c.length
 ·rw[show c.getD i 0=c[i] by simp[hi]]; exact h _ (List.getElem_mem hi)
 ·rw[show c.getD i 0=0 by simp[List.getD_eq_getElem?_getD,List.getElem?_eq_none (by omega:c.length<=i)]]; omega
theorem LX.add{b k d i:Int}{c:List Int}(h:LX b c)(hb:0<=b)(hd:0<=d/\d<=k):LX (b+k) (jK c i d):=by
 intro x hx
 have hg:=h.g hb i.toNat
 rcases List.mem_or_eq_of_mem_set hx with hx|rfl
 ·have:=h x hx; omega
 ·omega
theorem LX.dec{b i:Int}{c:List Int}(h:LX b c)(hb:0<=b)(h0:(c.getD i.toNat 0==0)=false):LX b (cO c i):=by
 intro x hx
 have hg:=h.g hb i.toNat
 have:=beq_eq_false_iff_ne.1 h0
 rcases List.mem_or_eq_of_mem_set hx with hx|rfl
 ·exact h x hx
 ·omega
theorem LX.resp{b:Int}{c:List Int}{r:Rule}(h:LX b c)(hb:0<=b): ∀ i:Nat,LX (i*b) (sF r c i):=by
 intro i
 induction i with
 |zero=>intro x hx; have:=List.eq_of_mem_replicate hx; subst this; simp
 |succ i ih =>
  rw[uY]
  have h0:0<=(i:Int)*b:=Int.mul_nonneg (by omega) hb
  have:=ih.add h0 (h.g hb i) (i:=r.response.getD i 0)
  have e:((i+1:Nat):Int)*b=i*b+b:=by rw[Int.natCast_succ,Int.add_mul,Int.one_mul]
  rw[e]; exact this
theorem LX.mono{b k:Int}{c:List Int}(h:LX b c)(hk:b<=k):LX k c:=fun x hx=>by have:=h x hx; omega
theorem YT{r:Rule}{e x:Elem}(hc:LX 8 e.counts)(hl:e.counts.length<=6)(h:iC r e=some x):EJ x.counts:=by
 have lift: ∀ {c:List Int} {v:Int},LX 100 c->some (⟨v,jK c r.to 1⟩:Elem)=some x->EJ x.counts:=by
  intro c v hc h; cases h
  exact(hc.add (k:=1) (by omega) ⟨by omega,by omega⟩).mono (by omega)
 unfold iC at h
 cases hs:(decide (0<=r.read)&&e.value !=r.read||e.counts.getD r.fr.toNat 0==0) with
 |true=>rw[hs] at h; cases h
 |false =>
  rw[hs] at h
  rw[Bool.or_eq_false_iff] at hs
  have h1:LX 8 (cO e.counts r.fr):=hc.dec (by omega) hs.2
  simp only[cond_false] at h
  rcases gI h with h|h
  ·rcases gI h with h|h
   ·cases h
   ·exact lift (h1.mono (by omega)) h
  ·cases hp:(cO e.counts r.fr).getD r.iw.toNat 0==0 with
   |true =>
    rw[hp] at h
    rcases gI h with h|h
    ·cases h
    ·rcases gI h with h|h
     ·refine lift ((h1.resp (by omega) (r:=r) (cO e.counts r.fr).length).mono ?_) h
      rw[lU]
      have:(e.counts.length:Int)*8<=6*8:=Int.mul_le_mul_of_nonneg_right (by omega) (by omega)
      omega
     ·exact lift (h1.mono (by omega)) h
   |false =>
    rw[hp] at h
    rcases gI h with h|h
    ·exact lift (((h1.dec (by omega) hp).add (k:=1) (by omega) ⟨by omega,by omega⟩).mono (by omega)) h
    ·rcases gI h with h|h
     ·refine lift ((h1.resp (by omega) (r:=r) (cO e.counts r.fr).length).mono ?_) h
      rw[lU]
      have:(e.counts.length:Int)*8<=6*8:=Int.mul_le_mul_of_nonneg_right (by omega) (by omega)
      omega
     ·exact lift (h1.mono (by omega)) h
theorem VX{r:Rule}{e x:Elem}(h:iC r e=some x):x.value=(bif decide (r.write>=0) then r.write else e.value):=by
 have lift: ∀ {c:List Int},some (⟨bif decide (r.write>=0) then r.write else e.value,c⟩:Elem)=some x->x.value=(bif decide (r.write>=0) then r.write else e.value):=by
  intro c h; cases h; rfl
 unfold iC at h
 rcases gI h with h|h
 ·cases h
 rcases gI h with h|h
 ·rcases gI h with h|h
  ·cases h
  ·exact lift h
 rcases gI h with h|h
 ·rcases gI h with h|h
  ·cases h
  ·exact lift h
 rcases gI h with h|h
 ·exact lift h
 ·exact lift h
structure Pz(p:aH)(a:Elem):Prop where
 abs:Tt a
 len:a.counts.length=p.states.length
 val:0<=a.value/\a.value<max 1 (p.values.length:Int)
theorem Pz.ini{p:aH}{q:Prop'}{x:Elem}(hc:CX p=0)(h:x∈qY p q):Pz p x:=by
 have hst:=(oC (iV (ou hc)).1).states
 unfold qY initK at h
 obtain⟨c,hc',rfl⟩:=List.mem_map.1 h
 obtain⟨h1,h2⟩:=List.mem_filter.1 hc'
 obtain⟨h3,h4⟩:=FH.1 h1
 unfold YP at h2
 rw[Bool.and_eq_true] at h2
 exact⟨⟨fun y hy=>by have:=h4 y hy; omega,List.all_eq_true.2 fun y hy=>by have:=h4 y hy; simp[Vu]; omega,by show c.length<=6; omega,of_decide_eq_true h2.1⟩,h3,by show(0:Int)<=0/\(0:Int)<max 1 (p.values.length:Int); omega⟩
theorem Pz.post{p:aH}{r:Rule}{x y:Elem}(hc:CX p=0)(hr:r∈p.rules)(h:Pz p x)(hy:y∈jL r x):Pz p y:=by
 have hst:=(oC (iV (ou hc)).1).states
 obtain⟨i,hi,JZ⟩:=List.mem_iff_getElem.1 hr
 have acV:p.rules.getD i default=r:=by rw[List.getD_eq_getElem?_getD,List.getElem?_eq_getElem hi]; exact JZ
 have hw:Yt x.counts.length r:=by rw[h.len,<- acV]; exact wtR hc hi
 have hR:=aaL (oC (iV (ou hc)).1) (Iu (iV (ou hc)).2) hi
 rw[acV] at hR
 rw[jL,rO] at hy
 obtain⟨e,he,z,hz,rfl⟩:=IG hy
 obtain⟨g0,g1,g2,g3⟩:=AX he
 rw[lX] at g1 g2
 have hn:LX 8 e.counts:=fun v hv=>by
  obtain⟨j,hj,ej⟩:=List.mem_iff_getElem.1 hv
  have hm:=((MV h.abs.ok).1 g2).2 j (by omega)
  have h2:e.counts.getD j 0=v:=by rw[List.getD_eq_getElem?_getD,List.getElem?_eq_getElem hj]; exact ej
  rw[h2] at hm
  have h3:=h.abs.ok.get (show j<x.counts.length by omega)
  have h4:=List.all_eq_true.1 h.abs.two (x.counts.getD j 0) (eY (by omega))
  have h5:x.counts.getD j 0<=2:=by simpa [Vu] using h4
  have:=MW hm
  omega
 have hel:e.counts.length<=6:=by have:=h.abs.len; omega
 have hok:=YT hn hel hz
 have hzl:=yS hz
 have aed:EJ e.counts:=fun v hv=>by have:=hn v hv; omega
 have hes:0<e.counts.sum:=by rw[<- JQ hel (EM aed)]; exact g3
 have hzs:0<z.counts.sum:=by rw[O9 (by rw[g1]; exact hw) hz]; exact hes
 have hcl:(uU z.counts).length=z.counts.length:=VR _
 refine⟨⟨J3 hok,YR _,by show(uU z.counts).length<=6; omega,?_⟩,by show(uU z.counts).length=_; rw[hcl,hzl,g1,h.len],?_⟩
 ·rw[JQ (by show(uU z.counts).length<=6; omega) (EM (J3 hok))]
  exact YS hok hzs
 ·show 0<=z.value/\z.value<max 1 (p.values.length:Int)
  rw[VX hz]
  have hv:=h.val
  have hwr:=hR.wr
  cases hd:decide (r.write>=0) with
  |true =>
   have:=of_decide_eq_true hd
   simp only[cond_true]
   rcases hwr with k|k
   ·have:=rD k; omega
   ·omega
  |false =>
   simp only[cond_false]
   rw[g0]; exact hv
theorem Nh: ∀ {l u:List Elem},l.Nodup->(∀ x∈l,x∈u)->l.length<=u.length:=by
 intro l
 induction l with
 |nil=>intro u _ _; exact Nat.zero_le _
 |cons a l ih =>
  intro u hn hs
  obtain⟨h1,h2⟩:=List.nodup_cons.1 hn
  have ha:=hs a (by simp)
  have:=ih (u:=u.erase a) h2 fun x hx=>(List.mem_erase_of_ne (by rintro rfl; exact h1 hx)).2 (hs x (List.mem_cons_of_mem _ hx))
  rw[List.length_erase_of_mem ha] at this
  have:=List.length_pos_of_mem ha
  rw[List.length_cons]; omega
def zC(p:aH):List Elem:=(List.range (max 1 p.values.length)).flatMap fun v:Nat=>(allM 2 p.states.length).map fun c=>(⟨(v:Int),c⟩:Elem)
theorem Q9{α β:Type}{f:α->List β}{B:Nat}(hf: ∀ x,(f x).length=B): ∀ {l:List α},(l.flatMap f).length=l.length*B:=by
 intro l
 induction l with
 |nil=>simp
 |cons a l ih=>rw[List.flatMap_cons,List.length_append,ih,hf,List.length_cons,Nat.succ_mul]; omega
theorem IQ{p:aH}:(zC p).length=max 1 p.values.length*3^p.states.length:=by
 unfold zC
 rw[Q9 (B:=3^p.states.length) fun v=>by rw[List.length_map,sG],List.length_range]
theorem Pz.univ{p:aH}{x:Elem}(h:Pz p x):x∈zC p:=by
 unfold zC
 have hv0:=h.val
 refine List.mem_flatMap.2 ⟨x.value.toNat,List.mem_range.2 (by omega),List.mem_map.2 ⟨x.counts,FH.2 ⟨h.len,fun v hv=>?_⟩,?_⟩⟩
 ·have h1:=h.abs.ok v hv
  have h2:=List.all_eq_true.1 h.abs.two v hv
  have:v<=2:=by simpa [Vu] using h2
  omega
 ·obtain⟨v,c⟩:=x
  show(⟨(v.toNat:Int),c⟩:Elem)=⟨v,c⟩
  rw[Int.toNat_of_nonneg hv0.1]
theorem Tz{p:aH}{l:List Elem}(hp:gq p)(hc:CX p=0)(hn:l.Nodup)(hs: ∀ x∈l,Pz p x):l.length<=(zC p).length/\(zC p).length<=764411904:=by
 have hst:=(oC (iV (ou hc)).1).states
 refine⟨Nh hn fun x hx=>(hs x hx).univ,?_⟩
 rw[IQ]
 have h3:3^p.states.length<=3^6:=Nat.pow_le_pow_right (by decide) hst
 have hv:=hp.values
 have h1:max 1 p.values.length<=2^20:=by omega
 exact Nat.le_trans (Nat.mul_le_mul h1 h3) (by decide)
inductive IU(p:aH)(q:Prop'):Elem->Prop
 |ini {x:Elem}:x∈qY p q->mP q x=true->IU p q x
 |Yu {x y:Elem} {r:Rule}:IU p q x->r∈p.rules->y∈jL r x->mP q y=true->IU p q y
theorem IU.st{p:aH}{q:Prop'}(hc:CX p=0){x:Elem}(h:IU p q x):Pz p x:=by
 induction h with
 |ini h _=>exact Pz.ini hc h
 |Yu _ hr hy _ ih=>exact ih.post hc hr hy
end Go.Proofs.YtajmbgljnaljiaaGreatDoor
