/-
 The abstraction follows every step. No condition.
-/
import Derived.Test.YtajmbgljnaljiaaGreatDoorAb
import Derived.Test.YtajmbgljnaljiaaGreatDoorLg
namespace Go.Proofs.YtajmbgljnaljiaaGreatDoor
open Go.Ab Go.Proofs
set_option maxRecDepth 100000
theorem aak(c:List Int):(qW c).length=c.length:=by simp[qW]
theorem OQ{c:List Int}(h:EZ c):EZ (qW c):=fun x hx=>by
 obtain⟨y,hy,rfl⟩:=List.mem_map.1 hx
 have:=h y hy; omega
theorem acL(c:List Int):(qW c).all XQ=true:=List.all_eq_true.2 fun x hx=>by
 obtain⟨y,hy,rfl⟩:=List.mem_map.1 hx
 simp[XQ]; omega
theorem acM{c:List Int}(h:EZ c)(hs:0<c.sum):0<(qW c).sum:=by
 rcases Int.lt_or_le 0 (qW c).sum with h1|h1
 ·exact h1
 ·exfalso
  have hz: ∀ {d:List Int},EZ d->d.sum<=0-> ∀ x∈d,x=0:=by
   intro d
   induction d with
   |nil=>intro _ _ x hx; cases hx
   |cons y d ih =>
    intro ho hsum x hx
    have hy:=ho y (by simp)
    have hd:EZ d:=fun z hz=>ho z (by simp[hz])
    have hd0:=(vJ (Dj hd)).1
    rw[List.sum_cons] at hsum
    rcases List.mem_cons.1 hx with rfl|hx
    ·omega
    ·exact ih hd (by omega) x hx
  have h2:=hz (OQ h) h1
  have h3: ∀ x∈c,x=0:=fun x hx=>by
   have:=h2 (min x 2) (List.mem_map.2 ⟨x,hx,rfl⟩)
   have:=h x hx; omega
  have:c.sum=0:=by
   clear hs h h1 h2
   induction c with
   |nil=>rfl
   |cons y d ih=>rw[List.sum_cons,h3 y (by simp),ih fun x hx=>h3 x (by simp[hx])]; rfl
  omega
theorem nP.objs{h0 h:Hz}{m:Nat}{post:T->Hp->Prop}{v:V}(objs:List (Nat×OV))(nw:List Nat)(hall:((List.range m).all fun i=>(h0.get i).isSome)=true)(ho:okR (dX objs nw) (m+1) m h objs nw)(hn:h0.get m=none)(hv:v.free=true)
  (hp:post v.aI (mZ objs).au):nP h0 m post v h:=by
 have hfr:=V.mF v hv
 have hL:=JL (Z:=fun i=> ¬ JM (yU objs nw) i) ho
 have hlt: ∀ i,i<m->(h0.au i).isSome=true:=fun i hi=>by
  rw[List.all_eq_true] at hall
  have:=hall i (List.mem_range.2 hi)
  simpa [Hz.au] using this
 have hM: ∀ i,i<m+1->(h0.au i).isSome=true\/i=m:=fun i hi=>by
  rcases Nat.lt_or_ge i m with h|h
  ·exact .inl (hlt i h)
  ·exact .inr (by omega)
 have e:DN (yU objs nw)=dX objs nw:=funext fun _=>Fh
 refine⟨fun i=> ¬ JM (yU objs nw) i,dX objs nw,v.aI,(mZ objs).au,hp,by rw[QW hfr]; exact aF _,fun i ob hi=>?_,fun i j hi hj q=>?_,T.bn (fun _ h=>h.elim) _ (fJ hfr),fun i ob hi=>?_,fun i hi hs=>?_⟩
 ·rw[<- yV ho] at hi
  obtain⟨h1,h2⟩:=vF hi
  obtain⟨_,_,_,h4,l',h5,h6⟩:=zZ hL h1
  rw[e] at h2 h5
  exact⟨_,h5,fun hz=>hz h2,rfl,rfl,h6,Em h4⟩
 ·rw[<- yV ho] at hi hj
  obtain⟨oi,hi⟩:=Option.isSome_iff_exists.1 hi
  obtain⟨oj,hj⟩:=Option.isSome_iff_exists.1 hj
  exact WC hL hi hj (by rw[e]; exact q)
 ·rw[<- yV ho] at hi
  obtain⟨h1,_,h3,_⟩:=zZ hL (vF hi).1
  exact⟨hM i h1,T.aG hM _ h3⟩
 ·rw[<- yV ho] at hs
  obtain⟨ob,hob⟩:=Option.isSome_iff_exists.1 hs
  obtain⟨_,h2,_⟩:=zZ hL (vF hob).1
  rw[e] at h2
  refine h2 ?_
  obtain⟨h1,_⟩:=zZ hL (vF hob).1
  rcases Nat.lt_or_ge i m with hlt'|hge
  ·exact hlt'
  ·have h1:i<m+1:=h1
   have e1:i=m:=by omega
   rw[e1] at hi; simp[Hz.au,hn] at hi
def aal(q:Prop')(a:Elem):Bool:= !(Bz a.counts q.goal)
def nI(q:Prop')(a:Elem):Bool:=(q.kind==1)|| !(aal q a)
theorem S.lU(q:Prop')(a:Elem)(hq:iF q)(ha:a.counts.length<2^40):aj Tryz.prog 46 [.dat (.prop q),.dat (.elem a)] (.bool (aal q a)):=by
 have hg:=hq.goal
 refine aj.of Bd.lU (by simp) rfl rfl ?_
 conv=>whnf
 refine aB.same [2,8,9] (fun i:Nat=>[(10,.int i)]) (fun i=>i<=a.counts.length/\(List.range i).any (fun i=>decide (a.counts.getD i 0>0)&& !(Ef q.goal i))=false) (fun i=>a.counts.length-i) 0 rfl (by decide) rfl (fun _=>rfl) ⟨by omega,by simp⟩ ⟨⟨_,rfl,rfl⟩,trivial⟩ ?_
 conv=>whnf
 refine⟨rfl,?_⟩
 rintro i ⟨hi,hall⟩
 conv=>whnf
 refine⟨fun h3=>?_,fun h3=>?_⟩
 ·have hi':i<a.counts.length:=by simpa using h3
  conv=>whnf
  repeat(refine VC.mk (by first|exact id|exact fun h=>⟨h,h⟩|(simp only[Rw.rng] at *; first|omega|(simp_all; done)|(simp_all; omega))) ?_; conv=>whnf)
  refine ah.dM (fun _=>S.slices_Contains_int q.goal i false (by omega)) rfl ?_
  conv=>whnf
  repeat(refine VC.mk id ?_; conv=>whnf)
  refine⟨fun h4=>?_,fun h4=>?_⟩
  ·conv=>whnf
   have:Bz a.counts q.goal=true:=oO.2 ⟨i,hi',h4⟩
   exact ak.bool (by rw[aal,this]; rfl)
  ·conv=>whnf
   refine .mk (by simp only[okI] at *; first|omega|(simp_all; done)|(simp_all; omega)) ?_
   conv=>whnf
   refine⟨i+1,⟨by omega,?_⟩,by omega,⟨⟨_,rfl,rfl⟩,trivial⟩,?_,rfl⟩
   ·rw[List.range_succ,List.any_append,hall]
    simp only[List.any_cons,List.any_nil,Bool.or_false,Bool.false_or]; exact h4
   ·repeat' (first|exact trivial|exact⟨_,rfl,rfl⟩|constructor)
 ·have hi':a.counts.length<=i:=by simpa using h3
  have ei:i=a.counts.length:=Nat.le_antisymm hi hi'
  subst ei
  conv=>whnf
  exact ak.bool (by rw[aal,show Bz a.counts q.goal=false from hall]; rfl)
abbrev hA(a:Elem)(l:List Elem):Hz:=[(0,some (.box 54 3 (.dat (.elem a)))),(1,some (eH l))]
theorem S.UR(a b:Elem)(l:List Elem)(ha:a.counts.length<2^40)(hb:b.counts.length<2^40)(n:Nat):aV Tryz.prog 44 (V.aS [.dat (.elem b),.ptr 0 0 0]) (hA a l).au n (fun t hp=>t=(V.bool (fE a b==0)).aI/\hp=(hA a l).au):=by
 refine pO.of (nx:=2) (h0:=hA a l) Bd.tu (by simp) ⟨_,_,rfl,rfl⟩ rfl rfl ?_
 conv=>whnf
 refine ah.pure (S.iI a b ha hb) rfl ?_
 conv=>whnf
 exact nP.same (nx:=2) (h0:=hA a l) rfl ⟨rfl,rfl,trivial⟩ rfl rfl ⟨rfl,rfl⟩
def WE(a:Elem)(l:List Elem):Bool:=l.any fun b=>fE a b==0
theorem S.QX(a:Elem)(l:List Elem)(ha:a.counts.length<2^40)(hl:l.length<2^30)(hs:eF l)(n:Nat):aV Tryz.prog 70 (V.aS [.own 1,.fn 44 [.ptr 0 0 0]]) (hA a l).au n (fun t hp=>t=(V.int (aam (fun b=>fE a b==0) l)).aI/\hp=(hA a l).au):=by
 refine pO.of (nx:=2) (h0:=hA a l) Bd.dI (by simp) ⟨_,_,rfl,rfl⟩ rfl rfl ?_
 conv=>whnf
 refine aB.same [0,1,7] (fun i:Nat=>[(8,.int i)]) (fun i=>i<=l.length/\(l.take i).any (fun b=>fE a b==0)=false) (fun i=>l.length-i) 0 rfl (by decide) rfl (fun _=>rfl) ⟨by omega,by simp⟩ ⟨⟨_,rfl,rfl⟩,trivial⟩ ?_
 conv=>whnf
 refine⟨rfl,?_⟩
 rintro i ⟨hi,hall⟩
 conv=>whnf
 refine⟨fun h3=>?_,fun h3=>?_⟩
 ·have hi':i<l.length:=by simpa using h3
  conv=>whnf
  repeat(refine VC.mk (by simp only[Rw.rng] at *; first|omega|(simp_all; done)|(simp_all; omega)) ?_; conv=>whnf)
  refine ah.heap (S.UR a (l.getD i default) l ha (hs.get i) _) ?_
  rintro t hp ⟨rfl,rfl⟩
  refine⟨.bool (fE a (l.getD i default)==0),hA a l,rfl,rfl,?_⟩
  conv=>whnf
  refine⟨fun h4=>?_,fun h4=>?_⟩
  ·conv=>whnf
   refine nP.same (nx:=2) (h0:=hA a l) rfl ⟨rfl,rfl,trivial⟩ rfl rfl ⟨?_,rfl⟩
   rw[aam,if_pos (iU (p:=fun b=>fE a b==0) (d:=default) hi' h4),LU (p:=fun b=>fE a b==0) hi' hall h4]
  ·conv=>whnf
   refine .mk (by simp only[okI] at *; first|omega|(simp_all; done)|(simp_all; omega)) ?_
   conv=>whnf
   refine⟨i+1,⟨by omega,?_⟩,by omega,⟨⟨_,rfl,rfl⟩,trivial⟩,?_,rfl⟩
   ·rw[kN (p:=fun b=>fE a b==0) (d:=default) hi' hall]; exact h4
   ·repeat' (first|exact trivial|exact⟨_,rfl,rfl⟩|constructor)
 ·have hi':l.length<=i:=by simpa using h3
  rw[List.take_of_length_le hi'] at hall
  conv=>whnf
  refine nP.same (nx:=2) (h0:=hA a l) rfl ⟨rfl,rfl,trivial⟩ rfl rfl ⟨?_,rfl⟩
  rw[aam,if_neg (by rw[hall]; decide)]
theorem S.JO(a:Elem)(l:List Elem)(ha:a.counts.length<2^40)(hl:l.length<2^30)(hs:eF l)(n:Nat):aV Tryz.prog 43 (V.aS [.own 1,.fn 44 [.ptr 0 0 0]]) (hA a l).au n (fun t hp=>t=(V.bool (WE a l)).aI/\hp=(hA a l).au):=by
 refine pO.of (nx:=2) (h0:=hA a l) Bd.cu (by simp) ⟨_,_,rfl,rfl⟩ rfl rfl ?_
 conv=>whnf
 refine ah.heap (S.QX a l ha hl hs _) ?_
 rintro t hp ⟨rfl,rfl⟩
 refine⟨.int (aam (fun b=>fE a b==0) l),hA a l,rfl,rfl,?_⟩
 conv=>whnf
 refine nP.same (nx:=2) (h0:=hA a l) rfl ⟨rfl,rfl,trivial⟩ rfl rfl ⟨?_,rfl⟩
 unfold aam WE
 cases hk:l.any fun b=>fE a b==0 with
 |true=>rw[if_pos rfl,show decide ((0:Int)<=(l.findIdx (fun b=>fE a b==0):Int))=true from decide_eq_true (by omega)]
 |false=>rfl
abbrev hA0(a:Elem):Hz:=[(0,some (.box 54 3 (.dat (.elem a))))]
theorem S.OT(a:Elem)(n:Nat):aV Tryz.prog 70 (V.aS [.row 0 true .nil,.fn 44 [.ptr 0 0 0]]) (hA0 a).au n (fun t hp=>t=(V.int (-1)).aI/\hp=(hA0 a).au):=by
 refine pO.of (nx:=1) (h0:=hA0 a) Bd.dI (by simp) ⟨_,_,rfl,rfl⟩ rfl rfl ?_
 conv=>whnf
 refine aB.times 1 rfl ?_
 conv=>whnf
 refine Fork.mk (fun q=>absurd (q.symm.trans ((rfl:decide ((0:Int)<0)=false))).symm Bool.false_ne_true) (fun _=>?_)
 conv=>whnf
 exact nP.same (nx:=1) (h0:=hA0 a) rfl ⟨rfl,trivial⟩ rfl rfl ⟨rfl,rfl⟩
theorem S.IQ(a:Elem)(n:Nat):aV Tryz.prog 43 (V.aS [.row 0 true .nil,.fn 44 [.ptr 0 0 0]]) (hA0 a).au n (fun t hp=>t=(V.bool false).aI/\hp=(hA0 a).au):=by
 refine pO.of (nx:=1) (h0:=hA0 a) Bd.cu (by simp) ⟨_,_,rfl,rfl⟩ rfl rfl ?_
 conv=>whnf
 refine ah.heap (S.OT a _) ?_
 rintro t hp ⟨rfl,rfl⟩
 refine⟨.int (-1),hA0 a,rfl,rfl,?_⟩
 conv=>whnf
 exact nP.same (nx:=1) (h0:=hA0 a) rfl ⟨rfl,trivial⟩ rfl rfl ⟨rfl,rfl⟩
def pz(q:Prop')(out:List Elem)(a:Elem):List Elem:=if(!(WE a out)&&nI q a)=true then out++[a] else out
def iq(q:Prop')(out l:List Elem):List Elem:=l.foldl (pz q) out
theorem JQ{q:Prop'}{out l:List Elem}{i:Nat}(hi:i<l.length):iq q out (l.take (i+1))=pz q (iq q out (l.take i)) (l.getD i default):=by
 unfold iq
 have ht:l.take (i+1)=l.take i++[l.getD i default]:=by rw[List.take_add_one]; simp[hi]
 rw[ht,List.foldl_append]; rfl
theorem Nb{q:Prop'}: ∀ {l out:List Elem},(iq q out l).length<=out.length+l.length:=by
 intro l
 induction l with
 |nil=>intro out; exact Nat.le_refl _
 |cons a l ih =>
  intro out
  have h1:(pz q out a).length<=out.length+1:=by unfold pz; split<;>simp
  have h2:=ih (out:=pz q out a)
  show(iq q (pz q out a) l).length<=_
  rw[List.length_cons]; omega
theorem tC{q:Prop'}: ∀ {l out:List Elem} {x:Elem},x∈iq q out l↔x∈out\/(x∈l/\nI q x=true):=by
 intro l
 induction l with
 |nil=>intro out x; simp[iq]
 |cons a l ih =>
  intro out x
  show x∈iq q (pz q out a) l↔_
  rw[ih]
  have kn:WE a out=true↔a∈out:=by
   unfold WE
   rw[List.any_eq_true]
   constructor
   ·rintro⟨b,hb,h⟩
    rw[beq_iff_eq,iW] at h
    rw[h]; exact hb
   ·intro h; exact⟨a,h,by rw[beq_iff_eq,iW]⟩
  have h1:x∈pz q out a↔x∈out\/(x=a/\nI q a=true):=by
   unfold pz
   split
   ·rename_i h
    rw[Bool.and_eq_true] at h
    rw[List.mem_append,List.mem_singleton]
    simp[h.2]
   ·rename_i h
    rw[Bool.and_eq_true,Bool.not_eq_true'] at h
    constructor
    ·exact .inl
    ·rintro(h2|⟨rfl,h2⟩)
     ·exact h2
     ·cases hk:WE x out with
      |true=>exact kn.1 hk
      |false=>exact absurd ⟨hk,h2⟩ h
  rw[h1,List.mem_cons]
  constructor
  ·rintro((h|⟨rfl,h⟩)|⟨h,g⟩)
   ·exact .inl h
   ·exact .inr ⟨.inl rfl,h⟩
   ·exact .inr ⟨.inr h,g⟩
  ·rintro(h|⟨rfl|h,g⟩)
   ·exact .inl (.inl h)
   ·exact .inl (.inr ⟨rfl,g⟩)
   ·exact .inr ⟨h,g⟩
abbrev QY:OV:=.box 51 0 (.row 0 true .nil)
abbrev DR(j:Nat):OV:=.box 51 0 (.own j)
abbrev pF(q:Prop'):OV:=.box 30 7 (.dat (.prop q))
abbrev hM(q:Prop')(out:List Elem):Hz:=[(0,some (DR 2)),(1,some (pF q)),(2,some (eH out))]
abbrev WG(l:List Elem):List V:=[.row 3 false (.elems l),.ptr 0 0 0,.ptr 1 0 0]
theorem JR{q:Prop'}{out l:List Elem}(h1:eF out)(h2:eF l):eF (iq q out l):=fun x hx=>by
 rcases tC.1 hx with h|⟨h,_⟩
 ·exact h1 x h
 ·exact h2 x h
theorem JU{l:List Elem}(h:eF l)(i:Nat):eF (l.take i):=fun x hx=>h x (List.mem_of_mem_take hx)
theorem ah.contains{a:Elem}{l:List Elem}{h:Hz}{i j n:Nat}{K:V->Hz->Prop}{KW:Nat->V->Hz->Prop}(ha:a.counts.length<2^40)(hl:l.length<2^30)(hs:eF l)(hi:h.get i=some (.box 54 3 (.dat (.elem a))))(hj:h.get j=some (eH l))(hn:h.get n=none)(hij:i≠j)
  (hK:K (.bool (WE a l)) ((i,some (.box 54 3 (.dat (.elem a))))::(j,some (eH l))::(n,none)::h)):ah Tryz.prog false none 43 [.own j,.fn 44 [.ptr i 0 0]] h n K KW:=by
 have hin:i≠n:=by rintro rfl; rw[hi] at hn; cases hn
 have hjn:j≠n:=by rintro rfl; rw[hj] at hn; cases hn
 refine ah.OU (ts:=[.own 1,.fn 44 [.ptr 0 0 0]]) (pre:=hA a l) [i,j] (S.JO a l ha hl hs 2) rfl rfl rfl rfl rfl ⟨⟨_,hi,iZ rfl _⟩,⟨_,hj,iZ rfl _⟩,trivial⟩ hn (by simp[hij,hin,hjn]) ?_
 rintro t hp ⟨rfl,rfl⟩
 exact⟨.bool (WE a l),[some (.box 54 3 (.dat (.elem a))),some (eH l),none],rfl,rfl,⟨congrArg some (iZ (o:=.box 54 3 (.dat (.elem a))) rfl _).symm,congrArg some (iZ (o:=eH l) rfl _).symm,rfl,trivial⟩,hK⟩
theorem ah.Yg{a:Elem}{h:Hz}{i n:Nat}{K:V->Hz->Prop}{KW:Nat->V->Hz->Prop}(hi:h.get i=some (.box 54 3 (.dat (.elem a))))(hn:h.get n=none)
  (hK:K (.bool false) ((i,some (.box 54 3 (.dat (.elem a))))::(n,none)::h)):ah Tryz.prog false none 43 [.row 0 true .nil,.fn 44 [.ptr i 0 0]] h n K KW:=by
 have hin:i≠n:=by rintro rfl; rw[hi] at hn; cases hn
 refine ah.OU (ts:=[.row 0 true .nil,.fn 44 [.ptr 0 0 0]]) (pre:=hA0 a) [i] (S.IQ a 1) rfl rfl rfl rfl rfl ⟨⟨_,hi,iZ rfl _⟩,trivial⟩ hn (by simp[hin]) ?_
 rintro t hp ⟨rfl,rfl⟩
 exact⟨.bool false,[some (.box 54 3 (.dat (.elem a))),none],rfl,rfl,⟨congrArg some (iZ (o:=.box 54 3 (.dat (.elem a))) rfl _).symm,rfl,trivial⟩,hK⟩
set_option maxHeartbeats 1000000 in
theorem S.aan(q:Prop')(out l:List Elem)(hq:iF q)(ho:out.length+l.length<2^30)(so:eF out)(sl:eF l):aV Tryz.prog 42 (V.aS (WG l)) (hM q out).au 3 (fun t hp=>t=(V.gW []).aI/\hp=Hz.au [(0,some (DR 3)),(1,some (pF q)),(3,some (eH (iq q out l)))]):=by
 refine pO.of (nx:=3) (h0:=hM q out) Bd.um (by simp) ⟨_,_,rfl,rfl⟩ rfl rfl ?_
 conv=>whnf
 refine aB.nD 4 [1,2,7,8] (fun a:Nat=>[(9,.int a)]) (fun a=>[(0,DR 3),(1,pF q),(3,eH (iq q out (l.take a)))]) (fun a=>a<=l.length) (fun a=>l.length-a) 0 [0,1,2] rfl (by decide) (fun _=>rfl) (Nat.zero_le _) ?_ ?_ ?_
 ·exact(sR rfl)
 ·exact⟨kX rfl rfl rfl ⟨rfl,rfl⟩ (bD.of_eq rfl),aT rfl rfl,aT rfl rfl,trivial⟩
 conv=>whnf
 refine⟨(sR rfl),rfl,?_⟩
 rintro a ha
 have hml:=Nb (q:=q) (l:=l.take a) (out:=out)
 rw[List.length_take] at hml
 have hms:=JR (q:=q) so (JU sl a)
 conv=>whnf
 refine⟨fun h1=>?_,fun h1=>?_⟩
 ·have ha':a<l.length:=by simpa using h1
  have hstep:=JQ (q:=q) (out:=out) ha'
  have hel:=sl.get a
  conv=>whnf
  refine .mk (by simp only[Rw.rng] at *; first|omega|(simp_all; done)|(simp_all; omega)) ?_
  conv=>whnf
  refine ah.contains (a:=l.getD a default) (l:=iq q out (l.take a)) hel (by omega) hms rfl rfl rfl (by decide) ?_
  conv=>whnf
  repeat(refine VC.mk (by first|exact id|exact fun h=>⟨h,h⟩) ?_; conv=>whnf)
  refine ah.dM (fun _=>S.lU q (l.getD a default) hq hel) rfl ?_
  conv=>whnf
  repeat(refine VC.mk (by first|exact id|(intro h; simp_all; done)) ?_; conv=>whnf)
  refine⟨fun h2=>?_,fun h2=>?_⟩
  ·replace h2:(!(WE (l.getD a default) (iq q out (l.take a)))&&nI q (l.getD a default))=true:=h2
   rw[pz,if_pos h2] at hstep
   conv=>whnf
   repeat(refine VC.mk (by first|(show((iq q out (l.take a)).length+(0+1))*32<=140737488355328/\(iq q out (l.take a)).length+(0+1)<=1152921504606846976; omega)|(simp only[okI] at *; first|omega|(simp_all; done)|(simp_all; omega))) ?_; conv=>whnf)
   refine⟨a+1,[0,1,29],by omega,by omega,(sR rfl),(sR rfl),kX rfl rfl rfl ⟨rfl,rfl⟩ (bD.of_eq rfl),aT rfl rfl,okF rfl nofun rfl rfl rfl ⟨rfl,rfl⟩ ?_,trivial⟩
   rw[hstep]
   show List.map fD (iq q out (l.take a)++[l.getD a default])++[]=List.map fD (iq q out (l.take a))++[fD (l.getD a default)]
   simp
  ·replace h2:(!(WE (l.getD a default) (iq q out (l.take a)))&&nI q (l.getD a default))=false:=h2
   rw[pz,if_neg (by rw[h2]; decide)] at hstep
   conv=>whnf
   refine .mk (by simp only[okI] at *; first|omega|(simp_all; done)|(simp_all; omega)) ?_
   conv=>whnf
   refine⟨a+1,[0,1,3],by omega,by omega,(sR rfl),(sR rfl),kX rfl rfl rfl ⟨rfl,rfl⟩ (bD.of_eq rfl),aT rfl rfl,okF rfl nofun rfl rfl rfl ⟨rfl,rfl⟩ (by rw[hstep]),trivial⟩
 ·have ha':l.length<=a:=by simpa using h1
  rw[List.take_of_length_le ha']
  conv=>whnf
  exact nP.objs [(0,DR 3),(1,pF q),(3,eH (iq q out l))] [0,1,3] rfl ⟨kX rfl rfl rfl ⟨rfl,rfl⟩ (bD.of_eq rfl),aT rfl rfl,aT rfl rfl,trivial⟩ rfl rfl ⟨rfl,rfl⟩
theorem JV.at{ι:Type}{inv:ι->Prop}{μ:ι->Nat}{vars:ι->Fm}{objs:ι->List (Nat×OV)}{base:Fm}{nx pn:Nat}{i:ι}{m:Fm}{h:Hz}(j:ι)(nw:List Nat)(L:List (Nat×OV))(e:objs j=L)(h1:inv j)(h2:μ j<μ i)(h3:jc (dX L nw) m (vars j))(h4:jc (dX L nw) m base)(h5:okR (dX L nw) nx pn h L nw):JV inv μ vars objs base nx pn i m h:=by
 subst e
 exact⟨j,nw,h1,h2,h3,h4,h5⟩
def QZ(q:Prop')(out:List Elem):List (Nat×OV):=match out with
 |[]=>[(0,QY),(1,pF q)]
 |x::l=>[(0,DR 2),(1,pF q),(2,eH (x::l))]
abbrev hN(q:Prop'):Hz:=[(0,some QY),(1,some (pF q))]
set_option maxHeartbeats 2000000 in
theorem S.aao(q:Prop')(l:List Elem)(hq:iF q)(hl:l.length<2^28)(sl:eF l):aV Tryz.prog 42 (V.aS (WG l)) (hN q).au 2 (fun t hp=>t=(V.gW []).aI/\hp=(mZ (QZ q (iq q [] l))).au):=by
 refine pO.of (nx:=2) (h0:=hN q) Bd.um (by simp) ⟨_,_,rfl,rfl⟩ rfl rfl ?_
 conv=>whnf
 refine aB.nD 3 [1,2,7,8] (fun a:Nat=>[(9,.int a)]) (fun a=>QZ q (iq q [] (l.take a))) (fun a=>a<=l.length) (fun a=>l.length-a) 0 [0,1] rfl (by decide) (fun _=>rfl) (Nat.zero_le _) ?_ ?_ ?_
 ·exact(sR rfl)
 ·exact⟨kX rfl rfl rfl ⟨rfl,rfl⟩ (bD.of_eq rfl),aT rfl rfl,trivial⟩
 conv=>whnf
 refine⟨(sR rfl),rfl,?_⟩
 rintro a ha
 have hml:=Nb (q:=q) (l:=l.take a) (out:=[])
 rw[List.length_take,List.length_nil] at hml
 have hms:=JR (q:=q) (fun _ h=>by cases h) (JU sl a) (out:=[])
 have hstep:a<l.length->iq q [] (l.take (a+1))=pz q (iq q [] (l.take a)) (l.getD a default):=fun h=>JQ h
 have hend:l.length<=a->iq q [] l=iq q [] (l.take a):=fun h=>by rw[List.take_of_length_le h]
 have hel:=sl.get a
 generalize iq q [] (l.take a)=out at hml hms hstep hend ⊢
 cases out with
 |nil =>
  show az _ _ _ _ _ _ (mZ [(0,QY),(1,pF q)]) _
  conv=>whnf
  refine⟨fun h1=>?_,fun h1=>?_⟩
  ·have ha':a<l.length:=by simpa using h1
   replace hstep:=hstep ha'
   conv=>whnf
   refine .mk (by simp only[Rw.rng] at *; first|omega|(simp_all; done)|(simp_all; omega)) ?_
   conv=>whnf
   refine ah.Yg (a:=l.getD a default) rfl rfl ?_
   conv=>whnf
   repeat(refine VC.mk (by first|exact id|exact fun h=>⟨h,h⟩) ?_; conv=>whnf)
   refine ah.dM (fun _=>S.lU q (l.getD a default) hq hel) rfl ?_
   conv=>whnf
   repeat(refine VC.mk (by first|exact id|(intro h; simp[]; done)) ?_; conv=>whnf)
   refine⟨fun h2=>?_,fun h2=>?_⟩
   ·replace h2:nI q (l.getD a default)=true:=h2
    rw[pz,if_pos (by rw[h2]; rfl)] at hstep
    conv=>whnf
    repeat(refine VC.mk (by first|(show(0+(0+1))*32<=140737488355328/\0+(0+1)<=1152921504606846976; omega)|(simp only[okI] at *; first|omega|(simp_all; done)|(simp_all; omega))) ?_; conv=>whnf)
    refine JV.at (a+1) [0,1,28] [(0,DR 2),(1,pF q),(2,eH [l.getD a default])] (congrArg (QZ q) hstep) (by omega) (by omega) (sR rfl) (sR rfl) ⟨kX rfl rfl rfl ⟨rfl,rfl⟩ (bD.of_eq rfl),aT rfl rfl,aT rfl rfl,trivial⟩
   ·replace h2:nI q (l.getD a default)=false:=h2
    rw[pz,if_neg (by rw[h2,Bool.and_false]; exact Bool.false_ne_true)] at hstep
    conv=>whnf
    refine .mk (by simp only[okI] at *; first|omega|(simp_all; done)|(simp_all; omega)) ?_
    conv=>whnf
    refine JV.at (a+1) [0,1] [(0,QY),(1,pF q)] (congrArg (QZ q) hstep) (by omega) (by omega) (sR rfl) (sR rfl) ⟨kX rfl rfl rfl ⟨rfl,rfl⟩ (bD.of_eq rfl),aT rfl rfl,trivial⟩
  ·have ha':l.length<=a:=by simpa using h1
   rw[hend ha']
   conv=>whnf
   exact nP.objs [(0,QY),(1,pF q)] [0,1] rfl ⟨kX rfl rfl rfl ⟨rfl,rfl⟩ (bD.of_eq rfl),aT rfl rfl,trivial⟩ rfl rfl ⟨rfl,rfl⟩
 |cons x out =>
  show az _ _ _ _ _ _ (mZ [(0,DR 2),(1,pF q),(2,eH (x::out))]) _
  generalize ho:x::out=o at hml hms hstep hend ⊢
  have hoM:QZ q o=[(0,DR 2),(1,pF q),(2,eH o)]:=by subst ho; rfl
  have ahJ: ∀ e,QZ q (o++[e])=[(0,DR 2),(1,pF q),(2,eH (o++[e]))]:=fun e=>by subst ho; rfl
  conv=>whnf
  refine⟨fun h1=>?_,fun h1=>?_⟩
  ·have ha':a<l.length:=by simpa using h1
   replace hstep:=hstep ha'
   conv=>whnf
   refine .mk (by simp only[Rw.rng] at *; first|omega|(simp_all; done)|(simp_all; omega)) ?_
   conv=>whnf
   refine ah.contains (a:=l.getD a default) (l:=o) hel (by omega) hms rfl rfl rfl (by decide) ?_
   conv=>whnf
   repeat(refine VC.mk (by first|exact id|exact fun h=>⟨h,h⟩) ?_; conv=>whnf)
   refine ah.dM (fun _=>S.lU q (l.getD a default) hq hel) rfl ?_
   conv=>whnf
   repeat(refine VC.mk (by first|exact id|(intro h; simp_all; done)) ?_; conv=>whnf)
   refine⟨fun h2=>?_,fun h2=>?_⟩
   ·replace h2:(!(WE (l.getD a default) o)&&nI q (l.getD a default))=true:=h2
    rw[pz,if_pos h2] at hstep
    conv=>whnf
    repeat(refine VC.mk (by first|(show(o.length+(0+1))*32<=140737488355328/\o.length+(0+1)<=1152921504606846976; omega)|(simp only[okI] at *; first|omega|(simp_all; done)|(simp_all; omega))) ?_; conv=>whnf)
    refine JV.at (a+1) [0,1,28] _ ((congrArg (QZ q) hstep).trans (ahJ _)) (by omega) (by omega) (sR rfl) (sR rfl) ⟨kX rfl rfl rfl ⟨rfl,rfl⟩ (bD.of_eq rfl),aT rfl rfl,okF rfl nofun rfl rfl rfl ⟨rfl,rfl⟩ ?_,trivial⟩
    show List.map fD (o++[l.getD a default])++[]=List.map fD o++[fD (l.getD a default)]
    simp
   ·replace h2:(!(WE (l.getD a default) o)&&nI q (l.getD a default))=false:=h2
    rw[pz,if_neg (by rw[h2]; exact Bool.false_ne_true)] at hstep
    conv=>whnf
    refine .mk (by simp only[okI] at *; first|omega|(simp_all; done)|(simp_all; omega)) ?_
    conv=>whnf
    refine JV.at (a+1) [0,1,2] _ ((congrArg (QZ q) hstep).trans hoM) (by omega) (by omega) (sR rfl) (sR rfl) ⟨kX rfl rfl rfl ⟨rfl,rfl⟩ (bD.of_eq rfl),aT rfl rfl,aT rfl rfl,trivial⟩
  ·have ha':l.length<=a:=by simpa using h1
   rw[hend ha',hoM]
   conv=>whnf
   exact nP.objs [(0,DR 2),(1,pF q),(2,eH o)] [0,1,2] rfl ⟨kX rfl rfl rfl ⟨rfl,rfl⟩ (bD.of_eq rfl),aT rfl rfl,aT rfl rfl,trivial⟩ rfl rfl ⟨rfl,rfl⟩
theorem ah.aao{q:Prop'}{l:List Elem}{h:Hz}{B C n:Nat}{K:V->Hz->Prop}{KW:Nat->V->Hz->Prop}(hq:iF q)(hl:l.length<2^28)(sl:eF l)(hB:h.get B=some QY)(hC:h.get C=some (pF q))(hBC:B≠C)(hn:h.get n=none)
  (h0:iq q [] l=[]->K (.gW []) ((B,some QY)::(C,some (pF q))::(n,none)::h))
  (h1: ∀ x o,iq q [] l=x::o->K (.gW []) ((B,some (DR n))::(C,some (pF q))::(n,some (eH (x::o)))::h)):ah Tryz.prog false none 42 [.row 3 false (.elems l),.ptr B 0 0,.ptr C 0 0] h n K KW:=by
 have hBn:B≠n:=by rintro rfl; rw[hB] at hn; cases hn
 have hCn:C≠n:=by rintro rfl; rw[hC] at hn; cases hn
 refine ah.OU (ts:=WG l) (pre:=hN q) [B,C] (S.aao q l hq hl sl) rfl rfl rfl rfl rfl ⟨⟨_,hB,rfl⟩,⟨_,hC,iZ rfl _⟩,trivial⟩ hn (by simp[hBC,hBn,hCn]) ?_
 rintro t hp ⟨rfl,rfl⟩
 cases hm:iq q [] l with
 |nil=>exact⟨.gW [],[some QY,some (pF q),none],rfl,rfl,⟨rfl,congrArg some (iZ (o:=pF q) rfl _).symm,rfl,trivial⟩,h0 hm⟩
 |cons x o=>exact⟨.gW [],[some (DR n),some (pF q),some (eH (x::o))],rfl,rfl,⟨rfl,congrArg some (iZ (o:=pF q) rfl _).symm,congrArg some (iZ (o:=eH (x::o)) rfl _).symm,trivial⟩,h1 x o hm⟩
theorem ah.aan{q:Prop'}{out l:List Elem}{h:Hz}{B C j n:Nat}{K:V->Hz->Prop}{KW:Nat->V->Hz->Prop}(hq:iF q)(ho:out.length+l.length<2^30)(so:eF out)(sl:eF l)(hB:h.get B=some (DR j))(hC:h.get C=some (pF q))(hj:h.get j=some (eH out))(hBC:B≠C)(hBj:B≠j)(hCj:C≠j)(hn:h.get n=none)
  (hK:K (.gW []) ((B,some (DR n))::(C,some (pF q))::(j,none)::(n,some (eH (iq q out l)))::h)):ah Tryz.prog false none 42 [.row 3 false (.elems l),.ptr B 0 0,.ptr C 0 0] h n K KW:=by
 have hBn:B≠n:=by rintro rfl; rw[hB] at hn; cases hn
 have hCn:C≠n:=by rintro rfl; rw[hC] at hn; cases hn
 have hjn:j≠n:=by rintro rfl; rw[hj] at hn; cases hn
 refine ah.OU (ts:=WG l) (pre:=hM q out) [B,C,j] (S.aan q out l hq ho so sl) rfl rfl rfl rfl rfl ⟨⟨_,hB,rfl⟩,⟨_,hC,iZ rfl _⟩,⟨_,hj,iZ rfl _⟩,trivial⟩ hn (by simp[hBC,hBn,hCn,hBj,hCj,hjn]) ?_
 rintro t hp ⟨rfl,rfl⟩
 exact⟨.gW [],[some (DR n),some (pF q),none,some (eH (iq q out l))],rfl,rfl,⟨rfl,congrArg some (iZ (o:=pF q) rfl _).symm,rfl,congrArg some (iZ (o:=eH (iq q out l)) rfl _).symm,trivial⟩,hK⟩
theorem S.UU:aj Tryz.prog 131 [.row 0 true .nil,.int 0,.int 0,.fn 45 []] (.gW []):=by
 refine aj.of Bd.dK (by simp) rfl rfl ?_
 conv=>whnf
 refine .mk (by simp only[okI] at *; first|omega|(simp_all; done)|(simp_all; omega)) ?_
 conv=>whnf
 refine aB.times 1 rfl ?_
 conv=>whnf
 refine Fork.mk (fun q=>absurd (q.symm.trans ((rfl:decide ((0:Int)+1<0)=false))).symm Bool.false_ne_true) (fun _=>?_)
 conv=>whnf
 exact⟨aF _⟩
theorem S.ahK:aj Tryz.prog 109 [.row 0 true .nil,.int 0,.int 0,.int 0,.fn 45 []] (.gW []):=by
 refine aj.of Bd.eX (by simp) rfl rfl ?_
 conv=>whnf
 refine aB.times 1 rfl ?_
 conv=>whnf
 refine .mk (by simp only[okI] at *; first|omega|(simp_all; done)|(simp_all; omega)) ?_
 conv=>whnf
 refine Fork.mk (fun _=>?_) (fun q=>absurd (q.symm.trans ((rfl:decide ((0:Int)-0<=12)=true))) Bool.false_ne_true)
 conv=>whnf
 refine ah.pure (S.UU) rfl ?_
 conv=>whnf
 exact⟨aF _⟩
theorem S.agA:aj Tryz.prog 78 [.row 0 true .nil,.fn 45 []] (.gW []):=by
 refine aj.of Bd.bM (by simp) rfl rfl ?_
 conv=>whnf
 refine .mk (by omega) ?_
 conv=>whnf
 refine ah.pure (S.bitsLen) rfl ?_
 conv=>whnf
 refine ah.pure (S.ahK) rfl ?_
 conv=>whnf
 exact⟨aF _⟩
theorem S.agB:aj Tryz.prog 79 [.row 0 true .nil,.fn 80 []] (.row 0 true .nil):=by
 refine aj.of Bd.dA (by simp) rfl rfl ?_
 conv=>whnf
 refine Fork.mk (fun _=>?_) (fun q=>absurd (q.symm.trans ((rfl:decide ((0:Int)<2)=true))) Bool.false_ne_true)
 conv=>whnf
 exact⟨aF _⟩
theorem S.UW:aj Tryz.prog 49 [.row 0 true .nil] (.row 0 true .nil):=by
 refine aj.of Bd.vN (by simp) rfl rfl ?_
 conv=>whnf
 refine ah.pure (S.agA) rfl ?_
 conv=>whnf
 refine ah.pure (S.agB) rfl ?_
 conv=>whnf
 exact⟨aF _⟩
def Qn(b:Int)(c:List Int):Prop:= ∀ x∈c,0<=x/\x<=b
theorem Qn.g{b:Int}{c:List Int}(h:Qn b c)(hb:0<=b)(i:Nat):0<=c.getD i 0/\c.getD i 0<=b:=by
 by_cases hi:i<c.length
 ·rw[show c.getD i 0=c[i] by simp[hi]]; exact h _ (List.getElem_mem hi)
 ·rw[show c.getD i 0=0 by simp[List.getD_eq_getElem?_getD,List.getElem?_eq_none (by omega:c.length<=i)]]; omega
theorem Qn.add{b k d i:Int}{c:List Int}(h:Qn b c)(hb:0<=b)(hd:0<=d/\d<=k):Qn (b+k) (gY c i d):=by
 intro x hx
 have hg:=h.g hb i.toNat
 rcases List.mem_or_eq_of_mem_set hx with hx|rfl
 ·have:=h x hx; omega
 ·omega
theorem Qn.dec{b i:Int}{c:List Int}(h:Qn b c)(hb:0<=b)(h0:(c.getD i.toNat 0==0)=false):Qn b (aU c i):=by
 intro x hx
 have hg:=h.g hb i.toNat
 have:=beq_eq_false_iff_ne.1 h0
 rcases List.mem_or_eq_of_mem_set hx with hx|rfl
 ·exact h x hx
 ·omega
theorem Qn.resp{b:Int}{c:List Int}{r:Rule}(h:Qn b c)(hb:0<=b): ∀ i:Nat,Qn (i*b) (pK r c i):=by
 intro i
 induction i with
 |zero=>intro x hx; have:=List.eq_of_mem_replicate hx; subst this; simp
 |succ i ih =>
  rw[vK]
  have h0:0<=(i:Int)*b:=Int.mul_nonneg (by omega) hb
  have:=ih.add h0 (h.g hb i) (i:=r.response.getD i 0)
  have e:((i+1:Nat):Int)*b=i*b+b:=by rw[Int.natCast_succ,Int.add_mul,Int.one_mul]
  rw[e]; exact this
theorem Qn.mono{b k:Int}{c:List Int}(h:Qn b c)(hk:b<=k):Qn k c:=fun x hx=>by have:=h x hx; omega
theorem acN{r:Rule}{e x:Elem}(hc:Qn 8 e.counts)(hl:e.counts.length<=6)(h:eP r e=some x):EZ x.counts:=by
 have lift: ∀ {c:List Int} {v:Int},Qn 100 c->some (⟨v,gY c r.to 1⟩:Elem)=some x->EZ x.counts:=by
  intro c v hc h; cases h
  exact(hc.add (k:=1) (by omega) ⟨by omega,by omega⟩).mono (by omega)
 unfold eP at h
 cases hs:(decide (0<=r.read)&&e.value !=r.read||e.counts.getD r.fr.toNat 0==0) with
 |true=>rw[hs] at h; cases h
 |false =>
  rw[hs] at h
  rw[Bool.or_eq_false_iff] at hs
  have h1:Qn 8 (aU e.counts r.fr):=hc.dec (by omega) hs.2
  simp only[cond_false] at h
  rcases iT h with h|h
  ·rcases iT h with h|h
   ·cases h
   ·exact lift (h1.mono (by omega)) h
  ·cases hp:(aU e.counts r.fr).getD r.fQ.toNat 0==0 with
   |true =>
    rw[hp] at h
    rcases iT h with h|h
    ·cases h
    ·rcases iT h with h|h
     ·refine lift ((h1.resp (by omega) (r:=r) (aU e.counts r.fr).length).mono ?_) h
      rw[kH]
      have:(e.counts.length:Int)*8<=6*8:=Int.mul_le_mul_of_nonneg_right (by omega) (by omega)
      omega
     ·exact lift (h1.mono (by omega)) h
   |false =>
    rw[hp] at h
    rcases iT h with h|h
    ·exact lift (((h1.dec (by omega) hp).add (k:=1) (by omega) ⟨by omega,by omega⟩).mono (by omega)) h
    ·rcases iT h with h|h
     ·refine lift ((h1.resp (by omega) (r:=r) (aU e.counts r.fr).length).mono ?_) h
      rw[kH]
      have:(e.counts.length:Int)*8<=6*8:=Int.mul_le_mul_of_nonneg_right (by omega) (by omega)
      omega
     ·exact lift (h1.mono (by omega)) h
theorem aap{r:Rule}{e x:Elem}(h:eP r e=some x):x.value=(bif decide (r.write>=0) then r.write else e.value):=by
 have lift: ∀ {c:List Int},some (⟨bif decide (r.write>=0) then r.write else e.value,c⟩:Elem)=some x->x.value=(bif decide (r.write>=0) then r.write else e.value):=by
  intro c h; cases h; rfl
 unfold eP at h
 rcases iT h with h|h
 ·cases h
 rcases iT h with h|h
 ·rcases iT h with h|h
  ·cases h
  ·exact lift h
 rcases iT h with h|h
 ·rcases iT h with h|h
  ·cases h
  ·exact lift h
 rcases iT h with h|h
 ·exact lift h
 ·exact lift h
structure Ur(p:aC)(a:Elem):Prop where
 abs:G5 a
 len:a.counts.length=p.states.length
 val:0<=a.value/\a.value<max 1 (p.values.length:Int)
theorem Ur.ini{p:aC}{q:Prop'}{x:Elem}(hc:AQ p=0)(h:x∈nH p q):Ur p x:=by
 have hst:=(kU (gu (lS hc)).1).states
 unfold nH initK at h
 obtain⟨c,hc',rfl⟩:=List.mem_map.1 h
 obtain⟨h1,h2⟩:=List.mem_filter.1 hc'
 obtain⟨h3,h4⟩:=wJ.1 h1
 unfold QM at h2
 rw[Bool.and_eq_true] at h2
 exact⟨⟨fun y hy=>by have:=h4 y hy; omega,List.all_eq_true.2 fun y hy=>by have:=h4 y hy; simp[XQ]; omega,by show c.length<=6; omega,of_decide_eq_true h2.1⟩,h3,by show(0:Int)<=0/\(0:Int)<max 1 (p.values.length:Int); omega⟩
theorem Ur.post{p:aC}{r:Rule}{x y:Elem}(hc:AQ p=0)(hr:r∈p.rules)(h:Ur p x)(hy:y∈gy r x):Ur p y:=by
 have hst:=(kU (gu (lS hc)).1).states
 obtain⟨i,hi,Na⟩:=List.mem_iff_getElem.1 hr
 have agC:p.rules.getD i default=r:=by rw[List.getD_eq_getElem?_getD,List.getElem?_eq_getElem hi]; exact Na
 have hw:Uy x.counts.length r:=by rw[h.len,<- agC]; exact wtR hc hi
 have hR:=aei (kU (gu (lS hc)).1) (MN (gu (lS hc)).2) hi
 rw[agC] at hR
 rw[gy,oP] at hy
 obtain⟨e,he,z,hz,rfl⟩:=GX hy
 obtain⟨g0,g1,g2,g3⟩:=Dh he
 rw[kM] at g1 g2
 have hn:Qn 8 e.counts:=fun v hv=>by
  obtain⟨j,hj,ej⟩:=List.mem_iff_getElem.1 hv
  have hm:=((yO h.abs.ok).1 g2).2 j (by omega)
  have h2:e.counts.getD j 0=v:=by rw[List.getD_eq_getElem?_getD,List.getElem?_eq_getElem hj]; exact ej
  rw[h2] at hm
  have h3:=h.abs.ok.get (show j<x.counts.length by omega)
  have h4:=List.all_eq_true.1 h.abs.two (x.counts.getD j 0) (bZ (by omega))
  have h5:x.counts.getD j 0<=2:=by simpa [XQ] using h4
  have:=yP hm
  omega
 have hel:e.counts.length<=6:=by have:=h.abs.len; omega
 have hok:=acN hn hel hz
 have hzl:=yM hz
 have ahL:EZ e.counts:=fun v hv=>by have:=hn v hv; omega
 have hes:0<e.counts.sum:=by rw[<- E9 hel (Dj ahL)]; exact g3
 have hzs:0<z.counts.sum:=by rw[UD (by rw[g1]; exact hw) hz]; exact hes
 have hcl:(qW z.counts).length=z.counts.length:=aak _
 refine⟨⟨OQ hok,acL _,by show(qW z.counts).length<=6; omega,?_⟩,by show(qW z.counts).length=_; rw[hcl,hzl,g1,h.len],?_⟩
 ·rw[E9 (by show(qW z.counts).length<=6; omega) (Dj (OQ hok))]
  exact acM hok hzs
 ·show 0<=z.value/\z.value<max 1 (p.values.length:Int)
  rw[aap hz]
  have hv:=h.val
  have hwr:=hR.wr
  cases hd:decide (r.write>=0) with
  |true =>
   have:=of_decide_eq_true hd
   simp only[cond_true]
   rcases hwr with k|k
   ·have:=vG k; omega
   ·omega
  |false =>
   simp only[cond_false]
   rw[g0]; exact hv
theorem Q5: ∀ {l u:List Elem},l.Nodup->(∀ x∈l,x∈u)->l.length<=u.length:=by
 intro l
 induction l with
 |nil=>intro u _ _; exact Nat.zero_le _
 |cons a l ih =>
  intro u hn hs
  obtain⟨h1,h2⟩:=List.nodup_cons.1 hn
  have ha:=hs a (by simp)
  have:=ih (u:=u.erase a) h2 fun x hx=>(List.mem_erase_of_ne (by rintro rfl; exact h1 hx)).2 (hs x (List.mem_cons_of_mem _ hx))
  rw[List.length_erase_of_mem ha] at this
  have:=List.length_pos_of_mem ha
  rw[List.length_cons]; omega
def DZ(p:aC):List Elem:=(List.range (max 1 p.values.length)).flatMap fun v:Nat=>(allM 2 p.states.length).map fun c=>(⟨(v:Int),c⟩:Elem)
theorem WH{α β:Type}{f:α->List β}{B:Nat}(hf: ∀ x,(f x).length=B): ∀ {l:List α},(l.flatMap f).length=l.length*B:=by
 intro l
 induction l with
 |nil=>simp
 |cons a l ih=>rw[List.flatMap_cons,List.length_append,ih,hf,List.length_cons,Nat.succ_mul]; omega
theorem Nc{p:aC}:(DZ p).length=max 1 p.values.length*3^p.states.length:=by
 unfold DZ
 rw[WH (B:=3^p.states.length) fun v=>by rw[List.length_map,pU],List.length_range]
theorem Ur.univ{p:aC}{x:Elem}(h:Ur p x):x∈DZ p:=by
 unfold DZ
 have hv0:=h.val
 refine List.mem_flatMap.2 ⟨x.value.toNat,List.mem_range.2 (by omega),List.mem_map.2 ⟨x.counts,wJ.2 ⟨h.len,fun v hv=>?_⟩,?_⟩⟩
 ·have h1:=h.abs.ok v hv
  have h2:=List.all_eq_true.1 h.abs.two v hv
  have:v<=2:=by simpa [XQ] using h2
  omega
 ·obtain⟨v,c⟩:=x
  show(⟨(v.toNat:Int),c⟩:Elem)=⟨v,c⟩
  rw[Int.toNat_of_nonneg hv0.1]
theorem Yh{p:aC}{l:List Elem}(hp:dL p)(hc:AQ p=0)(hn:l.Nodup)(hs: ∀ x∈l,Ur p x):l.length<=(DZ p).length/\(DZ p).length<=764411904:=by
 have hst:=(kU (gu (lS hc)).1).states
 refine⟨Q5 hn fun x hx=>(hs x hx).univ,?_⟩
 rw[Nc]
 have h3:3^p.states.length<=3^6:=Nat.pow_le_pow_right (by decide) hst
 have hv:=hp.values
 have h1:max 1 p.values.length<=2^20:=by omega
 exact Nat.le_trans (Nat.mul_le_mul h1 h3) (by decide)
inductive Nh(p:aC)(q:Prop'):Elem->Prop
 |ini {x:Elem}:x∈nH p q->nI q x=true->Nh p q x
 |stp {x y:Elem} {r:Rule}:Nh p q x->r∈p.rules->y∈gy r x->nI q y=true->Nh p q y
theorem Nh.st{p:aC}{q:Prop'}(hc:AQ p=0){x:Elem}(h:Nh p q x):Ur p x:=by
 induction h with
 |ini h _=>exact Ur.ini hc h
 |stp _ hr hy _ ih=>exact ih.post hc hr hy
end Go.Proofs.YtajmbgljnaljiaaGreatDoor
