/-
 The abstraction follows every step. No condition.
-/
import Derived.Test.YtajmbgljnaljiaaGreatDoorAb
import Derived.Test.YtajmbgljnaljiaaGreatDoorLg
namespace Go.Proofs.YtajmbgljnaljiaaGreatDoor
open Go.Ab Go.Proofs
set_option maxRecDepth 100000
theorem Yc(c:List Int):(qh c).length=c.length:=by simp[qh]
theorem Na{c:List Int}(h:F7 c):F7 (qh c):=fun x hx=>by
 obtain⟨y,hy,rfl⟩:=List.mem_map.1 hx
 have:=h y hy; omega
theorem aa1(c:List Int):(qh c).all le2=true:=List.all_eq_true.2 fun x hx=>by
 obtain⟨y,hy,rfl⟩:=List.mem_map.1 hx
 simp[le2]; omega
theorem aa2{c:List Int}(h:F7 c)(hs:0<c.sum):0<(qh c).sum:=by
 rcases Int.lt_or_le 0 (qh c).sum with h1|h1
 ·exact h1
 ·exfalso
  have hz: ∀ {d:List Int},F7 d->d.sum<=0-> ∀ x∈d,x=0:=by
   intro d
   induction d with
   |nil=>intro _ _ x hx; cases hx
   |cons y d ih =>
    intro ho hsum x hx
    have hy:=ho y (by simp)
    have hd:F7 d:=fun z hz=>ho z (by simp[hz])
    have hd0:=(xI (AP hd)).1
    rw[List.sum_cons] at hsum
    rcases List.mem_cons.1 hx with rfl|hx
    ·omega
    ·exact ih hd (by omega) x hx
  have h2:=hz (Na h) h1
  have h3: ∀ x∈c,x=0:=fun x hx=>by
   have:=h2 (min x 2) (List.mem_map.2 ⟨x,hx,rfl⟩)
   have:=h x hx; omega
  have:c.sum=0:=by
   clear hs h h1 h2
   induction c with
   |nil=>rfl
   |cons y d ih=>rw[List.sum_cons,h3 y (by simp),ih fun x hx=>h3 x (by simp[hx])]; rfl
  omega
theorem ny.objs{h0 h:Hz}{m:Nat}{post:T->Hp->Prop}{v:V}(objs:List (Nat×OV))(nw:List Nat)(hall:((List.range m).all fun i=>(h0.get i).isSome)=true)(ho:okR (nD objs nw) (m+1) m h objs nw)(hn:h0.get m=none)(hv:v.free=true)
  (hp:post v.aG (Iq objs).ay):ny h0 m post v h:=by
 have hfr:=V.qK v hv
 have hL:=Ir (Z:=fun i=> ¬ Iu (xJ objs nw) i) ho
 have hlt: ∀ i,i<m->(h0.ay i).isSome=true:=fun i hi=>by
  rw[List.all_eq_true] at hall
  have:=hall i (List.mem_range.2 hi)
  simpa [Hz.ay] using this
 have hM: ∀ i,i<m+1->(h0.ay i).isSome=true\/i=m:=fun i hi=>by
  rcases Nat.lt_or_ge i m with h|h
  ·exact .inl (hlt i h)
  ·exact .inr (by omega)
 have e:BD (xJ objs nw)=nD objs nw:=funext fun _=>DX
 refine⟨fun i=> ¬ Iu (xJ objs nw) i,nD objs nw,v.aG,(Iq objs).ay,hp,by rw[Pq hfr]; exact dP _,fun i ob hi=>?_,fun i j hi hj q=>?_,T.bD (fun _ h=>h.elim) _ (dU hfr),fun i ob hi=>?_,fun i hi hs=>?_⟩
 ·rw[<- xK ho] at hi
  obtain⟨h1,h2⟩:=um hi
  obtain⟨_,_,_,h4,l',h5,h6⟩:=yN hL h1
  rw[e] at h2 h5
  exact⟨_,h5,fun hz=>hz h2,rfl,rfl,h6,Fa h4⟩
 ·rw[<- xK ho] at hi hj
  obtain⟨oi,hi⟩:=Option.isSome_iff_exists.1 hi
  obtain⟨oj,hj⟩:=Option.isSome_iff_exists.1 hj
  exact Ul hL hi hj (by rw[e]; exact q)
 ·rw[<- xK ho] at hi
  obtain⟨h1,_,h3,_⟩:=yN hL (um hi).1
  exact⟨hM i h1,T.aA hM _ h3⟩
 ·rw[<- xK ho] at hs
  obtain⟨ob,hob⟩:=Option.isSome_iff_exists.1 hs
  obtain⟨_,h2,_⟩:=yN hL (um hob).1
  rw[e] at h2
  refine h2 ?_
  obtain⟨h1,_⟩:=yN hL (um hob).1
  rcases Nat.lt_or_ge i m with hlt'|hge
  ·exact hlt'
  ·have h1:i<m+1:=h1
   have e1:i=m:=by omega
   rw[e1] at hi; simp[Hz.ay,hn] at hi
def Yd(q:Prop')(a:Elem):Bool:= !(zQ a.counts q.goal)
def oK(q:Prop')(a:Elem):Bool:=(q.kind==1)|| !(Yd q a)
theorem S.jF(q:Prop')(a:Elem)(hq:iW q)(ha:a.counts.length<2^40):aj Tryz.prog 46 [.dat (.prop q),.dat (.elem a)] (.bool (Yd q a)):=by
 have hg:=hq.goal
 refine aj.of Bd.jF (by simp) rfl rfl ?_
 conv=>whnf
 refine aI.same [2,8,9] (fun i:Nat=>[(10,.int i)]) (fun i=>i<=a.counts.length/\(List.range i).any (fun i=>decide (a.counts.getD i 0>0)&& !(yL q.goal i))=false) (fun i=>a.counts.length-i) 0 rfl (by decide) rfl (fun _=>rfl) ⟨by omega,by simp⟩ ⟨⟨_,rfl,rfl⟩,trivial⟩ ?_
 conv=>whnf
 refine⟨rfl,?_⟩
 rintro i ⟨hi,hall⟩
 conv=>whnf
 refine⟨fun h3=>?_,fun h3=>?_⟩
 ·have hi':i<a.counts.length:=by simpa using h3
  conv=>whnf
  repeat(refine VC.mk (by first|exact id|exact fun h=>⟨h,h⟩|(simp only[Rw.rng] at *; first|omega|(simp_all; done)|(simp_all; omega))) ?_; conv=>whnf)
  refine ah.iD (fun _=>S.slices_Contains_int q.goal i false (by omega)) rfl ?_
  conv=>whnf
  repeat(refine VC.mk id ?_; conv=>whnf)
  refine⟨fun h4=>?_,fun h4=>?_⟩
  ·conv=>whnf
   have:zQ a.counts q.goal=true:=nT.2 ⟨i,hi',h4⟩
   exact ak.bool (by rw[Yd,this]; rfl)
  ·conv=>whnf
   refine .mk (by simp only[okI] at *; first|omega|(simp_all; done)|(simp_all; omega)) ?_
   conv=>whnf
   refine⟨i+1,⟨by omega,?_⟩,by omega,⟨⟨_,rfl,rfl⟩,trivial⟩,?_,rfl⟩
   ·rw[List.range_succ,List.any_append,hall]
    simp only[List.any_cons,List.any_nil,Bool.or_false,Bool.false_or]; exact h4
   ·repeat' (first|exact trivial|exact⟨_,rfl,rfl⟩|constructor)
 ·have hi':a.counts.length<=i:=by simpa using h3
  have ei:i=a.counts.length:=Nat.le_antisymm hi hi'
  subst ei
  conv=>whnf
  exact ak.bool (by rw[Yd,show zQ a.counts q.goal=false from hall]; rfl)
abbrev hA(a:Elem)(l:List Elem):Hz:=[(0,some (.box 54 3 (.dat (.elem a)))),(1,some (eF l))]
theorem S.RJ(a b:Elem)(l:List Elem)(ha:a.counts.length<2^40)(hb:b.counts.length<2^40)(n:Nat):aN Tryz.prog 44 (V.bn [.dat (.elem b),.ptr 0 0 0]) (hA a l).ay n (fun t hp=>t=(V.bool (iK a b==0)).aG/\hp=(hA a l).ay):=by
 refine oI.of (nx:=2) (h0:=hA a l) Bd.kY (by simp) ⟨_,_,rfl,rfl⟩ rfl rfl ?_
 conv=>whnf
 refine ah.pure (S.fZ a b ha hb) rfl ?_
 conv=>whnf
 exact ny.same (nx:=2) (h0:=hA a l) rfl ⟨rfl,rfl,trivial⟩ rfl rfl ⟨rfl,rfl⟩
def Um(a:Elem)(l:List Elem):Bool:=l.any fun b=>iK a b==0
theorem S.Pv(a:Elem)(l:List Elem)(ha:a.counts.length<2^40)(hl:l.length<2^30)(hs:gq l)(n:Nat):aN Tryz.prog 70 (V.bn [.own 1,.fn 44 [.ptr 0 0 0]]) (hA a l).ay n (fun t hp=>t=(V.int (Ye (fun b=>iK a b==0) l)).aG/\hp=(hA a l).ay):=by
 refine oI.of (nx:=2) (h0:=hA a l) Bd.bF (by simp) ⟨_,_,rfl,rfl⟩ rfl rfl ?_
 conv=>whnf
 refine aI.same [0,1,7] (fun i:Nat=>[(8,.int i)]) (fun i=>i<=l.length/\(l.take i).any (fun b=>iK a b==0)=false) (fun i=>l.length-i) 0 rfl (by decide) rfl (fun _=>rfl) ⟨by omega,by simp⟩ ⟨⟨_,rfl,rfl⟩,trivial⟩ ?_
 conv=>whnf
 refine⟨rfl,?_⟩
 rintro i ⟨hi,hall⟩
 conv=>whnf
 refine⟨fun h3=>?_,fun h3=>?_⟩
 ·have hi':i<l.length:=by simpa using h3
  conv=>whnf
  repeat(refine VC.mk (by simp only[Rw.rng] at *; first|omega|(simp_all; done)|(simp_all; omega)) ?_; conv=>whnf)
  refine ah.heap (S.RJ a (l.getD i default) l ha (hs.get i) _) ?_
  rintro t hp ⟨rfl,rfl⟩
  refine⟨.bool (iK a (l.getD i default)==0),hA a l,rfl,rfl,?_⟩
  conv=>whnf
  refine⟨fun h4=>?_,fun h4=>?_⟩
  ·conv=>whnf
   refine ny.same (nx:=2) (h0:=hA a l) rfl ⟨rfl,rfl,trivial⟩ rfl rfl ⟨?_,rfl⟩
   rw[Ye,if_pos (gI (p:=fun b=>iK a b==0) (d:=default) hi' h4),J3 (p:=fun b=>iK a b==0) hi' hall h4]
  ·conv=>whnf
   refine .mk (by simp only[okI] at *; first|omega|(simp_all; done)|(simp_all; omega)) ?_
   conv=>whnf
   refine⟨i+1,⟨by omega,?_⟩,by omega,⟨⟨_,rfl,rfl⟩,trivial⟩,?_,rfl⟩
   ·rw[jE (p:=fun b=>iK a b==0) (d:=default) hi' hall]; exact h4
   ·repeat' (first|exact trivial|exact⟨_,rfl,rfl⟩|constructor)
 ·have hi':l.length<=i:=by simpa using h3
  rw[List.take_of_length_le hi'] at hall
  conv=>whnf
  refine ny.same (nx:=2) (h0:=hA a l) rfl ⟨rfl,rfl,trivial⟩ rfl rfl ⟨?_,rfl⟩
  rw[Ye,if_neg (by rw[hall]; decide)]
theorem S.Iw(a:Elem)(l:List Elem)(ha:a.counts.length<2^40)(hl:l.length<2^30)(hs:gq l)(n:Nat):aN Tryz.prog 43 (V.bn [.own 1,.fn 44 [.ptr 0 0 0]]) (hA a l).ay n (fun t hp=>t=(V.bool (Um a l)).aG/\hp=(hA a l).ay):=by
 refine oI.of (nx:=2) (h0:=hA a l) Bd.aV (by simp) ⟨_,_,rfl,rfl⟩ rfl rfl ?_
 conv=>whnf
 refine ah.heap (S.Pv a l ha hl hs _) ?_
 rintro t hp ⟨rfl,rfl⟩
 refine⟨.int (Ye (fun b=>iK a b==0) l),hA a l,rfl,rfl,?_⟩
 conv=>whnf
 refine ny.same (nx:=2) (h0:=hA a l) rfl ⟨rfl,rfl,trivial⟩ rfl rfl ⟨?_,rfl⟩
 unfold Ye Um
 cases hk:l.any fun b=>iK a b==0 with
 |true=>rw[if_pos rfl,show decide ((0:Int)<=(l.findIdx (fun b=>iK a b==0):Int))=true from decide_eq_true (by omega)]
 |false=>rfl
abbrev hA0(a:Elem):Hz:=[(0,some (.box 54 3 (.dat (.elem a))))]
theorem S.Nb(a:Elem)(n:Nat):aN Tryz.prog 70 (V.bn [.row 0 true .nil,.fn 44 [.ptr 0 0 0]]) (hA0 a).ay n (fun t hp=>t=(V.int (-1)).aG/\hp=(hA0 a).ay):=by
 refine oI.of (nx:=1) (h0:=hA0 a) Bd.bF (by simp) ⟨_,_,rfl,rfl⟩ rfl rfl ?_
 conv=>whnf
 refine aI.times 1 rfl ?_
 conv=>whnf
 refine Fork.mk (fun q=>absurd (q.symm.trans ((rfl:decide ((0:Int)<0)=false))).symm Bool.false_ne_true) (fun _=>?_)
 conv=>whnf
 exact ny.same (nx:=1) (h0:=hA0 a) rfl ⟨rfl,trivial⟩ rfl rfl ⟨rfl,rfl⟩
theorem S.GK(a:Elem)(n:Nat):aN Tryz.prog 43 (V.bn [.row 0 true .nil,.fn 44 [.ptr 0 0 0]]) (hA0 a).ay n (fun t hp=>t=(V.bool false).aG/\hp=(hA0 a).ay):=by
 refine oI.of (nx:=1) (h0:=hA0 a) Bd.aV (by simp) ⟨_,_,rfl,rfl⟩ rfl rfl ?_
 conv=>whnf
 refine ah.heap (S.Nb a _) ?_
 rintro t hp ⟨rfl,rfl⟩
 refine⟨.int (-1),hA0 a,rfl,rfl,?_⟩
 conv=>whnf
 exact ny.same (nx:=1) (h0:=hA0 a) rfl ⟨rfl,trivial⟩ rfl rfl ⟨rfl,rfl⟩
def oh(q:Prop')(out:List Elem)(a:Elem):List Elem:=if(!(Um a out)&&oK q a)=true then out++[a] else out
def gW(q:Prop')(out l:List Elem):List Elem:=l.foldl (oh q) out
theorem Iy{q:Prop'}{out l:List Elem}{i:Nat}(hi:i<l.length):gW q out (l.take (i+1))=oh q (gW q out (l.take i)) (l.getD i default):=by
 unfold gW
 have ht:l.take (i+1)=l.take i++[l.getD i default]:=by rw[List.take_add_one]; simp[hi]
 rw[ht,List.foldl_append]; rfl
theorem KZ{q:Prop'}: ∀ {l out:List Elem},(gW q out l).length<=out.length+l.length:=by
 intro l
 induction l with
 |nil=>intro out; exact Nat.le_refl _
 |cons a l ih =>
  intro out
  have h1:(oh q out a).length<=out.length+1:=by unfold oh; split<;>simp
  have h2:=ih (out:=oh q out a)
  show(gW q (oh q out a) l).length<=_
  rw[List.length_cons]; omega
theorem rM{q:Prop'}: ∀ {l out:List Elem} {x:Elem},x∈gW q out l↔x∈out\/(x∈l/\oK q x=true):=by
 intro l
 induction l with
 |nil=>intro out x; simp[gW]
 |cons a l ih =>
  intro out x
  show x∈gW q (oh q out a) l↔_
  rw[ih]
  have kn:Um a out=true↔a∈out:=by
   unfold Um
   rw[List.any_eq_true]
   constructor
   ·rintro⟨b,hb,h⟩
    rw[beq_iff_eq,kX] at h
    rw[h]; exact hb
   ·intro h; exact⟨a,h,by rw[beq_iff_eq,kX]⟩
  have h1:x∈oh q out a↔x∈out\/(x=a/\oK q a=true):=by
   unfold oh
   split
   ·rename_i h
    rw[Bool.and_eq_true] at h
    rw[List.mem_append,List.mem_singleton]
    simp[h.2]
   ·rename_i h
    rw[Bool.and_eq_true,Bool.not_eq_true'] at h
    constructor
    ·exact .inl
    ·rintro(h2|⟨rfl,h2⟩)
     ·exact h2
     ·cases hk:Um x out with
      |true=>exact kn.1 hk
      |false=>exact absurd ⟨hk,h2⟩ h
  rw[h1,List.mem_cons]
  constructor
  ·rintro((h|⟨rfl,h⟩)|⟨h,g⟩)
   ·exact .inl h
   ·exact .inr ⟨.inl rfl,h⟩
   ·exact .inr ⟨.inr h,g⟩
  ·rintro(h|⟨rfl|h,g⟩)
   ·exact .inl (.inl h)
   ·exact .inl (.inr ⟨rfl,g⟩)
   ·exact .inr ⟨h,g⟩
abbrev GL:OV:=.box 51 0 (.row 0 true .nil)
abbrev BF(j:Nat):OV:=.box 51 0 (.own j)
abbrev qw(q:Prop'):OV:=.box 30 7 (.dat (.prop q))
abbrev hM(q:Prop')(out:List Elem):Hz:=[(0,some (BF 2)),(1,some (qw q)),(2,some (eF out))]
abbrev Un(l:List Elem):List V:=[.row 3 false (.elems l),.ptr 0 0 0,.ptr 1 0 0]
theorem Iz{q:Prop'}{out l:List Elem}(h1:gq out)(h2:gq l):gq (gW q out l):=fun x hx=>by
 rcases rM.1 hx with h|⟨h,_⟩
 ·exact h1 x h
 ·exact h2 x h
theorem IB{l:List Elem}(h:gq l)(i:Nat):gq (l.take i):=fun x hx=>h x (List.mem_of_mem_take hx)
theorem ah.contains{a:Elem}{l:List Elem}{h:Hz}{i j n:Nat}{K:V->Hz->Prop}{KW:Nat->V->Hz->Prop}(ha:a.counts.length<2^40)(hl:l.length<2^30)(hs:gq l)(hi:h.get i=some (.box 54 3 (.dat (.elem a))))(hj:h.get j=some (eF l))(hn:h.get n=none)(hij:i≠j)
  (hK:K (.bool (Um a l)) ((i,some (.box 54 3 (.dat (.elem a))))::(j,some (eF l))::(n,none)::h)):ah Tryz.prog false none 43 [.own j,.fn 44 [.ptr i 0 0]] h n K KW:=by
 have hin:i≠n:=by rintro rfl; rw[hi] at hn; cases hn
 have hjn:j≠n:=by rintro rfl; rw[hj] at hn; cases hn
 refine ah.Nc (ts:=[.own 1,.fn 44 [.ptr 0 0 0]]) (pre:=hA a l) [i,j] (S.Iw a l ha hl hs 2) rfl rfl rfl rfl rfl ⟨⟨_,hi,jg rfl _⟩,⟨_,hj,jg rfl _⟩,trivial⟩ hn (by simp[hij,hin,hjn]) ?_
 rintro t hp ⟨rfl,rfl⟩
 exact⟨.bool (Um a l),[some (.box 54 3 (.dat (.elem a))),some (eF l),none],rfl,rfl,⟨congrArg some (jg (o:=.box 54 3 (.dat (.elem a))) rfl _).symm,congrArg some (jg (o:=eF l) rfl _).symm,rfl,trivial⟩,hK⟩
theorem ah.VN{a:Elem}{h:Hz}{i n:Nat}{K:V->Hz->Prop}{KW:Nat->V->Hz->Prop}(hi:h.get i=some (.box 54 3 (.dat (.elem a))))(hn:h.get n=none)
  (hK:K (.bool false) ((i,some (.box 54 3 (.dat (.elem a))))::(n,none)::h)):ah Tryz.prog false none 43 [.row 0 true .nil,.fn 44 [.ptr i 0 0]] h n K KW:=by
 have hin:i≠n:=by rintro rfl; rw[hi] at hn; cases hn
 refine ah.Nc (ts:=[.row 0 true .nil,.fn 44 [.ptr 0 0 0]]) (pre:=hA0 a) [i] (S.GK a 1) rfl rfl rfl rfl rfl ⟨⟨_,hi,jg rfl _⟩,trivial⟩ hn (by simp[hin]) ?_
 rintro t hp ⟨rfl,rfl⟩
 exact⟨.bool false,[some (.box 54 3 (.dat (.elem a))),none],rfl,rfl,⟨congrArg some (jg (o:=.box 54 3 (.dat (.elem a))) rfl _).symm,rfl,trivial⟩,hK⟩
set_option maxHeartbeats 1000000 in
theorem S.Yf(q:Prop')(out l:List Elem)(hq:iW q)(ho:out.length+l.length<2^30)(so:gq out)(sl:gq l):aN Tryz.prog 42 (V.bn (Un l)) (hM q out).ay 3 (fun t hp=>t=(V.fP []).aG/\hp=Hz.ay [(0,some (BF 3)),(1,some (qw q)),(3,some (eF (gW q out l)))]):=by
 refine oI.of (nx:=3) (h0:=hM q out) Bd.mM (by simp) ⟨_,_,rfl,rfl⟩ rfl rfl ?_
 conv=>whnf
 refine aI.nZ 4 [1,2,7,8] (fun a:Nat=>[(9,.int a)]) (fun a=>[(0,BF 3),(1,qw q),(3,eF (gW q out (l.take a)))]) (fun a=>a<=l.length) (fun a=>l.length-a) 0 [0,1,2] rfl (by decide) (fun _=>rfl) (Nat.zero_le _) ?_ ?_ ?_
 ·exact⟨⟨_,rfl,.eq rfl⟩,trivial⟩
 ·exact⟨⟨rfl,(fun _=>rfl),rfl,rfl,_,rfl,rfl,rfl,dN.of_eq rfl⟩,okF rfl (fun _=>rfl) rfl rfl rfl ⟨rfl,rfl⟩ rfl,okF rfl nofun rfl rfl rfl ⟨rfl,rfl⟩ rfl,trivial⟩
 conv=>whnf
 refine⟨⟨⟨_,rfl,.eq rfl⟩,⟨_,rfl,.eq rfl⟩,⟨_,rfl,.eq rfl⟩,⟨_,rfl,.eq rfl⟩,trivial⟩,rfl,?_⟩
 rintro a ha
 have hml:=KZ (q:=q) (l:=l.take a) (out:=out)
 rw[List.length_take] at hml
 have hms:=Iz (q:=q) so (IB sl a)
 conv=>whnf
 refine⟨fun h1=>?_,fun h1=>?_⟩
 ·have ha':a<l.length:=by simpa using h1
  have hstep:=Iy (q:=q) (out:=out) ha'
  have hel:=sl.get a
  conv=>whnf
  refine .mk (by simp only[Rw.rng] at *; first|omega|(simp_all; done)|(simp_all; omega)) ?_
  conv=>whnf
  refine ah.contains (a:=l.getD a default) (l:=gW q out (l.take a)) hel (by omega) hms rfl rfl rfl (by decide) ?_
  conv=>whnf
  repeat(refine VC.mk (by first|exact id|exact fun h=>⟨h,h⟩) ?_; conv=>whnf)
  refine ah.iD (fun _=>S.jF q (l.getD a default) hq hel) rfl ?_
  conv=>whnf
  repeat(refine VC.mk (by first|exact id|(intro h; simp_all; done)) ?_; conv=>whnf)
  refine⟨fun h2=>?_,fun h2=>?_⟩
  ·replace h2:(!(Um (l.getD a default) (gW q out (l.take a)))&&oK q (l.getD a default))=true:=h2
   rw[oh,if_pos h2] at hstep
   conv=>whnf
   repeat(refine VC.mk (by first|(show((gW q out (l.take a)).length+(0+1))*32<=140737488355328/\(gW q out (l.take a)).length+(0+1)<=1152921504606846976; omega)|(simp only[okI] at *; first|omega|(simp_all; done)|(simp_all; omega))) ?_; conv=>whnf)
   refine⟨a+1,[0,1,29],by omega,by omega,⟨⟨_,rfl,.eq rfl⟩,trivial⟩,⟨⟨_,rfl,.eq rfl⟩,⟨_,rfl,.eq rfl⟩,⟨_,rfl,.eq rfl⟩,⟨_,rfl,.eq rfl⟩,trivial⟩,⟨rfl,(fun _=>rfl),rfl,rfl,_,rfl,rfl,rfl,dN.of_eq rfl⟩,okF rfl (fun _=>rfl) rfl rfl rfl ⟨rfl,rfl⟩ rfl,okF rfl nofun rfl rfl rfl ⟨rfl,rfl⟩ ?_,trivial⟩
   rw[hstep]
   show List.map eG (gW q out (l.take a)++[l.getD a default])++[]=List.map eG (gW q out (l.take a))++[eG (l.getD a default)]
   simp
  ·replace h2:(!(Um (l.getD a default) (gW q out (l.take a)))&&oK q (l.getD a default))=false:=h2
   rw[oh,if_neg (by rw[h2]; decide)] at hstep
   conv=>whnf
   refine .mk (by simp only[okI] at *; first|omega|(simp_all; done)|(simp_all; omega)) ?_
   conv=>whnf
   refine⟨a+1,[0,1,3],by omega,by omega,⟨⟨_,rfl,.eq rfl⟩,trivial⟩,⟨⟨_,rfl,.eq rfl⟩,⟨_,rfl,.eq rfl⟩,⟨_,rfl,.eq rfl⟩,⟨_,rfl,.eq rfl⟩,trivial⟩,⟨rfl,(fun _=>rfl),rfl,rfl,_,rfl,rfl,rfl,dN.of_eq rfl⟩,okF rfl (fun _=>rfl) rfl rfl rfl ⟨rfl,rfl⟩ rfl,okF rfl nofun rfl rfl rfl ⟨rfl,rfl⟩ (by rw[hstep]),trivial⟩
 ·have ha':l.length<=a:=by simpa using h1
  rw[List.take_of_length_le ha']
  conv=>whnf
  exact ny.objs [(0,BF 3),(1,qw q),(3,eF (gW q out l))] [0,1,3] rfl ⟨⟨rfl,(fun _=>rfl),rfl,rfl,_,rfl,rfl,rfl,dN.of_eq rfl⟩,okF rfl (fun _=>rfl) rfl rfl rfl ⟨rfl,rfl⟩ rfl,okF rfl nofun rfl rfl rfl ⟨rfl,rfl⟩ rfl,trivial⟩ rfl rfl ⟨rfl,rfl⟩
theorem IC.at{ι:Type}{inv:ι->Prop}{μ:ι->Nat}{vars:ι->Fm}{objs:ι->List (Nat×OV)}{base:Fm}{nx pn:Nat}{i:ι}{m:Fm}{h:Hz}(j:ι)(nw:List Nat)(L:List (Nat×OV))(e:objs j=L)(h1:inv j)(h2:μ j<μ i)(h3:ou (nD L nw) m (vars j))(h4:ou (nD L nw) m base)(h5:okR (nD L nw) nx pn h L nw):IC inv μ vars objs base nx pn i m h:=by
 subst e
 exact⟨j,nw,h1,h2,h3,h4,h5⟩
def Px(q:Prop')(out:List Elem):List (Nat×OV):=match out with
 |[]=>[(0,GL),(1,qw q)]
 |x::l=>[(0,BF 2),(1,qw q),(2,eF (x::l))]
abbrev hN(q:Prop'):Hz:=[(0,some GL),(1,some (qw q))]
set_option maxHeartbeats 2000000 in
theorem S.Yg(q:Prop')(l:List Elem)(hq:iW q)(hl:l.length<2^28)(sl:gq l):aN Tryz.prog 42 (V.bn (Un l)) (hN q).ay 2 (fun t hp=>t=(V.fP []).aG/\hp=(Iq (Px q (gW q [] l))).ay):=by
 refine oI.of (nx:=2) (h0:=hN q) Bd.mM (by simp) ⟨_,_,rfl,rfl⟩ rfl rfl ?_
 conv=>whnf
 refine aI.nZ 3 [1,2,7,8] (fun a:Nat=>[(9,.int a)]) (fun a=>Px q (gW q [] (l.take a))) (fun a=>a<=l.length) (fun a=>l.length-a) 0 [0,1] rfl (by decide) (fun _=>rfl) (Nat.zero_le _) ?_ ?_ ?_
 ·exact⟨⟨_,rfl,.eq rfl⟩,trivial⟩
 ·exact⟨⟨rfl,(fun _=>rfl),rfl,rfl,_,rfl,rfl,rfl,dN.of_eq rfl⟩,okF rfl (fun _=>rfl) rfl rfl rfl ⟨rfl,rfl⟩ rfl,trivial⟩
 conv=>whnf
 refine⟨⟨⟨_,rfl,.eq rfl⟩,⟨_,rfl,.eq rfl⟩,⟨_,rfl,.eq rfl⟩,⟨_,rfl,.eq rfl⟩,trivial⟩,rfl,?_⟩
 rintro a ha
 have hml:=KZ (q:=q) (l:=l.take a) (out:=[])
 rw[List.length_take,List.length_nil] at hml
 have hms:=Iz (q:=q) (fun _ h=>by cases h) (IB sl a) (out:=[])
 have hstep:a<l.length->gW q [] (l.take (a+1))=oh q (gW q [] (l.take a)) (l.getD a default):=fun h=>Iy h
 have hend:l.length<=a->gW q [] l=gW q [] (l.take a):=fun h=>by rw[List.take_of_length_le h]
 have hel:=sl.get a
 generalize gW q [] (l.take a)=out at hml hms hstep hend ⊢
 cases out with
 |nil =>
  show az _ _ _ _ _ _ (Iq [(0,GL),(1,qw q)]) _
  conv=>whnf
  refine⟨fun h1=>?_,fun h1=>?_⟩
  ·have ha':a<l.length:=by simpa using h1
   replace hstep:=hstep ha'
   conv=>whnf
   refine .mk (by simp only[Rw.rng] at *; first|omega|(simp_all; done)|(simp_all; omega)) ?_
   conv=>whnf
   refine ah.VN (a:=l.getD a default) rfl rfl ?_
   conv=>whnf
   repeat(refine VC.mk (by first|exact id|exact fun h=>⟨h,h⟩) ?_; conv=>whnf)
   refine ah.iD (fun _=>S.jF q (l.getD a default) hq hel) rfl ?_
   conv=>whnf
   repeat(refine VC.mk (by first|exact id|(intro h; simp[]; done)) ?_; conv=>whnf)
   refine⟨fun h2=>?_,fun h2=>?_⟩
   ·replace h2:oK q (l.getD a default)=true:=h2
    rw[oh,if_pos (by rw[h2]; rfl)] at hstep
    conv=>whnf
    repeat(refine VC.mk (by first|(show(0+(0+1))*32<=140737488355328/\0+(0+1)<=1152921504606846976; omega)|(simp only[okI] at *; first|omega|(simp_all; done)|(simp_all; omega))) ?_; conv=>whnf)
    refine IC.at (a+1) [0,1,28] [(0,BF 2),(1,qw q),(2,eF [l.getD a default])] (congrArg (Px q) hstep) (by omega) (by omega) ⟨⟨_,rfl,.eq rfl⟩,trivial⟩ ⟨⟨_,rfl,.eq rfl⟩,⟨_,rfl,.eq rfl⟩,⟨_,rfl,.eq rfl⟩,⟨_,rfl,.eq rfl⟩,trivial⟩ ⟨⟨rfl,(fun _=>rfl),rfl,rfl,_,rfl,rfl,rfl,dN.of_eq rfl⟩,okF rfl (fun _=>rfl) rfl rfl rfl ⟨rfl,rfl⟩ rfl,okF rfl nofun rfl rfl rfl ⟨rfl,rfl⟩ rfl,trivial⟩
   ·replace h2:oK q (l.getD a default)=false:=h2
    rw[oh,if_neg (by rw[h2,Bool.and_false]; exact Bool.false_ne_true)] at hstep
    conv=>whnf
    refine .mk (by simp only[okI] at *; first|omega|(simp_all; done)|(simp_all; omega)) ?_
    conv=>whnf
    refine IC.at (a+1) [0,1] [(0,GL),(1,qw q)] (congrArg (Px q) hstep) (by omega) (by omega) ⟨⟨_,rfl,.eq rfl⟩,trivial⟩ ⟨⟨_,rfl,.eq rfl⟩,⟨_,rfl,.eq rfl⟩,⟨_,rfl,.eq rfl⟩,⟨_,rfl,.eq rfl⟩,trivial⟩ ⟨⟨rfl,(fun _=>rfl),rfl,rfl,_,rfl,rfl,rfl,dN.of_eq rfl⟩,okF rfl (fun _=>rfl) rfl rfl rfl ⟨rfl,rfl⟩ rfl,trivial⟩
  ·have ha':l.length<=a:=by simpa using h1
   rw[hend ha']
   conv=>whnf
   exact ny.objs [(0,GL),(1,qw q)] [0,1] rfl ⟨⟨rfl,(fun _=>rfl),rfl,rfl,_,rfl,rfl,rfl,dN.of_eq rfl⟩,okF rfl (fun _=>rfl) rfl rfl rfl ⟨rfl,rfl⟩ rfl,trivial⟩ rfl rfl ⟨rfl,rfl⟩
 |cons x out =>
  show az _ _ _ _ _ _ (Iq [(0,BF 2),(1,qw q),(2,eF (x::out))]) _
  generalize ho:x::out=o at hml hms hstep hend ⊢
  have hoM:Px q o=[(0,BF 2),(1,qw q),(2,eF o)]:=by subst ho; rfl
  have agn: ∀ e,Px q (o++[e])=[(0,BF 2),(1,qw q),(2,eF (o++[e]))]:=fun e=>by subst ho; rfl
  conv=>whnf
  refine⟨fun h1=>?_,fun h1=>?_⟩
  ·have ha':a<l.length:=by simpa using h1
   replace hstep:=hstep ha'
   conv=>whnf
   refine .mk (by simp only[Rw.rng] at *; first|omega|(simp_all; done)|(simp_all; omega)) ?_
   conv=>whnf
   refine ah.contains (a:=l.getD a default) (l:=o) hel (by omega) hms rfl rfl rfl (by decide) ?_
   conv=>whnf
   repeat(refine VC.mk (by first|exact id|exact fun h=>⟨h,h⟩) ?_; conv=>whnf)
   refine ah.iD (fun _=>S.jF q (l.getD a default) hq hel) rfl ?_
   conv=>whnf
   repeat(refine VC.mk (by first|exact id|(intro h; simp_all; done)) ?_; conv=>whnf)
   refine⟨fun h2=>?_,fun h2=>?_⟩
   ·replace h2:(!(Um (l.getD a default) o)&&oK q (l.getD a default))=true:=h2
    rw[oh,if_pos h2] at hstep
    conv=>whnf
    repeat(refine VC.mk (by first|(show(o.length+(0+1))*32<=140737488355328/\o.length+(0+1)<=1152921504606846976; omega)|(simp only[okI] at *; first|omega|(simp_all; done)|(simp_all; omega))) ?_; conv=>whnf)
    refine IC.at (a+1) [0,1,28] _ ((congrArg (Px q) hstep).trans (agn _)) (by omega) (by omega) ⟨⟨_,rfl,.eq rfl⟩,trivial⟩ ⟨⟨_,rfl,.eq rfl⟩,⟨_,rfl,.eq rfl⟩,⟨_,rfl,.eq rfl⟩,⟨_,rfl,.eq rfl⟩,trivial⟩ ⟨⟨rfl,(fun _=>rfl),rfl,rfl,_,rfl,rfl,rfl,dN.of_eq rfl⟩,okF rfl (fun _=>rfl) rfl rfl rfl ⟨rfl,rfl⟩ rfl,okF rfl nofun rfl rfl rfl ⟨rfl,rfl⟩ ?_,trivial⟩
    show List.map eG (o++[l.getD a default])++[]=List.map eG o++[eG (l.getD a default)]
    simp
   ·replace h2:(!(Um (l.getD a default) o)&&oK q (l.getD a default))=false:=h2
    rw[oh,if_neg (by rw[h2]; exact Bool.false_ne_true)] at hstep
    conv=>whnf
    refine .mk (by simp only[okI] at *; first|omega|(simp_all; done)|(simp_all; omega)) ?_
    conv=>whnf
    refine IC.at (a+1) [0,1,2] _ ((congrArg (Px q) hstep).trans hoM) (by omega) (by omega) ⟨⟨_,rfl,.eq rfl⟩,trivial⟩ ⟨⟨_,rfl,.eq rfl⟩,⟨_,rfl,.eq rfl⟩,⟨_,rfl,.eq rfl⟩,⟨_,rfl,.eq rfl⟩,trivial⟩ ⟨⟨rfl,(fun _=>rfl),rfl,rfl,_,rfl,rfl,rfl,dN.of_eq rfl⟩,okF rfl (fun _=>rfl) rfl rfl rfl ⟨rfl,rfl⟩ rfl,okF rfl nofun rfl rfl rfl ⟨rfl,rfl⟩ rfl,trivial⟩
  ·have ha':l.length<=a:=by simpa using h1
   rw[hend ha',hoM]
   conv=>whnf
   exact ny.objs [(0,BF 2),(1,qw q),(2,eF o)] [0,1,2] rfl ⟨⟨rfl,(fun _=>rfl),rfl,rfl,_,rfl,rfl,rfl,dN.of_eq rfl⟩,okF rfl (fun _=>rfl) rfl rfl rfl ⟨rfl,rfl⟩ rfl,okF rfl nofun rfl rfl rfl ⟨rfl,rfl⟩ rfl,trivial⟩ rfl rfl ⟨rfl,rfl⟩
theorem ah.Yg{q:Prop'}{l:List Elem}{h:Hz}{B C n:Nat}{K:V->Hz->Prop}{KW:Nat->V->Hz->Prop}(hq:iW q)(hl:l.length<2^28)(sl:gq l)(hB:h.get B=some GL)(hC:h.get C=some (qw q))(hBC:B≠C)(hn:h.get n=none)
  (h0:gW q [] l=[]->K (.fP []) ((B,some GL)::(C,some (qw q))::(n,none)::h))
  (h1: ∀ x o,gW q [] l=x::o->K (.fP []) ((B,some (BF n))::(C,some (qw q))::(n,some (eF (x::o)))::h)):ah Tryz.prog false none 42 [.row 3 false (.elems l),.ptr B 0 0,.ptr C 0 0] h n K KW:=by
 have hBn:B≠n:=by rintro rfl; rw[hB] at hn; cases hn
 have hCn:C≠n:=by rintro rfl; rw[hC] at hn; cases hn
 refine ah.Nc (ts:=Un l) (pre:=hN q) [B,C] (S.Yg q l hq hl sl) rfl rfl rfl rfl rfl ⟨⟨_,hB,rfl⟩,⟨_,hC,jg rfl _⟩,trivial⟩ hn (by simp[hBC,hBn,hCn]) ?_
 rintro t hp ⟨rfl,rfl⟩
 cases hm:gW q [] l with
 |nil=>exact⟨.fP [],[some GL,some (qw q),none],rfl,rfl,⟨rfl,congrArg some (jg (o:=qw q) rfl _).symm,rfl,trivial⟩,h0 hm⟩
 |cons x o=>exact⟨.fP [],[some (BF n),some (qw q),some (eF (x::o))],rfl,rfl,⟨rfl,congrArg some (jg (o:=qw q) rfl _).symm,congrArg some (jg (o:=eF (x::o)) rfl _).symm,trivial⟩,h1 x o hm⟩
theorem ah.Yf{q:Prop'}{out l:List Elem}{h:Hz}{B C j n:Nat}{K:V->Hz->Prop}{KW:Nat->V->Hz->Prop}(hq:iW q)(ho:out.length+l.length<2^30)(so:gq out)(sl:gq l)(hB:h.get B=some (BF j))(hC:h.get C=some (qw q))(hj:h.get j=some (eF out))(hBC:B≠C)(hBj:B≠j)(hCj:C≠j)(hn:h.get n=none)
  (hK:K (.fP []) ((B,some (BF n))::(C,some (qw q))::(j,none)::(n,some (eF (gW q out l)))::h)):ah Tryz.prog false none 42 [.row 3 false (.elems l),.ptr B 0 0,.ptr C 0 0] h n K KW:=by
 have hBn:B≠n:=by rintro rfl; rw[hB] at hn; cases hn
 have hCn:C≠n:=by rintro rfl; rw[hC] at hn; cases hn
 have hjn:j≠n:=by rintro rfl; rw[hj] at hn; cases hn
 refine ah.Nc (ts:=Un l) (pre:=hM q out) [B,C,j] (S.Yf q out l hq ho so sl) rfl rfl rfl rfl rfl ⟨⟨_,hB,rfl⟩,⟨_,hC,jg rfl _⟩,⟨_,hj,jg rfl _⟩,trivial⟩ hn (by simp[hBC,hBn,hCn,hBj,hCj,hjn]) ?_
 rintro t hp ⟨rfl,rfl⟩
 exact⟨.fP [],[some (BF n),some (qw q),none,some (eF (gW q out l))],rfl,rfl,⟨rfl,congrArg some (jg (o:=qw q) rfl _).symm,rfl,congrArg some (jg (o:=eF (gW q out l)) rfl _).symm,trivial⟩,hK⟩
theorem S.RN:aj Tryz.prog 131 [.row 0 true .nil,.int 0,.int 0,.fn 45 []] (.fP []):=by
 refine aj.of Bd.bH (by simp) rfl rfl ?_
 conv=>whnf
 refine .mk (by simp only[okI] at *; first|omega|(simp_all; done)|(simp_all; omega)) ?_
 conv=>whnf
 refine aI.times 1 rfl ?_
 conv=>whnf
 refine Fork.mk (fun q=>absurd (q.symm.trans ((rfl:decide ((0:Int)+1<0)=false))).symm Bool.false_ne_true) (fun _=>?_)
 conv=>whnf
 exact⟨dP _⟩
theorem S.agp:aj Tryz.prog 109 [.row 0 true .nil,.int 0,.int 0,.int 0,.fn 45 []] (.fP []):=by
 refine aj.of Bd.cu (by simp) rfl rfl ?_
 conv=>whnf
 refine aI.times 1 rfl ?_
 conv=>whnf
 refine .mk (by simp only[okI] at *; first|omega|(simp_all; done)|(simp_all; omega)) ?_
 conv=>whnf
 refine Fork.mk (fun _=>?_) (fun q=>absurd (q.symm.trans ((rfl:decide ((0:Int)-0<=12)=true))) Bool.false_ne_true)
 conv=>whnf
 refine ah.pure (S.RN) rfl ?_
 conv=>whnf
 exact⟨dP _⟩
theorem S.ae2:aj Tryz.prog 78 [.row 0 true .nil,.fn 45 []] (.fP []):=by
 refine aj.of Bd.aS (by simp) rfl rfl ?_
 conv=>whnf
 refine .mk (by omega) ?_
 conv=>whnf
 refine ah.pure (S.bitsLen) rfl ?_
 conv=>whnf
 refine ah.pure (S.agp) rfl ?_
 conv=>whnf
 exact⟨dP _⟩
theorem S.ae3:aj Tryz.prog 79 [.row 0 true .nil,.fn 80 []] (.row 0 true .nil):=by
 refine aj.of Bd.bg (by simp) rfl rfl ?_
 conv=>whnf
 refine Fork.mk (fun _=>?_) (fun q=>absurd (q.symm.trans ((rfl:decide ((0:Int)<2)=true))) Bool.false_ne_true)
 conv=>whnf
 exact⟨dP _⟩
theorem S.RP:aj Tryz.prog 49 [.row 0 true .nil] (.row 0 true .nil):=by
 refine aj.of Bd.pW (by simp) rfl rfl ?_
 conv=>whnf
 refine ah.pure (S.ae2) rfl ?_
 conv=>whnf
 refine ah.pure (S.ae3) rfl ?_
 conv=>whnf
 exact⟨dP _⟩
def Fb(b:Int)(c:List Int):Prop:= ∀ x∈c,0<=x/\x<=b
theorem Fb.g{b:Int}{c:List Int}(h:Fb b c)(hb:0<=b)(i:Nat):0<=c.getD i 0/\c.getD i 0<=b:=by
 by_cases hi:i<c.length
 ·rw[show c.getD i 0=c[i] by simp[hi]]; exact h _ (List.getElem_mem hi)
 ·rw[show c.getD i 0=0 by simp[List.getD_eq_getElem?_getD,List.getElem?_eq_none (by omega:c.length<=i)]]; omega
theorem Fb.add{b k d i:Int}{c:List Int}(h:Fb b c)(hb:0<=b)(hd:0<=d/\d<=k):Fb (b+k) (gU c i d):=by
 intro x hx
 have hg:=h.g hb i.toNat
 rcases List.mem_or_eq_of_mem_set hx with hx|rfl
 ·have:=h x hx; omega
 ·omega
theorem Fb.dec{b i:Int}{c:List Int}(h:Fb b c)(hb:0<=b)(h0:(c.getD i.toNat 0==0)=false):Fb b (aQ c i):=by
 intro x hx
 have hg:=h.g hb i.toNat
 have:=beq_eq_false_iff_ne.1 h0
 rcases List.mem_or_eq_of_mem_set hx with hx|rfl
 ·exact h x hx
 ·omega
theorem Fb.resp{b:Int}{c:List Int}{r:Rule}(h:Fb b c)(hb:0<=b): ∀ i:Nat,Fb (i*b) (oH r c i):=by
 intro i
 induction i with
 |zero=>intro x hx; have:=List.eq_of_mem_replicate hx; subst this; simp
 |succ i ih =>
  rw[uH]
  have h0:0<=(i:Int)*b:=Int.mul_nonneg (by omega) hb
  have:=ih.add h0 (h.g hb i) (i:=r.response.getD i 0)
  have e:((i+1:Nat):Int)*b=i*b+b:=by rw[Int.natCast_succ,Int.add_mul,Int.one_mul]
  rw[e]; exact this
theorem Fb.mono{b k:Int}{c:List Int}(h:Fb b c)(hk:b<=k):Fb k c:=fun x hx=>by have:=h x hx; omega
theorem aa3{r:Rule}{e x:Elem}(hc:Fb 8 e.counts)(hl:e.counts.length<=6)(h:gG r e=some x):F7 x.counts:=by
 have lift: ∀ {c:List Int} {v:Int},Fb 100 c->some (⟨v,gU c r.to 1⟩:Elem)=some x->F7 x.counts:=by
  intro c v hc h; cases h
  exact(hc.add (k:=1) (by omega) ⟨by omega,by omega⟩).mono (by omega)
 unfold gG at h
 cases hs:(decide (0<=r.read)&&e.value !=r.read||e.counts.getD r.fr.toNat 0==0) with
 |true=>rw[hs] at h; cases h
 |false =>
  rw[hs] at h
  rw[Bool.or_eq_false_iff] at hs
  have h1:Fb 8 (aQ e.counts r.fr):=hc.dec (by omega) hs.2
  simp only[cond_false] at h
  rcases iQ h with h|h
  ·rcases iQ h with h|h
   ·cases h
   ·exact lift (h1.mono (by omega)) h
  ·cases hp:(aQ e.counts r.fr).getD r.gB.toNat 0==0 with
   |true =>
    rw[hp] at h
    rcases iQ h with h|h
    ·cases h
    ·rcases iQ h with h|h
     ·refine lift ((h1.resp (by omega) (r:=r) (aQ e.counts r.fr).length).mono ?_) h
      rw[nS]
      have:(e.counts.length:Int)*8<=6*8:=Int.mul_le_mul_of_nonneg_right (by omega) (by omega)
      omega
     ·exact lift (h1.mono (by omega)) h
   |false =>
    rw[hp] at h
    rcases iQ h with h|h
    ·exact lift (((h1.dec (by omega) hp).add (k:=1) (by omega) ⟨by omega,by omega⟩).mono (by omega)) h
    ·rcases iQ h with h|h
     ·refine lift ((h1.resp (by omega) (r:=r) (aQ e.counts r.fr).length).mono ?_) h
      rw[nS]
      have:(e.counts.length:Int)*8<=6*8:=Int.mul_le_mul_of_nonneg_right (by omega) (by omega)
      omega
     ·exact lift (h1.mono (by omega)) h
theorem Yh{r:Rule}{e x:Elem}(h:gG r e=some x):x.value=(bif decide (r.write>=0) then r.write else e.value):=by
 have lift: ∀ {c:List Int},some (⟨bif decide (r.write>=0) then r.write else e.value,c⟩:Elem)=some x->x.value=(bif decide (r.write>=0) then r.write else e.value):=by
  intro c h; cases h; rfl
 unfold gG at h
 rcases iQ h with h|h
 ·cases h
 rcases iQ h with h|h
 ·rcases iQ h with h|h
  ·cases h
  ·exact lift h
 rcases iQ h with h|h
 ·rcases iQ h with h|h
  ·cases h
  ·exact lift h
 rcases iQ h with h|h
 ·exact lift h
 ·exact lift h
structure OE(p:aO)(a:Elem):Prop where
 abs:Ip a
 len:a.counts.length=p.states.length
 val:0<=a.value/\a.value<max 1 (p.values.length:Int)
theorem OE.ini{p:aO}{q:Prop'}{x:Elem}(hc:EW p=0)(h:x∈nJ p q):OE p x:=by
 have hst:=(rE (mJ (wV hc)).1).states
 unfold nJ initK at h
 obtain⟨c,hc',rfl⟩:=List.mem_map.1 h
 obtain⟨h1,h2⟩:=List.mem_filter.1 hc'
 obtain⟨h3,h4⟩:=zO.1 h1
 unfold Pg at h2
 rw[Bool.and_eq_true] at h2
 exact⟨⟨fun y hy=>by have:=h4 y hy; omega,List.all_eq_true.2 fun y hy=>by have:=h4 y hy; simp[le2]; omega,by show c.length<=6; omega,of_decide_eq_true h2.1⟩,h3,by show(0:Int)<=0/\(0:Int)<max 1 (p.values.length:Int); omega⟩
theorem OE.post{p:aO}{r:Rule}{x y:Elem}(hc:EW p=0)(hr:r∈p.rules)(h:OE p x)(hy:y∈mV r x):OE p y:=by
 have hst:=(rE (mJ (wV hc)).1).states
 obtain⟨i,hi,MZ⟩:=List.mem_iff_getElem.1 hr
 have ae4:p.rules.getD i default=r:=by rw[List.getD_eq_getElem?_getD,List.getElem?_eq_getElem hi]; exact MZ
 have hw:WtR x.counts.length r:=by rw[h.len,<- ae4]; exact wtR hc hi
 have hR:=acQ (rE (mJ (wV hc)).1) (KH (mJ (wV hc)).2) hi
 rw[ae4] at hR
 rw[mV,rH] at hy
 obtain⟨e,he,z,hz,rfl⟩:=KR hy
 obtain⟨g0,g1,g2,g3⟩:=AL he
 rw[kH] at g1 g2
 have hn:Fb 8 e.counts:=fun v hv=>by
  obtain⟨j,hj,ej⟩:=List.mem_iff_getElem.1 hv
  have hm:=((DN h.abs.ok).1 g2).2 j (by omega)
  have h2:e.counts.getD j 0=v:=by rw[List.getD_eq_getElem?_getD,List.getElem?_eq_getElem hj]; exact ej
  rw[h2] at hm
  have h3:=h.abs.ok.get (show j<x.counts.length by omega)
  have h4:=List.all_eq_true.1 h.abs.two (x.counts.getD j 0) (iY (by omega))
  have h5:x.counts.getD j 0<=2:=by simpa [le2] using h4
  have:=DR hm
  omega
 have hel:e.counts.length<=6:=by have:=h.abs.len; omega
 have hok:=aa3 hn hel hz
 have hzl:=xG hz
 have agq:F7 e.counts:=fun v hv=>by have:=hn v hv; omega
 have hes:0<e.counts.sum:=by rw[<- DF hel (AP agq)]; exact g3
 have hzs:0<z.counts.sum:=by rw[Ru (by rw[g1]; exact hw) hz]; exact hes
 have hcl:(qh z.counts).length=z.counts.length:=Yc _
 refine⟨⟨Na hok,aa1 _,by show(qh z.counts).length<=6; omega,?_⟩,by show(qh z.counts).length=_; rw[hcl,hzl,g1,h.len],?_⟩
 ·rw[DF (by show(qh z.counts).length<=6; omega) (AP (Na hok))]
  exact aa2 hok hzs
 ·show 0<=z.value/\z.value<max 1 (p.values.length:Int)
  rw[Yh hz]
  have hv:=h.val
  have hwr:=hR.wr
  cases hd:decide (r.write>=0) with
  |true =>
   have:=of_decide_eq_true hd
   simp only[cond_true]
   rcases hwr with k|k
   ·have:=uo k; omega
   ·omega
  |false =>
   simp only[cond_false]
   rw[g0]; exact hv
theorem Py: ∀ {l u:List Elem},l.Nodup->(∀ x∈l,x∈u)->l.length<=u.length:=by
 intro l
 induction l with
 |nil=>intro u _ _; exact Nat.zero_le _
 |cons a l ih =>
  intro u hn hs
  obtain⟨h1,h2⟩:=List.nodup_cons.1 hn
  have ha:=hs a (by simp)
  have:=ih (u:=u.erase a) h2 fun x hx=>(List.mem_erase_of_ne (by rintro rfl; exact h1 hx)).2 (hs x (List.mem_cons_of_mem _ hx))
  rw[List.length_erase_of_mem ha] at this
  have:=List.length_pos_of_mem ha
  rw[List.length_cons]; omega
def BH(p:aO):List Elem:=(List.range (max 1 p.values.length)).flatMap fun v:Nat=>(allM 2 p.states.length).map fun c=>(⟨(v:Int),c⟩:Elem)
theorem aa4{α β:Type}{f:α->List β}{B:Nat}(hf: ∀ x,(f x).length=B): ∀ {l:List α},(l.flatMap f).length=l.length*B:=by
 intro l
 induction l with
 |nil=>simp
 |cons a l ih=>rw[List.flatMap_cons,List.length_append,ih,hf,List.length_cons,Nat.succ_mul]; omega
theorem La{p:aO}:(BH p).length=max 1 p.values.length*3^p.states.length:=by
 unfold BH
 rw[aa4 (B:=3^p.states.length) fun v=>by rw[List.length_map,DT],List.length_range]
theorem OE.univ{p:aO}{x:Elem}(h:OE p x):x∈BH p:=by
 unfold BH
 have hv0:=h.val
 refine List.mem_flatMap.2 ⟨x.value.toNat,List.mem_range.2 (by omega),List.mem_map.2 ⟨x.counts,zO.2 ⟨h.len,fun v hv=>?_⟩,?_⟩⟩
 ·have h1:=h.abs.ok v hv
  have h2:=List.all_eq_true.1 h.abs.two v hv
  have:v<=2:=by simpa [le2] using h2
  omega
 ·obtain⟨v,c⟩:=x
  show(⟨(v.toNat:Int),c⟩:Elem)=⟨v,c⟩
  rw[Int.toNat_of_nonneg hv0.1]
theorem VO{p:aO}{l:List Elem}(hp:fG p)(hc:EW p=0)(hn:l.Nodup)(hs: ∀ x∈l,OE p x):l.length<=(BH p).length/\(BH p).length<=764411904:=by
 have hst:=(rE (mJ (wV hc)).1).states
 refine⟨Py hn fun x hx=>(hs x hx).univ,?_⟩
 rw[La]
 have h3:3^p.states.length<=3^6:=Nat.pow_le_pow_right (by decide) hst
 have hv:=hp.values
 have h1:max 1 p.values.length<=2^20:=by omega
 exact Nat.le_trans (Nat.mul_le_mul h1 h3) (by decide)
inductive Uo(p:aO)(q:Prop'):Elem->Prop
 |ini {x:Elem}:x∈nJ p q->oK q x=true->Uo p q x
 |stp {x y:Elem} {r:Rule}:Uo p q x->r∈p.rules->y∈mV r x->oK q y=true->Uo p q y
theorem Uo.st{p:aO}{q:Prop'}(hc:EW p=0){x:Elem}(h:Uo p q x):OE p x:=by
 induction h with
 |ini h _=>exact OE.ini hc h
 |stp _ hr hy _ ih=>exact ih.post hc hr hy
end Go.Proofs.YtajmbgljnaljiaaGreatDoor
